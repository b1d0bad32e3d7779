/- A cable that goes down makes no distance smaller, and the number of parts grows by at most 1: the plain law; Distances are symmetric and satisfy the triangle inequality; cables that are up join nodes whose distances differ by at most 1; The parts are a partition: each node is in one part, and nodes are in one part exactly if they are connected; The labels that the parts give to the nodes; Chapter 17's Above and what it needs; equality of lists; The cables at a node; a port of a valid plan is at one cable at most; A port of a valid plan is at one cable at most: what Neighbor returns, and the neighbor's neighbor; Closures whose captures are variables are frozen; slices.IndexFunc, slices.ContainsFunc; For every plan, node and port Neighbor and Cables return what the cables say; For every plan a cable that goes down makes no distance smaller, and the number of parts grows by at most 1: the walk; For every plan and state of the cables distances are symmetric, satisfy the triangle inequality, and fit the parts; For every plan and state of the cables distances are symmetric, satisfy the triangle inequality, and fit the parts. Conditions: none. -/
import Derived.Test.YtchpncmmlhfemaaDoorMF
import Derived.Test.YtchpncmmlhfemaaDoorTie
import Derived.Test.YtchpncmmlhfemaaDoorCards
import Derived.SevenTiedAt
import Derived.Stop.Joined
namespace Go.Proofs.YtchpncmmlhfemaaDoor
set_option linter.unusedSimpArgs false
set_option linter.unusedVariables false
open Go.RowKit
set_option maxRecDepth 20000

def con (U : List Cb) (x y : Int) : Prop := ∃ k, W U x k y = true
theorem con_refl (U : List Cb) (x : Int) : con U x x := ⟨0, by simp [W]⟩
theorem con_step {U : List Cb} {x z y : Int} (h : con U x z) (hn : nbr U z y) : con U x y := by
  obtain ⟨k, hk⟩ := h
  exact ⟨k + 1, W_succ.2 (.inr ⟨z, hn, hk⟩)⟩
theorem con_trans {U : List Cb} {x y : Int} (h : con U x y) : ∀ {z : Int}, con U y z → con U x z := by
  intro z ⟨k, hk⟩
  induction k generalizing z with
  | zero => simp [W] at hk; rw [hk]; exact h
  | succ k ih =>
    rcases W_succ.1 hk with h1 | ⟨w, h1, h2⟩
    · exact ih h1
    · exact con_step (ih h2) h1
theorem con_symm {U : List Cb} {x y : Int} : con U x y → con U y x := by
  intro ⟨k, hk⟩
  induction k generalizing y with
  | zero => simp [W] at hk; rw [hk]; exact con_refl _ _
  | succ k ih =>
    rcases W_succ.1 hk with h1 | ⟨w, h1, h2⟩
    · exact ih h1
    · exact con_trans (con_step (con_refl U y) (nbr_symm h1)) (ih h2)
theorem con_dist {n : Nat} {U : List Cb} (hU : CabN n U) {r x : Int} (hr : inN n r) : 0 ≤ distX n U r x ↔ con U r x := by
  rcases distX_cases hU hr x with ⟨h1, h2⟩ | ⟨k, h1, _, h2, _⟩
  · constructor
    · intro h; omega
    · rintro ⟨k, hk⟩; rw [h2 k] at hk; simp at hk
  · exact ⟨fun _ => ⟨k, h2⟩, fun _ => by omega⟩
theorem nbr_sub {U U' : List Cb} (h : ∀ c, c ∈ U → c ∈ U') {x y : Int} (hn : nbr U x y) : nbr U' x y := by
  obtain ⟨c, hc, ho⟩ := hn
  exact ⟨c, h c hc, ho⟩
theorem W_sub {U U' : List Cb} (h : ∀ c, c ∈ U → c ∈ U') {r : Int} : ∀ {k : Nat} {x : Int}, W U r k x = true → W U' r k x = true
  | 0, x, hw => by simpa [W] using hw
  | k + 1, x, hw => by
    rcases W_succ.1 hw with h1 | ⟨z, h1, h2⟩
    · exact W_succ.2 (.inl (W_sub h h1))
    · exact W_succ.2 (.inr ⟨z, nbr_sub h h1, W_sub h h2⟩)
/-- One cable more joins two parts at most. -/
theorem con_more {U U' : List Cb} {e : Cb} (h : ∀ c, c ∈ U' → c ∈ U ∨ c = e) {x : Int} : ∀ {k : Nat} {y : Int}, W U' x k y = true → con U x y ∨ (con U x e.a ∧ con U e.b y) ∨ (con U x e.b ∧ con U e.a y)
  | 0, y, hw => by simp [W] at hw; rw [hw]; exact .inl (con_refl _ _)
  | k + 1, y, hw => by
    rcases W_succ.1 hw with h1 | ⟨z, ⟨c, hc, ho⟩, h2⟩
    · exact con_more h h1
    · rcases h c hc with hcU | rfl
      · have hn : nbr U z y := ⟨c, hcU, ho⟩
        rcases con_more h h2 with g | ⟨g1, g2⟩ | ⟨g1, g2⟩
        · exact .inl (con_step g hn)
        · exact .inr (.inl ⟨g1, con_step g2 hn⟩)
        · exact .inr (.inr ⟨g1, con_step g2 hn⟩)
      · rcases ho with ⟨rfl, rfl⟩ | ⟨rfl, rfl⟩
        · rcases con_more h h2 with g | ⟨g1, _⟩ | ⟨g1, _⟩
          · exact .inr (.inl ⟨g, con_refl _ _⟩)
          · exact .inr (.inl ⟨g1, con_refl _ _⟩)
          · exact .inl g1
        · rcases con_more h h2 with g | ⟨g1, _⟩ | ⟨g1, _⟩
          · exact .inr (.inr ⟨g, con_refl _ _⟩)
          · exact .inl g1
          · exact .inr (.inr ⟨g1, con_refl _ _⟩)
def rootB (n : Nat) (U : List Cb) (f : Nat) : Bool := !(List.range f).any fun g => decide (0 ≤ distX n U (g : Int) (f : Int))
theorem root_iff {n : Nat} {U : List Cb} (hU : CabN n U) {f : Nat} (hf : f < n) : rootB n U f = true ↔ ∀ g, g < f → ¬ con U (g : Int) (f : Int) := by
  unfold rootB
  simp only [Bool.not_eq_true', List.any_eq_false, List.mem_range, decide_eq_true_eq]
  constructor
  · intro h g hg hc
    exact h g hg ((con_dist hU ⟨by omega, by omega⟩).2 hc)
  · intro h g hg hc
    exact h g hg ((con_dist hU ⟨by omega, by omega⟩).1 hc)
theorem goP_roots {n : Nat} {U : List Cb} (hU : CabN n U) : ∀ f, f ≤ n → (goP n U f).2.length = ((List.range f).filter (rootB n U)).length ∧
    ∀ v, v < n → ((goP n U f).1.getD v false = true ↔ ∃ g, g < f ∧ con U (g : Int) (v : Int))
  | 0, _ => by
    refine ⟨rfl, fun v hv => ?_⟩
    simp [goP, List.getD_eq_getElem?_getD, List.getElem?_replicate]
    split <;> simp
  | f + 1, hf => by
    obtain ⟨h1, h2⟩ := goP_roots hU f (by omega)
    have hl := goP_len n U f
    have hs := h2 f (by omega)
    rw [List.range_succ, List.filter_append, List.length_append]
    by_cases hg : (goP n U f).1.getD f false = true
    · have e : goP n U (f + 1) = goP n U f := by rw [goP, if_pos hg]
      obtain ⟨g, g1, g2⟩ := hs.1 hg
      have hr : rootB n U f = false := by
        cases hq : rootB n U f
        · rfl
        · exact absurd g2 ((root_iff hU (by omega)).1 hq g g1)
      rw [e]
      refine ⟨by simp [hr, h1], fun v hv => ?_⟩
      rw [h2 v hv]
      constructor
      · rintro ⟨x, x1, x2⟩; exact ⟨x, by omega, x2⟩
      · rintro ⟨x, x1, x2⟩
        by_cases hx : x = f
        · subst hx; exact ⟨g, g1, con_trans g2 x2⟩
        · exact ⟨x, by omega, x2⟩
    · have e : goP n U (f + 1) = (seeT (goP n U f).1 n U f n, (goP n U f).2 ++ [parT n U f n]) := by rw [goP, if_neg hg]
      have hr : rootB n U f = true := (root_iff hU (by omega)).2 fun g g1 g2 => hg (hs.2 ⟨g, g1, g2⟩)
      rw [e]
      refine ⟨by simp [hr, h1], fun v hv => ?_⟩
      rw [seeT_get (by omega), decide_eq_true hv, Bool.true_and, Bool.or_eq_true, h2 v hv, decide_eq_true_eq, con_dist hU (show inN n (f : Int) from ⟨by omega, by omega⟩)]
      constructor
      · rintro (⟨x, x1, x2⟩ | h3)
        · exact ⟨x, by omega, x2⟩
        · exact ⟨f, by omega, h3⟩
      · rintro ⟨x, x1, x2⟩
        by_cases hx : x = f
        · subst hx; exact .inr x2
        · exact .inl ⟨x, by omega, x2⟩
theorem goP_le (n : Nat) (U : List Cb) : ∀ f, (goP n U f).2.length ≤ f
  | 0 => Nat.le_refl _
  | f + 1 => by
    have := goP_le n U f
    unfold goP
    split
    · omega
    · simp; omega
theorem partsE_le (p : Pl) (u : List Bool) : (partsE p u).length ≤ p.ns.length := by
  unfold partsE
  split
  · exact goP_le _ _ _
  · exact Nat.zero_le _
theorem cnt_one {P Q : Nat → Bool} : ∀ n, (∀ i, i < n → P i = true → Q i = true) → (∀ i j, i < j → j < n → Q i = true → P i = false → Q j = true → P j = false → False) →
    ((List.range n).filter Q).length = ((List.range n).filter P).length ∧ (∀ i, i < n → Q i = true → P i = true) ∨ ((List.range n).filter Q).length = ((List.range n).filter P).length + 1 ∧ ∃ i, i < n ∧ Q i = true ∧ P i = false
  | 0, _, _ => .inl ⟨rfl, fun i hi => by omega⟩
  | n + 1, h1, h2 => by
    have ih := cnt_one n (fun i hi => h1 i (by omega)) (fun i j hi hj => h2 i j hi (by omega))
    rw [List.range_succ, List.filter_append, List.filter_append, List.length_append, List.length_append]
    cases hp : P n
    · cases hq : Q n
      · rcases ih with ⟨a, b⟩ | ⟨a, i, b⟩
        · refine .inl ⟨by simp [hp, hq, a], fun i hi hQ => ?_⟩
          by_cases e : i = n
          · subst e; rw [hq] at hQ; simp at hQ
          · exact b i (by omega) hQ
        · exact .inr ⟨by simp [hp, hq, a], i, by omega, b.2⟩
      · rcases ih with ⟨a, b⟩ | ⟨a, i, b⟩
        · exact .inr ⟨by simp [hp, hq, a], n, by omega, hq, hp⟩
        · exact (h2 i n b.1 (by omega) b.2.1 b.2.2 hq hp).elim
    · have hq := h1 n (by omega) hp
      rcases ih with ⟨a, b⟩ | ⟨a, i, b⟩
      · refine .inl ⟨by simp [hp, hq, a], fun i hi hQ => ?_⟩
        by_cases e : i = n
        · subst e; exact hp
        · exact b i (by omega) hQ
      · exact .inr ⟨by simp [hp, hq, a], i, by omega, b.2⟩
theorem set_getD {up : List Bool} {K j : Nat} {b : Bool} (hj : j < up.length) : (up.set K b).getD j false = if K = j then b else up.getD j false := by
  rw [List.getD_eq_getElem?_getD, List.getElem?_set]
  split
  · rename_i e; subst e; simp [hj]
  · rw [List.getD_eq_getElem?_getD]
theorem down_sub {cs : List Cb} {up : List Bool} {K : Nat} (hup : up.length = cs.length) {c : Cb} (h : c ∈ upU cs (up.set K false)) : c ∈ upU cs (up.set K true) := by
  obtain ⟨j, hj, h1, h2⟩ := upP_mem.1 h
  refine upP_mem.2 ⟨j, hj, ?_, h2⟩
  rw [set_getD (by omega)] at h1 ⊢
  split at h1
  · simp at h1
  · rw [if_neg (by assumption)]; exact h1
theorem up_sub {cs : List Cb} {up : List Bool} {K : Nat} (hup : up.length = cs.length) {c : Cb} (h : c ∈ upU cs (up.set K true)) : c ∈ upU cs (up.set K false) ∨ c = cs.getD K default := by
  obtain ⟨j, hj, h1, h2⟩ := upP_mem.1 h
  by_cases e : K = j
  · subst e; exact .inr h2.symm
  · refine .inl (upP_mem.2 ⟨j, hj, ?_, h2⟩)
    rw [set_getD (by omega), if_neg e] at h1
    rw [set_getD (by omega), if_neg e]; exact h1
theorem mon_dist {p : Pl} (hV : PlVal p) {r : Int} (hr : inN p.ns.length r) {up : List Bool} {K : Nat} (hup : up.length = p.cs.length) : ∀ v, v < p.ns.length →
    0 ≤ (distL p.ns.length (upU p.cs (up.set K false)) r).getD v 0 → 0 ≤ (distL p.ns.length (upU p.cs (up.set K true)) r).getD v 0 ∧ (distL p.ns.length (upU p.cs (up.set K true)) r).getD v 0 ≤ (distL p.ns.length (upU p.cs (up.set K false)) r).getD v 0 := by
  intro v hv
  rw [distL_getD hv, distL_getD hv]
  rcases distX_cases (upU_in (up := up.set K false) hV.cab) hr (v : Int) with ⟨h1, _⟩ | ⟨k, h1, _, h2, _⟩
  · intro h; omega
  · intro _
    have h3 := W_sub (fun c hc => down_sub hup hc) h2
    rcases distX_cases (upU_in (up := up.set K true) hV.cab) hr (v : Int) with ⟨_, g2⟩ | ⟨m, g1, _, _, g3⟩
    · rw [g2 k] at h3; simp at h3
    · have : ¬ k < m := fun hlt => by rw [g3 k hlt] at h3; simp at h3
      omega
theorem cnt_parts {p : Pl} (hv : validE p = 0) {up : List Bool} {K : Nat} (hup : up.length = p.cs.length) :
    (partsE p (up.set K false)).length = (partsE p (up.set K true)).length ∨ (partsE p (up.set K false)).length = (partsE p (up.set K true)).length + 1 := by
  have hV := valid_of hv
  have hE : ∀ b, partsE p (up.set K b) = (goP p.ns.length (upU p.cs (up.set K b)) p.ns.length).2 := fun b => by
    unfold partsE usableB
    rw [decide_eq_true hv, decide_eq_true (show (up.set K b).length = p.cs.length by rw [List.length_set]; exact hup)]; rfl
  have hA := upU_in (up := up.set K true) hV.cab
  have hB := upU_in (up := up.set K false) hV.cab
  rw [hE, hE, (goP_roots hA _ (Nat.le_refl _)).1, (goP_roots hB _ (Nat.le_refl _)).1]
  have key : ∀ f, f < p.ns.length → rootB p.ns.length (upU p.cs (up.set K false)) f = true → rootB p.ns.length (upU p.cs (up.set K true)) f = false →
      ∃ g : Nat, g < f ∧ ((con (upU p.cs (up.set K false)) g (p.cs.getD K default).a ∧ con (upU p.cs (up.set K false)) (p.cs.getD K default).b f) ∨ (con (upU p.cs (up.set K false)) g (p.cs.getD K default).b ∧ con (upU p.cs (up.set K false)) (p.cs.getD K default).a f)) := by
    intro f hf h1 h2
    rw [root_iff hB hf] at h1
    have h3 : ¬ ∀ g, g < f → ¬ con (upU p.cs (up.set K true)) (g : Int) (f : Int) := fun h => by
      rw [(root_iff hA hf).2 h] at h2; simp at h2
    simp only [Classical.not_forall, Classical.not_not] at h3
    obtain ⟨g, hg, k, hk⟩ := h3
    rcases con_more (fun c hc => up_sub hup hc) hk with h4 | h4 | h4
    · exact absurd h4 (h1 g hg)
    · exact ⟨g, hg, .inl h4⟩
    · exact ⟨g, hg, .inr h4⟩
  have q1 : ∀ i, i < p.ns.length → rootB p.ns.length (upU p.cs (up.set K true)) i = true → rootB p.ns.length (upU p.cs (up.set K false)) i = true := by
    intro i hi h
    rw [root_iff hB hi]
    rw [root_iff hA hi] at h
    intro g hg ⟨k, hk⟩
    exact h g hg ⟨k, W_sub (fun c hc => down_sub hup hc) hk⟩
  have q2 : ∀ i j, i < j → j < p.ns.length → rootB p.ns.length (upU p.cs (up.set K false)) i = true → rootB p.ns.length (upU p.cs (up.set K true)) i = false → rootB p.ns.length (upU p.cs (up.set K false)) j = true → rootB p.ns.length (upU p.cs (up.set K true)) j = false → False := by
    intro i j hij hj h1 h2 h3 h4
    obtain ⟨g1, a1, a2⟩ := key i (by omega) h1 h2
    obtain ⟨g2, b1, b2⟩ := key j hj h3 h4
    rw [root_iff hB hj] at h3
    rcases a2 with ⟨a3, a4⟩ | ⟨a3, a4⟩ <;> rcases b2 with ⟨b3, b4⟩ | ⟨b3, b4⟩
    · exact h3 i hij (con_trans (con_symm a4) b4)
    · exact h3 g1 (by omega) (con_trans a3 b4)
    · exact h3 g1 (by omega) (con_trans a3 b4)
    · exact h3 i hij (con_trans (con_symm a4) b4)
  rcases cnt_one p.ns.length q1 q2 with ⟨h, _⟩ | ⟨h, _⟩
  · exact .inl h
  · exact .inr h
end Go.Proofs.YtchpncmmlhfemaaDoor
namespace Go.Proofs.YtchpncmmlhfemaaDoor
set_option linter.unusedSimpArgs false
set_option linter.unusedVariables false
open Go.RowKit
set_option maxRecDepth 20000

theorem W_one {U : List Cb} {x y : Int} (h : nbr U x y) : W U x 1 y = true := W_succ.2 (.inr ⟨x, h, by simp [W]⟩)
theorem W_add {U : List Cb} {x y : Int} {j : Nat} (h : W U x j y = true) : ∀ {k : Nat} {z : Int}, W U y k z = true → W U x (j + k) z = true
  | 0, z, hw => by simp [W] at hw; rw [hw]; exact h
  | k + 1, z, hw => by
    rcases W_succ.1 hw with h1 | ⟨w, h1, h2⟩
    · exact W_succ.2 (.inl (W_add h h1))
    · exact W_succ.2 (.inr ⟨w, h1, W_add h h2⟩)
theorem W_symm {U : List Cb} {x : Int} : ∀ {k : Nat} {y : Int}, W U x k y = true → W U y k x = true
  | 0, y, hw => by simp [W] at hw ⊢; rw [hw]
  | k + 1, y, hw => by
    rcases W_succ.1 hw with h1 | ⟨w, h1, h2⟩
    · exact W_succ.2 (.inl (W_symm h1))
    · have := W_add (W_one (nbr_symm h1)) (W_symm h2)
      rwa [Nat.add_comm] at this
theorem dist_le {n : Nat} {U : List Cb} (hU : CabN n U) {x y : Int} (hx : inN n x) {k : Nat} (hw : W U x k y = true) : 0 ≤ distX n U x y ∧ distX n U x y ≤ k := by
  rcases distX_cases hU hx y with ⟨_, h2⟩ | ⟨m, h1, _, _, h3⟩
  · rw [h2 k] at hw; simp at hw
  · have : ¬ k < m := fun h => by rw [h3 k h] at hw; simp at hw
    omega
theorem dist_W {n : Nat} {U : List Cb} (hU : CabN n U) {x y : Int} (hx : inN n x) (h : 0 ≤ distX n U x y) : W U x (distX n U x y).toNat y = true := by
  rcases distX_cases hU hx y with ⟨h1, _⟩ | ⟨m, h1, _, h2, _⟩
  · omega
  · rw [h1]; simpa using h2
theorem dist_neg {n : Nat} {U : List Cb} (hU : CabN n U) {x y : Int} (hx : inN n x) (h : ¬ 0 ≤ distX n U x y) : distX n U x y = -1 := by
  rcases distX_cases hU hx y with ⟨h1, _⟩ | ⟨m, h1, _⟩
  · exact h1
  · omega
theorem dist_symm {n : Nat} {U : List Cb} (hU : CabN n U) {x y : Int} (hx : inN n x) (hy : inN n y) : distX n U x y = distX n U y x := by
  have key : ∀ {x y : Int}, inN n x → inN n y → 0 ≤ distX n U x y → 0 ≤ distX n U y x ∧ distX n U y x ≤ distX n U x y := by
    intro x y hx hy h
    have := dist_le hU hy (W_symm (dist_W hU hx h))
    omega
  by_cases h1 : 0 ≤ distX n U x y
  · have a := key hx hy h1
    have b := key hy hx a.1
    omega
  · by_cases h2 : 0 ≤ distX n U y x
    · exact absurd (key hy hx h2).1 h1
    · rw [dist_neg hU hx h1, dist_neg hU hy h2]
theorem dist_zero {n : Nat} {U : List Cb} (hU : CabN n U) {x y : Int} (hx : inN n x) : distX n U x y = 0 ↔ x = y := by
  constructor
  · intro h
    have := dist_W hU hx (show 0 ≤ distX n U x y by omega)
    rw [h] at this
    simp [W] at this
    exact this.symm
  · rintro rfl
    have := dist_le hU hx (k := 0) (x := x) (y := x) (by simp [W])
    omega
theorem dist_tri {n : Nat} {U : List Cb} (hU : CabN n U) {x y z : Int} (hx : inN n x) (hy : inN n y) (h1 : 0 ≤ distX n U x y) (h2 : 0 ≤ distX n U y z) : 0 ≤ distX n U x z ∧ distX n U x z ≤ distX n U x y + distX n U y z := by
  have := dist_le hU hx (W_add (dist_W hU hx h1) (dist_W hU hy h2))
  omega
theorem dist_cab {n : Nat} {U : List Cb} (hU : CabN n U) {x y z : Int} (hx : inN n x) (h : nbr U y z) : (0 ≤ distX n U x y → 0 ≤ distX n U x z ∧ distX n U x z ≤ distX n U x y + 1) := by
  intro h1
  have := dist_le hU hx (W_add (dist_W hU hx h1) (W_one h))
  omega
theorem dist_up {n : Nat} {U : List Cb} (hU : CabN n U) {x : Int} (hx : inN n x) {c : Cb} (hc : c ∈ U) :
    (distX n U x c.a < 0 ↔ distX n U x c.b < 0) ∧ distX n U x c.a - distX n U x c.b ≤ 1 ∧ distX n U x c.b - distX n U x c.a ≤ 1 := by
  have h1 := dist_cab hU hx (⟨c, hc, .inl ⟨rfl, rfl⟩⟩ : nbr U c.a c.b)
  have h2 := dist_cab hU hx (⟨c, hc, .inr ⟨rfl, rfl⟩⟩ : nbr U c.b c.a)
  by_cases g1 : 0 ≤ distX n U x c.a
  · have := h1 g1
    have := h2 this.1
    omega
  · by_cases g2 : 0 ≤ distX n U x c.b
    · exact absurd (h2 g2).1 g1
    · rw [dist_neg hU hx g1, dist_neg hU hx g2]; omega
end Go.Proofs.YtchpncmmlhfemaaDoor
namespace Go.Proofs.YtchpncmmlhfemaaDoor
set_option linter.unusedSimpArgs false
set_option linter.unusedVariables false
open Go.RowKit
set_option maxRecDepth 20000

theorem goP_map {n : Nat} {U : List Cb} (hU : CabN n U) : ∀ f, f ≤ n → (goP n U f).2 = ((List.range f).filter (rootB n U)).map fun r => parT n U r n
  | 0, _ => rfl
  | f + 1, hf => by
    have ih := goP_map hU f (by omega)
    have hs := (goP_roots hU f (by omega)).2 f (by omega)
    rw [List.range_succ, List.filter_append, List.map_append, ← ih]
    by_cases hg : (goP n U f).1.getD f false = true
    · have e : goP n U (f + 1) = goP n U f := by rw [goP, if_pos hg]
      obtain ⟨g, g1, g2⟩ := hs.1 hg
      have hr : rootB n U f = false := by
        cases hq : rootB n U f
        · rfl
        · exact absurd g2 ((root_iff hU (by omega)).1 hq g g1)
      rw [e]; simp [hr]
    · have e : goP n U (f + 1) = (seeT (goP n U f).1 n U f n, (goP n U f).2 ++ [parT n U f n]) := by rw [goP, if_neg hg]
      have hr : rootB n U f = true := (root_iff hU (by omega)).2 fun g g1 g2 => hg (hs.2 ⟨g, g1, g2⟩)
      rw [e]; simp [hr]
theorem filter_or {S q : Nat → Bool} : ∀ n, (∀ v, v < n → S v = true → q v = true → False) → ((List.range n).filter fun v => S v || q v).length = ((List.range n).filter S).length + ((List.range n).filter q).length
  | 0, _ => rfl
  | n + 1, h => by
    have ih := filter_or n (fun v hv => h v (by omega))
    have hn := h n (by omega)
    rw [List.range_succ, List.filter_append, List.filter_append, List.filter_append, List.length_append, List.length_append, List.length_append, ih]
    cases h1 : S n <;> cases h2 : q n
    · simp [h1, h2]
    · simp [h1, h2]; omega
    · simp [h1, h2]; omega
    · exact (hn h1 h2).elim
def sumL (P : List (List Int)) (k : Nat) : Nat := ((P.take k).map List.length).sum
theorem goP_count {n : Nat} {U : List Cb} (hU : CabN n U) : ∀ f, f ≤ n → ((List.range n).filter fun v => (goP n U f).1.getD v false).length = ((goP n U f).2.map List.length).sum
  | 0, _ => by
    have : ((List.range n).filter fun v => (goP n U 0).1.getD v false) = [] := by
      rw [List.filter_eq_nil_iff]
      intro v hv
      have : v < n := List.mem_range.1 hv
      simp [goP, List.getD_eq_getElem?_getD, List.getElem?_replicate, this]
    rw [this]; rfl
  | f + 1, hf => by
    have ih := goP_count hU f (by omega)
    have hr := (goP_roots hU f (by omega)).2
    by_cases hg : (goP n U f).1.getD f false = true
    · have e : goP n U (f + 1) = goP n U f := by rw [goP, if_pos hg]
      rw [e, ih]
    · have e : goP n U (f + 1) = (seeT (goP n U f).1 n U f n, (goP n U f).2 ++ [parT n U f n]) := by rw [goP, if_neg hg]
      have e2 : ((List.range n).filter fun v => (seeT (goP n U f).1 n U f n).getD v false) = (List.range n).filter fun v => (goP n U f).1.getD v false || decide (0 ≤ distX n U (f : Int) (v : Int)) := by
        refine List.filter_congr fun v hv => ?_
        have hv' : v < n := List.mem_range.1 hv
        rw [seeT_get (by rw [goP_len]; exact hv'), decide_eq_true hv', Bool.true_and]
      rw [e]
      simp only
      rw [e2, filter_or (S := fun v => (goP n U f).1.getD v false) (q := fun v => decide (0 ≤ distX n U (f : Int) (v : Int))) n (fun v hv h1 h2 => ?_), ih, List.map_append, List.sum_append]
      · simp [parT]
      · obtain ⟨g, g1, g2⟩ := (hr v hv).1 h1
        have h3 := (con_dist hU (show inN n (f : Int) from ⟨by omega, by omega⟩)).1 (of_decide_eq_true h2)
        exact hg ((hr f (by omega)).2 ⟨g, g1, con_trans g2 (con_symm h3)⟩)
theorem parts_sum {n : Nat} {U : List Cb} (hU : CabN n U) : ((goP n U n).2.map List.length).sum = n := by
  rw [← goP_count hU n (Nat.le_refl _)]
  have : ((List.range n).filter fun v => (goP n U n).1.getD v false) = List.range n := by
    rw [List.filter_eq_self]
    intro v hv
    have hv' : v < n := List.mem_range.1 hv
    exact ((goP_roots hU n (Nat.le_refl _)).2 v hv').2 ⟨v, hv', con_refl _ _⟩
  rw [this, List.length_range]
theorem parT_con {n : Nat} {U : List Cb} (hU : CabN n U) {r : Nat} (hr : r < n) {v : Int} : v ∈ parT n U r n ↔ inN n v ∧ con U (r : Int) v := by
  unfold parT inN
  simp only [List.mem_map, List.mem_filter, List.mem_range, decide_eq_true_eq]
  constructor
  · rintro ⟨k, ⟨h1, h2⟩, rfl⟩
    exact ⟨⟨by omega, by omega⟩, (con_dist hU ⟨by omega, by omega⟩).1 h2⟩
  · rintro ⟨⟨h1, h2⟩, h3⟩
    refine ⟨v.toNat, ⟨by omega, ?_⟩, by omega⟩
    rw [show ((v.toNat : Nat) : Int) = v by omega]
    exact (con_dist hU ⟨by omega, by omega⟩).2 h3
/-- Each node has its part. -/
theorem part_ex {n : Nat} {U : List Cb} (hU : CabN n U) {v : Int} (hv : inN n v) : ∃ i, i < (goP n U n).2.length ∧ v ∈ (goP n U n).2.getD i [] := by
  have hex : ∃ r : Nat, r < n ∧ con U (r : Int) v := ⟨v.toNat, by unfold inN at hv; omega, by rw [show ((v.toNat : Nat) : Int) = v by unfold inN at hv; omega]; exact con_refl _ _⟩
  have hroot : ∃ r : Nat, r < n ∧ con U (r : Int) v ∧ rootB n U r = true := by
    obtain ⟨r, h1, h2⟩ := hex
    induction r using Nat.strongRecOn with
    | ind r ih =>
      by_cases hq : rootB n U r = true
      · exact ⟨r, h1, h2, hq⟩
      · rw [root_iff hU h1] at hq
        simp only [Classical.not_forall, Classical.not_not] at hq
        obtain ⟨g, g1, g2⟩ := hq
        exact ih g g1 (by omega) (con_trans g2 h2)
  obtain ⟨r, h1, h2, h3⟩ := hroot
  have hm : parT n U r n ∈ (goP n U n).2 := by
    rw [goP_map hU n (Nat.le_refl _)]
    exact List.mem_map.2 ⟨r, List.mem_filter.2 ⟨List.mem_range.2 h1, h3⟩, rfl⟩
  obtain ⟨i, hi, e⟩ := List.getElem_of_mem hm
  refine ⟨i, hi, ?_⟩
  rw [List.getD_eq_getElem?_getD, List.getElem?_eq_getElem hi, Option.getD_some, e]
  exact (parT_con hU h1).2 ⟨hv, h2⟩
theorem part_root {n : Nat} {U : List Cb} (hU : CabN n U) {i : Nat} (hi : i < (goP n U n).2.length) : ∃ r : Nat, r < n ∧ rootB n U r = true ∧ (goP n U n).2.getD i [] = parT n U r n ∧ ((List.range n).filter (rootB n U))[i]? = some r := by
  have hm := goP_map hU n (Nat.le_refl _)
  rw [hm, List.length_map] at hi
  refine ⟨((List.range n).filter (rootB n U))[i], ?_, ?_, ?_, List.getElem?_eq_getElem hi⟩
  · exact List.mem_range.1 (List.mem_filter.1 (List.getElem_mem hi)).1
  · exact (List.mem_filter.1 (List.getElem_mem hi)).2
  · rw [hm, List.getD_eq_getElem?_getD, List.getElem?_map, List.getElem?_eq_getElem hi]; rfl
theorem part_in {n : Nat} {U : List Cb} (hU : CabN n U) {i : Nat} (hi : i < (goP n U n).2.length) {v : Int} (hv : v ∈ (goP n U n).2.getD i []) : inN n v := by
  obtain ⟨r, h1, _, e, _⟩ := part_root hU hi
  rw [e, parT_con hU h1] at hv
  exact hv.1
/-- Nodes of one part are connected, nodes of two parts are not. -/
theorem part_iff {n : Nat} {U : List Cb} (hU : CabN n U) {i j : Nat} (hi : i < (goP n U n).2.length) (hj : j < (goP n U n).2.length) {a b : Int} (ha : a ∈ (goP n U n).2.getD i []) (hb : b ∈ (goP n U n).2.getD j []) : i = j ↔ con U a b := by
  obtain ⟨r, h1, h2, e, e1⟩ := part_root hU hi
  obtain ⟨s, g1, g2, f, f1⟩ := part_root hU hj
  rw [e, parT_con hU h1] at ha
  rw [f, parT_con hU g1] at hb
  constructor
  · intro h
    subst h
    rw [e1] at f1
    obtain rfl := Option.some.inj f1
    exact con_trans (con_symm ha.2) hb.2
  · intro h
    have hrs : con U (r : Int) (s : Int) := con_trans (con_trans ha.2 h) (con_symm hb.2)
    have hrs2 : r = s := by
      rcases Nat.lt_trichotomy r s with h | h | h
      · exact absurd hrs ((root_iff hU g1).1 g2 r h)
      · exact h
      · exact absurd (con_symm hrs) ((root_iff hU h1).1 h2 s h)
    subst hrs2
    have hnd : ((List.range n).filter (rootB n U)).Nodup := (List.nodup_range (n := n)).sublist List.filter_sublist
    obtain ⟨hi', e2⟩ := List.getElem?_eq_some_iff.1 e1
    obtain ⟨hj', f2⟩ := List.getElem?_eq_some_iff.1 f1
    exact (List.getElem_inj hnd).1 (e2.trans f2.symm)
end Go.Proofs.YtchpncmmlhfemaaDoor
namespace Go.Proofs.YtchpncmmlhfemaaDoor
set_option linter.unusedSimpArgs false
set_option linter.unusedVariables false
open Go.RowKit
set_option maxRecDepth 20000

def labF (m : List Int) (i : Int) (l : List Int) : List Int := l.foldl (fun m v => m.set v.toNat i) m
theorem labF_len (i : Int) : ∀ (l m : List Int), (labF m i l).length = m.length
  | [], _ => rfl
  | v :: l, m => by
    show (labF (m.set v.toNat i) i l).length = _
    rw [labF_len i l, List.length_set]
theorem labF_succ {m : List Int} {i : Int} {l : List Int} {k : Nat} (h : k < l.length) : labF m i (l.take (k + 1)) = (labF m i (l.take k)).set (l.getD k 0).toNat i := by
  rw [take_succ_getD 0 l k h]
  unfold labF
  rw [List.foldl_append]; rfl
theorem labF_get {i : Int} {x : Nat} : ∀ {l m : List Int}, (∀ v, v ∈ l → 0 ≤ v) → x < m.length → (labF m i l).getD x 0 = if (x : Int) ∈ l then i else m.getD x 0
  | [], m, _, _ => by simp [labF]
  | v :: l, m, h, hx => by
    show (labF (m.set v.toNat i) i l).getD x 0 = _
    rw [labF_get (fun w hw => h w (by simp [hw])) (by rw [List.length_set]; exact hx)]
    have hv := h v (by simp)
    by_cases e : (x : Int) ∈ l
    · rw [if_pos e, if_pos (by simp [e])]
    · rw [if_neg e]
      by_cases e2 : (x : Int) = v
      · rw [if_pos (by simp [e2]), List.getD_eq_getElem?_getD, show v.toNat = x by omega, List.getElem?_set_self hx]; rfl
      · rw [if_neg (by simp [e, e2]), List.getD_eq_getElem?_getD, List.getElem?_set_ne (by omega), ← List.getD_eq_getElem?_getD]
def labs (P : List (List Int)) (n : Nat) : Nat → List Int
  | 0 => List.replicate n 0
  | j + 1 => labF (labs P n j) (j : Int) (P.getD j [])
theorem labs_len (P : List (List Int)) (n : Nat) : ∀ j, (labs P n j).length = n
  | 0 => by simp [labs]
  | j + 1 => by unfold labs; rw [labF_len, labs_len P n j]
theorem labs_get {n : Nat} {U : List Cb} (hU : CabN n U) {x : Nat} (hx : x < n) : ∀ {k : Nat}, k ≤ (goP n U n).2.length → ∀ {j : Nat}, j < k → (x : Int) ∈ (goP n U n).2.getD j [] → (labs (goP n U n).2 n k).getD x 0 = (j : Int)
  | 0, _, j, hj, _ => by omega
  | k + 1, hk, j, hj, hm => by
    have hk2 : k < (goP n U n).2.length := by omega
    have hpos : ∀ v, v ∈ (goP n U n).2.getD k [] → 0 ≤ v := fun v hv => (part_in hU hk2 hv).1
    unfold labs
    rw [labF_get hpos (by rw [labs_len]; exact hx)]
    by_cases e : (x : Int) ∈ (goP n U n).2.getD k []
    · rw [if_pos e]
      have := (part_iff hU hk2 (show j < _ by omega) e hm).2 (con_refl _ _)
      omega
    · rw [if_neg e]
      have : j ≠ k := fun h => e (h ▸ hm)
      exact labs_get hU hx (by omega) (by omega) hm
/-- Labels are equal exactly if the nodes are connected. -/
theorem labs_iff {n : Nat} {U : List Cb} (hU : CabN n U) {a b : Nat} (ha : a < n) (hb : b < n) :
    (labs (goP n U n).2 n (goP n U n).2.length).getD a 0 = (labs (goP n U n).2 n (goP n U n).2.length).getD b 0 ↔ 0 ≤ distX n U (a : Int) (b : Int) := by
  have hia : inN n (a : Int) := ⟨by omega, by omega⟩
  have hib : inN n (b : Int) := ⟨by omega, by omega⟩
  obtain ⟨i, hi, hi2⟩ := part_ex hU hia
  obtain ⟨j, hj, hj2⟩ := part_ex hU hib
  rw [labs_get hU ha (Nat.le_refl _) hi hi2, labs_get hU hb (Nat.le_refl _) hj hj2, con_dist hU hia, ← part_iff hU hi hj hi2 hj2]
  omega
theorem sumL_succ {P : List (List Int)} {j : Nat} (h : j < P.length) : sumL P (j + 1) = sumL P j + (P.getD j []).length := by
  unfold sumL
  rw [take_succ_getD [] P j h, List.map_append, List.sum_append]; simp
theorem sumL_all (P : List (List Int)) : sumL P P.length = (P.map List.length).sum := by
  unfold sumL; rw [List.take_length]
theorem sumL_le (P : List (List Int)) (j : Nat) : sumL P j ≤ (P.map List.length).sum := by
  unfold sumL
  have : P.map List.length = (P.take j).map List.length ++ (P.drop j).map List.length := by rw [← List.map_append, List.take_append_drop]
  rw [this, List.sum_append]
  omega
end Go.Proofs.YtchpncmmlhfemaaDoor
namespace Go.Proofs.YtchpncmmlhfemaaDoor
set_option linter.unusedSimpArgs false
set_option linter.unusedVariables false
open Go.RowKit

/-- A cell that holds one list, seen as read-only. -/
theorem roTo2_cell {h : LH} {k ver : Nat} {z n : Nat} {f : Nat → List LV} (hk : k < h.n) (hv : h.f k = (ver, .box [.rsl z n f])) : roTo2 h (.ptr k ver 0 0 0) (.rptr [.rsl z n f]) := by
  refine ⟨hk, by rw [hv], rfl, rfl, rfl, ?_⟩
  rw [hv]
  exact ⟨by rw [roTo1_rsl], trivial⟩
def cmpI (x y : Int) : Int := bif decide (x < y) then -1 else bif decide (y < x) then 1 else 0
def orI : List Int → Int
  | [] => 0
  | x :: r => bif decide (x = 0) then orI r else x
theorem orI_take (l : List Int) (i : Nat) (hi : i < l.length) (h : ∀ j, j < i → l.getD j 0 = 0) : orI l = orI (l.drop i) := by
  induction i generalizing l with
  | zero => rfl
  | succ i ih =>
    cases l with
    | nil => simp at hi
    | cons x r =>
      have h0 := h 0 (by omega)
      simp only [List.getD_cons_zero] at h0
      have := ih r (by simpa using hi) (fun j hj => by have := h (j + 1) (by omega); simpa using this)
      simp only [orI, h0, decide_true, cond_true, List.drop_succ_cons]
      exact this
theorem ev_equal (l m : List Int) : Ev Tryd.prog 21 [intsV l, intsV m] (.sc (.bool (decide (l = m)))) := by
  unfold intsV
  refine ev_fn Tryd.func21 comp21 (show 2 ≤ Tryd.f21.ntmps by decide) ?_; unfold cf21 rf21; simp only [↓EVP0, EVQ0, EVQ1, EVQ2, EVQ3, EVQ4, EVA, EVK, EVF, ↓reduceIte, Nat.reduceEqDiff, Nat.reduceAdd, Nat.reduceSub, Nat.reduceMul, Nat.reduceLT, Nat.reduceLeDiff, reduceCtorEq, Int.reduceToNat, Int.reduceLT, Int.reduceLE, Int.reduceAdd, Int.reduceSub, Int.reduceMul, Int.reduceNeg, Int.reduceEq, Nat.reduceMod, forall_eq_or_imp, forall_eq, forall_const, cond_true, cond_false, decide_true, decide_false, true_imp_iff, implies_true, Int.cast_ofNat_Int, forall_eq']
  intro hl hm
  refine ⟨fun hg => ?_, fun hg _ => ?_⟩
  · have : l ≠ m := fun e => by subst e; simp at hg
    simp [this]
  have hlm : l.length = m.length := by simp at hg; omega
  refine lwp_for (α := Unit) l.length (fun i _ => ∀ j, j < i → l.getD j 0 = m.getD j 0) (fun i _ => [(0, .rsl 1 l.length (intsF l)), (1, .rsl 1 m.length (intsF m)), (12, .sc (.int .i64 l.length)), (13, .sc (.int .i64 i))]) (fun _ _ => []) () (fun j hj => absurd hj (Nat.not_lt_zero _)) ?_ (fun _ _ => Nat.zero_le _) ?_
  · simp only [↓EVP0, EVQ0, EVQ1, EVQ2, EVQ3, EVQ4, EVA, EVK, EVF, ↓reduceIte, Nat.reduceEqDiff, Nat.reduceAdd, Nat.reduceSub, Nat.reduceMul, Nat.reduceLT, Nat.reduceLeDiff, reduceCtorEq, Int.reduceToNat, Int.reduceLT, Int.reduceLE, Int.reduceAdd, Int.reduceSub, Int.reduceMul, Int.reduceNeg, Int.reduceEq, Nat.reduceMod, forall_eq_or_imp, forall_eq, forall_const, cond_true, cond_false, decide_true, decide_false, true_imp_iff, implies_true, Int.cast_ofNat_Int, forall_eq']
  intro i _ hi hx
  unfold lb21_0
  simp only [↓EVP0, EVQ0, EVQ1, EVQ2, EVQ3, EVQ4, EVA, EVK, EVF, ↓reduceIte, Nat.reduceEqDiff, Nat.reduceAdd, Nat.reduceSub, Nat.reduceMul, Nat.reduceLT, Nat.reduceLeDiff, reduceCtorEq, Int.reduceToNat, Int.reduceLT, Int.reduceLE, Int.reduceAdd, Int.reduceSub, Int.reduceMul, Int.reduceNeg, Int.reduceEq, Nat.reduceMod, forall_eq_or_imp, forall_eq, forall_const, cond_true, cond_false, decide_true, decide_false, true_imp_iff, implies_true, Int.cast_ofNat_Int, forall_eq']
  refine ⟨fun hg => ?_, fun hg => ?_⟩
  · have hi2 : i < l.length := by simpa using hg
    refine ⟨⟨by omega, by omega⟩, ⟨by omega, by omega⟩, fun h => ?_, fun h => ⟨by unfold In64; omega, hi2, (), fun j hj => ?_⟩⟩
    · have : l ≠ m := fun e => by subst e; simp at h
      simp [this]
    · by_cases e : j = i
      · subst e; simpa using h
      · exact hx j (by omega)
  · have hii : i = l.length := by simp at hg; omega
    have : l = m := getD_len hlm (by subst hii; exact hx)
    simp [this]

def hasB (l : List Int) (x : Int) : Bool := decide (0 ≤ x) && (decide (x < l.length) && decide (0 ≤ l.getD x.toNat 0))
def aboveB (l : List Int) (a b : Int) : Bool := hasB l a && (hasB l b && (decide (l.getD a.toNat 0 < l.getD b.toNat 0) || (decide (l.getD a.toNat 0 = l.getD b.toNat 0) && decide (a < b))))
end Go.Proofs.YtchpncmmlhfemaaDoor
namespace Go.Proofs.YtchpncmmlhfemaaDoor
set_option linter.unusedSimpArgs false
set_option linter.unusedVariables false
open Go.RowKit
set_option maxRecDepth 20000

theorem cb_all (n : Nat) (c : Cb) : allC n (cbL c) := ⟨trivial, trivial, trivial, trivial, trivial, trivial, trivial⟩
def touB (c : Cb) (x : Int) : Bool := decide (c.a = x) || decide (c.b = x)
/-- Those of the first k indices that a test picks. -/
def pickT (q : Nat → Bool) (k : Nat) : List Int := ((List.range k).filter q).map fun (v : Nat) => (v : Int)
theorem pickT_succ (q : Nat → Bool) (k : Nat) : pickT q (k + 1) = pickT q k ++ if q k = true then [(k : Int)] else [] := by
  unfold pickT
  rw [List.range_succ, List.filter_append, List.map_append]
  by_cases h : q k = true <;> simp [h]
theorem pickT_len (q : Nat → Bool) (k : Nat) : (pickT q k).length ≤ k := by
  unfold pickT
  rw [List.length_map]
  have := List.length_filter_le q (List.range k)
  simpa using this
def cabT (p : Pl) (x : Int) (k : Nat) : List Int := pickT (fun v => touB (p.cs.getD v default) x) k
def cablesE (p : Pl) (x : Int) : List Int := if validE p = 0 then cabT p x p.cs.length else []
theorem ev_cables (p : Pl) (hp : PlOk p) (x : Int) : Ev Tryd.prog 19 [plV p, .sc (.int .i64 x)] (intsV (cablesE p x)) := by
  have h1 := ev_valid p hp
  unfold plV intsV at *
  refine ev_fn Tryd.func19 comp19 (show 2 ≤ Tryd.f19.ntmps by decide) ?_; unfold cf19 rf19; simp only [↓EVP0, EVQ0, EVQ1, EVQ2, EVQ3, EVQ4, EVA, EVK, EVF, ↓reduceIte, Nat.reduceEqDiff, Nat.reduceAdd, Nat.reduceSub, Nat.reduceMul, Nat.reduceLT, Nat.reduceLeDiff, reduceCtorEq, Int.reduceToNat, Int.reduceLT, Int.reduceLE, Int.reduceAdd, Int.reduceSub, Int.reduceMul, Int.reduceNeg, Int.reduceEq, Nat.reduceMod, forall_eq_or_imp, forall_eq, forall_const, cond_true, cond_false, decide_true, decide_false, true_imp_iff, implies_true, Int.cast_ofNat_Int, forall_eq']
  refine callK_ro (h1) ?_ ?_
  · simp only [↓EVP0, EVQ0, EVQ1, EVQ2, EVQ3, EVQ4, EVA, EVK, EVF, ↓reduceIte, Nat.reduceEqDiff, Nat.reduceAdd, Nat.reduceSub, Nat.reduceMul, Nat.reduceLT, Nat.reduceLeDiff, reduceCtorEq, Int.reduceToNat, Int.reduceLT, Int.reduceLE, Int.reduceAdd, Int.reduceSub, Int.reduceMul, Int.reduceNeg, Int.reduceEq, Nat.reduceMod, forall_eq_or_imp, forall_eq, forall_const, cond_true, cond_false, decide_true, decide_false, true_imp_iff, implies_true, Int.cast_ofNat_Int, forall_eq']
  simp only [↓EVP0, EVQ0, EVQ1, EVQ2, EVQ3, EVQ4, EVA, EVK, EVF, ↓reduceIte, Nat.reduceEqDiff, Nat.reduceAdd, Nat.reduceSub, Nat.reduceMul, Nat.reduceLT, Nat.reduceLeDiff, reduceCtorEq, Int.reduceToNat, Int.reduceLT, Int.reduceLE, Int.reduceAdd, Int.reduceSub, Int.reduceMul, Int.reduceNeg, Int.reduceEq, Nat.reduceMod, forall_eq_or_imp, forall_eq, forall_const, cond_true, cond_false, decide_true, decide_false, true_imp_iff, implies_true, Int.cast_ofNat_Int, forall_eq']
  refine ⟨fun hg => ?_, fun hg => ?_⟩
  · have e : cablesE p x = [] := by unfold cablesE; rw [if_neg (by simpa using hg)]
    rw [e]; exact rfl
  have hv : validE p = 0 := by simpa using hg
  have e : cablesE p x = cabT p x p.cs.length := by unfold cablesE; rw [if_pos hv]
  rw [e]
  have h32 := (valid_of hv).c32
  intro _
  refine lwp_for (α := Unit) p.cs.length (fun _ _ => True) (fun k _ => [(1, .sc (.int .i64 x)), (5, if cabT p x k = [] then .nsl else .sl 2 ((cabT p x k).length - 1) 1 0 (cabT p x k).length), (12, .rsl 6 p.cs.length (cbsF p.cs)), (13, .sc (.int .i64 p.cs.length)), (14, .sc (.int .i64 k))])
    (fun k _ => if cabT p x k = [] then [] else [(0, .box (cbL (p.cs.getD ((cabT p x k).getD 0 0).toNat default))), (0, .ints [(cabT p x k).getD 0 0]), ((cabT p x k).length - 1, .ints (cabT p x k))]) () trivial ?_ (fun _ _ => Nat.zero_le _) ?_
  · rw [show cabT p x 0 = [] from rfl]
    simp only [if_true]
    simp only [↓EVP0, EVQ0, EVQ1, EVQ2, EVQ3, EVQ4, EVA, EVK, EVF, ↓reduceIte, Nat.reduceEqDiff, Nat.reduceAdd, Nat.reduceSub, Nat.reduceMul, Nat.reduceLT, Nat.reduceLeDiff, reduceCtorEq, Int.reduceToNat, Int.reduceLT, Int.reduceLE, Int.reduceAdd, Int.reduceSub, Int.reduceMul, Int.reduceNeg, Int.reduceEq, Nat.reduceMod, forall_eq_or_imp, forall_eq, forall_const, cond_true, cond_false, decide_true, decide_false, true_imp_iff, implies_true, Int.cast_ofNat_Int, forall_eq']
  intro k _ hk _
  have hps : cabT p x (k + 1) = cabT p x k ++ if touB (p.cs.getD k default) x = true then [(k : Int)] else [] := pickT_succ _ k
  have hple : (cabT p x k).length ≤ k := pickT_len _ _
  by_cases hq : cabT p x k = []
  · by_cases hdk : touB (p.cs.getD k default) x = true
    · have hp1 : cabT p x (k + 1) = [(k : Int)] := by rw [hps, if_pos hdk, hq]; rfl
      simp only [hp1, hq, List.cons_ne_nil, if_true, if_false]
      unfold lb19_0
      simp only [↓EVP0, EVQ0, EVQ1, EVQ2, EVQ3, EVQ4, EVA, EVK, EVF, ↓reduceIte, Nat.reduceEqDiff, Nat.reduceAdd, Nat.reduceSub, Nat.reduceMul, Nat.reduceLT, Nat.reduceLeDiff, reduceCtorEq, Int.reduceToNat, Int.reduceLT, Int.reduceLE, Int.reduceAdd, Int.reduceSub, Int.reduceMul, Int.reduceNeg, Int.reduceEq, Nat.reduceMod, forall_eq_or_imp, forall_eq, forall_const, cond_true, cond_false, decide_true, decide_false, true_imp_iff, implies_true, Int.cast_ofNat_Int, forall_eq']
      refine ⟨fun hg => ?_, fun hg => ?_⟩
      · have hk2 : k < p.cs.length := by have := of_decide_eq_true hg; omega
        rw [condT]
        refine ⟨⟨by omega, by omega⟩, fun h => ?_, fun h => ?_⟩
        · exact ⟨by unfold appRoom; omega, by unfold In64; omega, hk2, (), rfl, cb_all _ _⟩
        · exact absurd hdk (by unfold touB; rw [h]; simp)
      · have hkk : k = p.cs.length := by have := of_decide_eq_false hg; omega
        subst hkk
        rw [hq]; rfl
    · have hp1 : cabT p x (k + 1) = [] := by rw [hps, if_neg hdk, hq]; rfl
      simp only [hp1, hq, if_true]
      unfold lb19_0
      simp only [↓EVP0, EVQ0, EVQ1, EVQ2, EVQ3, EVQ4, EVA, EVK, EVF, ↓reduceIte, Nat.reduceEqDiff, Nat.reduceAdd, Nat.reduceSub, Nat.reduceMul, Nat.reduceLT, Nat.reduceLeDiff, reduceCtorEq, Int.reduceToNat, Int.reduceLT, Int.reduceLE, Int.reduceAdd, Int.reduceSub, Int.reduceMul, Int.reduceNeg, Int.reduceEq, Nat.reduceMod, forall_eq_or_imp, forall_eq, forall_const, cond_true, cond_false, decide_true, decide_false, true_imp_iff, implies_true, Int.cast_ofNat_Int, forall_eq']
      refine ⟨fun hg => ?_, fun hg => ?_⟩
      · have hk2 : k < p.cs.length := by have := of_decide_eq_true hg; omega
        rw [condT]
        refine ⟨⟨by omega, by omega⟩, fun h => ?_, fun h => ?_⟩
        · exact absurd (show touB (p.cs.getD k default) x = true from h) hdk
        · exact ⟨by unfold In64; omega, hk2, (), trivial⟩
      · have hkk : k = p.cs.length := by have := of_decide_eq_false hg; omega
        subst hkk
        rw [hq]; rfl
  · by_cases hdk : touB (p.cs.getD k default) x = true
    · have hp1 : cabT p x (k + 1) = cabT p x k ++ [(k : Int)] := by rw [hps, if_pos hdk]
      simp only [hp1, hq, List.append_eq_nil_iff, List.cons_ne_nil, and_false, if_false]
      unfold lb19_0
      simp only [↓EVP0, EVQ0, EVQ1, EVQ2, EVQ3, EVQ4, EVA, EVK, EVF, ↓reduceIte, Nat.reduceEqDiff, Nat.reduceAdd, Nat.reduceSub, Nat.reduceMul, Nat.reduceLT, Nat.reduceLeDiff, reduceCtorEq, Int.reduceToNat, Int.reduceLT, Int.reduceLE, Int.reduceAdd, Int.reduceSub, Int.reduceMul, Int.reduceNeg, Int.reduceEq, Nat.reduceMod, forall_eq_or_imp, forall_eq, forall_const, cond_true, cond_false, decide_true, decide_false, true_imp_iff, implies_true, Int.cast_ofNat_Int, forall_eq']
      refine ⟨fun hg => ?_, fun hg => ?_⟩
      · have hk2 : k < p.cs.length := by have := of_decide_eq_true hg; omega
        rw [condT]
        refine ⟨⟨by omega, by omega⟩, fun h => ?_, fun h => ?_⟩
        · have hpl : 0 < (cabT p x k).length := List.length_pos_iff.2 hq
          have hl1 : (cabT p x k ++ [(k : Int)]).length = (cabT p x k).length + 1 := by simp
          rw [show (cabT p x k).length - 1 + 1 = (cabT p x k).length + 1 - 1 by omega, List.take_of_length_le (Nat.le_refl _), hl1, getD_app0 hpl]
          exact ⟨Nat.le_refl _, by unfold appRoom; omega, by unfold In64; omega, hk2, (), rfl, rfl, cb_all _ _, rfl, rfl, rfl⟩
        · exact absurd hdk (by unfold touB; rw [h]; simp)
      · have hkk : k = p.cs.length := by have := of_decide_eq_false hg; omega
        subst hkk
        exact ⟨rfl, Nat.le_refl _, fun _ _ => rfl⟩
    · have hp1 : cabT p x (k + 1) = cabT p x k := by rw [hps, if_neg hdk]; simp
      simp only [hp1, hq, if_false]
      unfold lb19_0
      simp only [↓EVP0, EVQ0, EVQ1, EVQ2, EVQ3, EVQ4, EVA, EVK, EVF, ↓reduceIte, Nat.reduceEqDiff, Nat.reduceAdd, Nat.reduceSub, Nat.reduceMul, Nat.reduceLT, Nat.reduceLeDiff, reduceCtorEq, Int.reduceToNat, Int.reduceLT, Int.reduceLE, Int.reduceAdd, Int.reduceSub, Int.reduceMul, Int.reduceNeg, Int.reduceEq, Nat.reduceMod, forall_eq_or_imp, forall_eq, forall_const, cond_true, cond_false, decide_true, decide_false, true_imp_iff, implies_true, Int.cast_ofNat_Int, forall_eq']
      refine ⟨fun hg => ?_, fun hg => ?_⟩
      · have hk2 : k < p.cs.length := by have := of_decide_eq_true hg; omega
        rw [condT]
        refine ⟨⟨by omega, by omega⟩, fun h => ?_, fun h => ?_⟩
        · exact absurd (show touB (p.cs.getD k default) x = true from h) hdk
        · exact ⟨by unfold In64; omega, hk2, (), cb_all _ _⟩
      · have hkk : k = p.cs.length := by have := of_decide_eq_false hg; omega
        subst hkk
        exact ⟨rfl, Nat.le_refl _, fun _ _ => rfl⟩
end Go.Proofs.YtchpncmmlhfemaaDoor
namespace Go.Proofs.YtchpncmmlhfemaaDoor
set_option linter.unusedSimpArgs false
set_option linter.unusedVariables false
open Go.RowKit
set_option maxRecDepth 20000

theorem valid_nodup {p : Pl} (h : validE p = 0) : (endsOf p.cs).Nodup := by
  unfold validE at h
  cases h1 : decide (16 < p.ns.length) || decide (32 < p.cs.length)
  · rw [h1, cond_false] at h
    cases h2 : p.ns.all nodeOk
    · rw [h2] at h; simp at h
    · rw [h2] at h
      cases h3 : p.cs.all (portsOk p)
      · rw [h3] at h; simp at h
      · rw [h3] at h
        cases h4 : repOk p
        · unfold repOk at h4
          simp at h4
          exact h4.2
        · rw [h4] at h; simp at h
  · rw [h1] at h; simp at h
def matB (c : Cb) (x y : Int) : Bool := (decide (c.a = x) && decide (c.ap = y)) || (decide (c.b = x) && decide (c.bp = y))
theorem matB_iff {c : Cb} {x y : Int} : matB c x y = true ↔ (x, y) ∈ endsC c := by
  unfold matB endsC
  simp only [Bool.or_eq_true, Bool.and_eq_true, decide_eq_true_eq, List.mem_cons, List.not_mem_nil, or_false, Prod.mk.injEq]
  constructor
  · rintro (⟨h1, h2⟩ | ⟨h1, h2⟩)
    · exact .inl ⟨h1.symm, h2.symm⟩
    · exact .inr ⟨h1.symm, h2.symm⟩
  · rintro (⟨h1, h2⟩ | ⟨h1, h2⟩)
    · exact .inl ⟨h1.symm, h2.symm⟩
    · exact .inr ⟨h1.symm, h2.symm⟩
theorem mat_uniq {l : List Cb} (h : (endsOf l).Nodup) {x y : Int} : ∀ {i j : Nat}, i < l.length → j < l.length → matB (l.getD i default) x y = true → matB (l.getD j default) x y = true → i = j := by
  have hp := (List.pairwise_flatMap.1 (show List.Pairwise (· ≠ ·) (l.flatMap endsC) from h)).2
  rw [List.pairwise_iff_getElem] at hp
  have key : ∀ i j : Nat, i < l.length → j < l.length → i < j → matB (l.getD i default) x y = true → matB (l.getD j default) x y = true → False := by
    intro i j hi hj hij h1 h2
    rw [matB_iff] at h1 h2
    rw [List.getD_eq_getElem?_getD, List.getElem?_eq_getElem hi] at h1
    rw [List.getD_eq_getElem?_getD, List.getElem?_eq_getElem hj] at h2
    exact hp i j hi hj hij _ h1 _ h2 rfl
  intro i j hi hj h1 h2
  rcases Nat.lt_trichotomy i j with h | h | h
  · exact (key i j hi hj h h1 h2).elim
  · exact h
  · exact (key j i hj hi h h2 h1).elim
/-- What Neighbor tells of a cable that has the port. -/
def farC (c : Cb) (x y : Int) (i : Int) : Int × Int × Int × Bool := bif decide (c.a = x) && decide (c.ap = y) then (c.b, c.bp, i, true) else (c.a, c.ap, i, true)
theorem nbrGo_step (x y : Int) (c : Cb) (r : List Cb) (i : Int) : nbrGo x y (c :: r) i = if matB c x y = true then farC c x y i else nbrGo x y r (i + 1) := by
  rw [nbrGo_cons]
  unfold matB farC
  cases decide (c.a = x) && decide (c.ap = y) <;> cases decide (c.b = x) && decide (c.bp = y) <;> simp
theorem nbrGo_none {x y : Int} : ∀ {l : List Cb} {i : Int}, (∀ c, c ∈ l → matB c x y = false) → nbrGo x y l i = (-1, -1, -1, false)
  | [], _, _ => rfl
  | c :: r, i, h => by
    rw [nbrGo_step, if_neg (by rw [h c (by simp)]; simp)]
    exact nbrGo_none fun c' h' => h c' (by simp [h'])
theorem nbrGo_some {x y : Int} : ∀ {l : List Cb} {i : Int} {k : Nat}, k < l.length → matB (l.getD k default) x y = true → (∀ j, j < k → matB (l.getD j default) x y = false) → nbrGo x y l i = farC (l.getD k default) x y (i + k)
  | [], _, _, h, _, _ => by simp at h
  | c :: r, i, 0, _, h, _ => by
    rw [nbrGo_step, if_pos (by simpa using h)]; simp
  | c :: r, i, k + 1, h, h1, h2 => by
    have h0 := h2 0 (by omega)
    rw [nbrGo_step, if_neg (by simp at h0; simp [h0])]
    rw [nbrGo_some (k := k) (by simpa using h) (by simpa using h1) (fun j hj => by have := h2 (j + 1) (by omega); simpa using this)]
    rw [List.getD_cons_succ, show i + 1 + (k : Int) = i + ((k + 1 : Nat) : Int) by omega]
theorem nbr_of {p : Pl} (hv : validE p = 0) {x y : Int} {k : Nat} (hk : k < p.cs.length) (h : matB (p.cs.getD k default) x y = true) : nbrE p x y = farC (p.cs.getD k default) x y k := by
  unfold nbrE
  rw [if_pos hv, nbrGo_some hk h (fun j hj => by
    cases hm : matB (p.cs.getD j default) x y
    · rfl
    · have := mat_uniq (valid_nodup hv) (by omega) hk hm h; omega)]
  rw [Int.zero_add]
/-- The index that the statement's own loop finds. -/
def atT (p : Pl) (x y : Int) : Nat → Int
  | 0 => -1
  | k + 1 => if matB (p.cs.getD k default) x y = true then (k : Int) else atT p x y k
theorem atT_none {p : Pl} {x y : Int} : ∀ {k : Nat}, (∀ j, j < k → matB (p.cs.getD j default) x y = false) → atT p x y k = -1
  | 0, _ => rfl
  | k + 1, h => by
    unfold atT
    rw [if_neg (by rw [h k (by omega)]; simp)]
    exact atT_none fun j hj => h j (by omega)
theorem atT_of {p : Pl} {x y : Int} : ∀ {k : Nat}, 0 ≤ atT p x y k → ∃ j : Nat, j < k ∧ atT p x y k = j ∧ matB (p.cs.getD j default) x y = true
  | 0, h => by simp [atT] at h
  | k + 1, h => by
    unfold atT at h ⊢
    split
    · rename_i hm; exact ⟨k, by omega, rfl, hm⟩
    · rename_i hm
      rw [if_neg hm] at h
      obtain ⟨j, h1, h2, h3⟩ := atT_of h
      exact ⟨j, by omega, h2, h3⟩
theorem atT_neg {p : Pl} {x y : Int} : ∀ {k : Nat}, ¬ 0 ≤ atT p x y k → atT p x y k = -1 ∧ ∀ j, j < k → matB (p.cs.getD j default) x y = false
  | 0, _ => ⟨rfl, fun j hj => by omega⟩
  | k + 1, h => by
    unfold atT at h ⊢
    by_cases hm : matB (p.cs.getD k default) x y = true
    · rw [if_pos hm] at h; omega
    · rw [if_neg hm] at h ⊢
      obtain ⟨h1, h2⟩ := atT_neg h
      refine ⟨h1, fun j hj => ?_⟩
      by_cases e : j = k
      · subst e; simpa using hm
      · exact h2 j (by omega)
def othE (c : Cb) (x : Int) : Int := bif decide (c.a = x) then c.b else bif decide (c.b = x) then c.a else -1
theorem oth_ge {p : Pl} (hv : validE p = 0) {c : Cb} (hc : c ∈ p.cs) (x : Int) : decide (0 ≤ othE c x) = touB c x := by
  obtain ⟨h1, h2⟩ := (valid_of hv).cab c hc
  unfold inN at h1 h2
  unfold othE touB
  by_cases e1 : c.a = x
  · rw [decide_eq_true e1]; simp; omega
  · rw [decide_eq_false e1]
    by_cases e2 : c.b = x
    · rw [decide_eq_true e2]; simp; omega
    · rw [decide_eq_false e2]; simp
/-- The neighbor's neighbor is the node itself. -/
theorem nbr_back {p : Pl} (hv : validE p = 0) {x y : Int} {k : Nat} (hk : k < p.cs.length) (h : matB (p.cs.getD k default) x y = true) :
    nbrE p (nbrE p x y).1 (nbrE p x y).2.1 = (x, y, (k : Int), true) ∧ (nbrE p x y).2.2 = ((k : Int), true) ∧ (nbrE p x y).1 = othE (p.cs.getD k default) x := by
  have hc : p.cs.getD k default ∈ p.cs := by
    rw [List.getD_eq_getElem?_getD, List.getElem?_eq_getElem hk]; exact List.getElem_mem hk
  have hs := (valid_of hv).self _ hc
  rw [nbr_of hv hk h]
  have hb : matB (p.cs.getD k default) (farC (p.cs.getD k default) x y k).1 (farC (p.cs.getD k default) x y k).2.1 = true := by
    unfold farC matB
    cases decide ((p.cs.getD k default).a = x) && decide ((p.cs.getD k default).ap = y) <;> simp
  rw [nbr_of hv hk hb]
  generalize p.cs.getD k default = c at *
  unfold farC othE
  unfold matB at h
  simp only [Bool.or_eq_true, Bool.and_eq_true, decide_eq_true_eq] at h
  by_cases e : c.a = x ∧ c.ap = y
  · obtain ⟨rfl, rfl⟩ := e
    simp [hs]
  · have e2 : c.b = x ∧ c.bp = y := h.resolve_left e
    have e3 : ¬ c.a = x := fun e4 => hs (by rw [e4, e2.1])
    obtain ⟨rfl, rfl⟩ := e2
    simp [e3]
end Go.Proofs.YtchpncmmlhfemaaDoor
namespace Go.Proofs.YtchpncmmlhfemaaDoor
set_option linter.unusedSimpArgs false
set_option linter.unusedVariables false
open Go.RowKit
set_option maxRecDepth 20000

theorem roTo1_self {h : LH} {x : LV} (hx : roish1 x) : roTo1 h x x := by cases x <;> first | exact hx.elim | exact ⟨rfl, hx⟩
theorem roToL_self {h : LH} : ∀ {l : List LV}, roishL l → roToL h l l
  | [], _ => trivial
  | _ :: _, hl => ⟨roTo1_self hl.1, roToL_self hl.2⟩
theorem roish2_of {x : LV} (hx : roish1 x) : roish2 x := by cases x <;> first | exact hx.elim | exact hx
theorem roishL2_of : ∀ {l : List LV}, roishL l → roishL2 l
  | [], _ => trivial
  | _ :: _, hl => ⟨roish2_of hl.1, roishL2_of hl.2⟩
theorem allC_of {n : Nat} : ∀ {l : List LV}, roishL l → allC n l
  | [], _ => trivial
  | x :: _, hl => ⟨by have := hl.1; cases x <;> first | exact this.elim | trivial, allC_of hl.2⟩
theorem roTo2_box {h : LH} {k ver : Nat} {cs ds : List LV} (hk : k < h.n) (hv : h.f k = (ver, .box cs)) (hl : roToL h cs ds) : roTo2 h (.ptr k ver 0 0 0) (.rptr ds) := by
  refine ⟨hk, by rw [hv], rfl, rfl, rfl, ?_⟩
  rw [hv]; exact hl
theorem getD_mem {α : Type} (d : α) {l : List α} {i : Nat} (h : i < l.length) : l.getD i d ∈ l := by
  rw [List.getD_eq_getElem?_getD, List.getElem?_eq_getElem h]; exact List.getElem_mem h
/-- As roTo2; what a closure has caught may be a variable. -/
def roToF (h : LH) : LV → LV → Prop
  | .fn f cs, .fn g ds => f = g ∧ roToL2 h cs ds
  | x, y => roTo2 h x y
def roToLF (h : LH) : List LV → List LV → Prop
  | [], [] => True
  | x :: r, y :: q => roToF h x y ∧ roToLF h r q
  | _, _ => False
section
variable {P : Program} {B : Nat} {R R' : RO} {ι : IM} {h : LH} {w : World}
theorem roToF_ok (hrep : Rep R ι h B w) (hl : RoLe R R') (hfz : ∀ k, k < h.n → (h.f k).2.live = true → ((ι k).m ≠ 0 ∨ (h.f k).2.isMap = true) → R' (ι k).b = w.heap[(ι k).b]?)
    {lv r : LV} {v : Value} (hr : Rv R ι h lv v) (ht : roToF h lv r) : Ro R' r v := by
  unfold roToF at ht
  split at ht
  · rename_i f cs g ds
    obtain ⟨rfl, ht⟩ := ht
    obtain ⟨vs, rfl, h1, h2⟩ := hr.fn_inv
    obtain ⟨g1, g2⟩ := roToL2_get ht
    refine .fn _ _ _ (by omega) (fun i c hi => ?_)
    obtain ⟨x, hx, hx2⟩ := g2 i c hi
    exact roTo2_ok hrep hl hfz (h2 i x hx) hx2
  · exact roTo2_ok hrep hl hfz hr ht
theorem roToLF_get : ∀ {xs ys : List LV}, roToLF h xs ys → xs.length = ys.length ∧ ∀ (i : Nat) (y : LV), ys[i]? = some y → ∃ x, xs[i]? = some x ∧ roToF h x y
  | [], [], _ => ⟨rfl, fun i y hy => by simp at hy⟩
  | x :: r, y :: q, ht => by
    obtain ⟨h1, h2⟩ := roToLF_get ht.2
    refine ⟨by simp [h1], fun i z hz => ?_⟩
    cases i with
    | zero => simp at hz; subst hz; exact ⟨x, rfl, ht.1⟩
    | succ i =>
      obtain ⟨u, hu, hu2⟩ := h2 i z (by simpa using hz)
      exact ⟨u, by simpa using hu, hu2⟩
  | [], _ :: _, ht => ht.elim
  | _ :: _, [], ht => ht.elim
theorem lcall_frzF {f : FuncId} {args args' : List LV} {r : LV} (he : Ev P f args' r) (ha : roToLF h args args') (hs : scal r) : LCall P f args h r h := by
  intro B R ι w vs hB hr hsz hargs
  obtain ⟨g1, g2⟩ := roToLF_get ha
  refine (he (fun b => w.heap[b]?) w vs (fun _ _ h => h) (by omega) (fun i a hi => ?_)).mono ?_
  · obtain ⟨x, hx, hx2⟩ := g2 i a hi
    exact roToF_ok hr (fun b o hb => hr.ro b o hb) (fun _ _ _ _ => rfl) (hargs i x hx) hx2
  · intro e w' hx
    obtain ⟨v, R', rfl, h1, h2, h3, h4, h5⟩ := hx
    refine ⟨v, R, ι, rfl, trans_call hB hr (R2 := R) (fun b o hbo => ?_) h4 (fun _ _ h => h) (fun _ _ => rfl) rfl, .ro (scal_ok hs h5)⟩
    have := hr.ro b o hbo
    rw [h4.block b (Array.getElem?_eq_some_iff.1 this).1]; exact this
end
theorem callK_frzF {P : Program} {f : FuncId} {al al' : List LV} {h : LH} {k : LV → LH → Prop} {r : LV} (he : Ev P f al' r) (ha : roToLF h al al') (hs : scal r) (hk : k r h) : @callK P f al h ⟨k⟩ := ⟨r, h, lcall_frzF he ha hs, hk⟩
theorem roTo2_self {h : LH} {x : LV} (hx : roish2 x) : roTo2 h x x := by
  cases x with
  | agg cs => exact roToL_self hx
  | fn f cs => exact ⟨rfl, roToL_self hx⟩
  | sc v => exact ⟨rfl, trivial⟩
  | nsl => exact ⟨rfl, trivial⟩
  | rsl a b c => exact ⟨rfl, trivial⟩
  | rptr cs => exact ⟨rfl, trivial⟩
  | rmp es => exact ⟨rfl, trivial⟩
  | _ => exact hx.elim
theorem roToF_self {h : LH} {x : LV} (hx : roish1 x) : roToF h x x := by cases x <;> first | exact hx.elim | exact roTo2_self (h := h) (roish2_of hx)
theorem roToF_agg {h : LH} {cs : List LV} (hx : roishL cs) : roToF h (.agg cs) (.agg cs) := roToL_self hx
def fidx (b : Int → Bool) : List Int → Int → Int
  | [], _ => -1
  | x :: r, i => if b x = true then i else fidx b r (i + 1)
theorem fidx_cons (b : Int → Bool) (x : Int) (r : List Int) (i : Int) : fidx b (x :: r) i = if b x = true then i else fidx b r (i + 1) := rfl
theorem fidx_any (b : Int → Bool) : ∀ (q : List Int) (i : Int), 0 ≤ i → decide (0 ≤ fidx b q i) = q.any b
  | [], i, h => rfl
  | x :: r, i, h => by
    unfold fidx
    rw [List.any_cons]
    by_cases hb : b x = true
    · rw [if_pos hb, hb, decide_eq_true h]; rfl
    · rw [if_neg hb, fidx_any b r (i + 1) (by omega), Bool.eq_false_iff.2 hb]; rfl
theorem ev_indexF (q : List Int) (hl : q.length ≤ 1000) (vf : FuncId) (caps : List LV) (hok : okF Tryd.prog vf = true) (hc : roishL caps) (b : Int → Bool) (hb : ∀ x, x ∈ q → Ev Tryd.prog vf (.sc (.int .i64 x) :: caps) (.sc (.bool (b x)))) :
    Ev Tryd.prog 44 [intsV q, .fn vf caps] (.sc (.int .i64 (fidx b q 0))) := by
  have hc2 := roishL2_of hc
  unfold intsV
  refine ev_fn Tryd.func44 comp44 (show 2 ≤ Tryd.f44.ntmps by decide) ?_; unfold cf44 rf44; simp only [↓EVP0, EVQ0, EVQ1, EVQ2, EVQ3, EVQ4, EVA, EVK, EVF, ↓reduceIte, Nat.reduceEqDiff, Nat.reduceAdd, Nat.reduceSub, Nat.reduceMul, Nat.reduceLT, Nat.reduceLeDiff, reduceCtorEq, Int.reduceToNat, Int.reduceLT, Int.reduceLE, Int.reduceAdd, Int.reduceSub, Int.reduceMul, Int.reduceNeg, Int.reduceEq, Nat.reduceMod, forall_eq_or_imp, forall_eq, forall_const, cond_true, cond_false, decide_true, decide_false, true_imp_iff, implies_true, Int.cast_ofNat_Int, forall_eq']
  intro _
  refine lwp_for (α := Unit) q.length (fun i _ => fidx b q 0 = fidx b (q.drop i) i) (fun i _ => [(0, .rsl 1 q.length (intsF q)), (1, .fn vf caps), (7, .sc (.int .i64 q.length)), (8, .sc (.int .i64 i))]) (fun _ _ => []) () rfl ?_ (fun _ _ => Nat.zero_le _) ?_
  · simp only [↓EVP0, EVQ0, EVQ1, EVQ2, EVQ3, EVQ4, EVA, EVK, EVF, ↓reduceIte, Nat.reduceEqDiff, Nat.reduceAdd, Nat.reduceSub, Nat.reduceMul, Nat.reduceLT, Nat.reduceLeDiff, reduceCtorEq, Int.reduceToNat, Int.reduceLT, Int.reduceLE, Int.reduceAdd, Int.reduceSub, Int.reduceMul, Int.reduceNeg, Int.reduceEq, Nat.reduceMod, forall_eq_or_imp, forall_eq, forall_const, cond_true, cond_false, decide_true, decide_false, true_imp_iff, implies_true, Int.cast_ofNat_Int, forall_eq']
    exact allC_of hc
  intro i _ hi hx
  unfold lb44_0
  simp only [↓EVP0, EVQ0, EVQ1, EVQ2, EVQ3, EVQ4, EVA, EVK, EVF, ↓reduceIte, Nat.reduceEqDiff, Nat.reduceAdd, Nat.reduceSub, Nat.reduceMul, Nat.reduceLT, Nat.reduceLeDiff, reduceCtorEq, Int.reduceToNat, Int.reduceLT, Int.reduceLE, Int.reduceAdd, Int.reduceSub, Int.reduceMul, Int.reduceNeg, Int.reduceEq, Nat.reduceMod, forall_eq_or_imp, forall_eq, forall_const, cond_true, cond_false, decide_true, decide_false, true_imp_iff, implies_true, Int.cast_ofNat_Int, forall_eq']
  refine ⟨fun hg => ?_, fun hg => ?_⟩
  · have hi2 : i < q.length := by have := of_decide_eq_true hg; omega
    have hq := hb _ (getD_mem 0 hi2)
    rw [drop_getG 0 hi2, fidx_cons] at hx
    refine ⟨⟨by omega, by omega⟩, hok, callK_ro hq ⟨trivial, hc2⟩ ?_⟩
    simp only [↓EVP0, EVQ0, EVQ1, EVQ2, EVQ3, EVQ4, EVA, EVK, EVF, ↓reduceIte, Nat.reduceEqDiff, Nat.reduceAdd, Nat.reduceSub, Nat.reduceMul, Nat.reduceLT, Nat.reduceLeDiff, reduceCtorEq, Int.reduceToNat, Int.reduceLT, Int.reduceLE, Int.reduceAdd, Int.reduceSub, Int.reduceMul, Int.reduceNeg, Int.reduceEq, Nat.reduceMod, forall_eq_or_imp, forall_eq, forall_const, cond_true, cond_false, decide_true, decide_false, true_imp_iff, implies_true, Int.cast_ofNat_Int, forall_eq']
    refine ⟨fun h => ?_, fun h => ⟨by unfold In64; omega, hi2, (), ?_, allC_of hc⟩⟩
    · rw [if_pos h] at hx; rw [hx]
    · rw [if_neg (by rw [h]; simp)] at hx; rw [hx]
  · have hii : i = q.length := by have := of_decide_eq_false hg; omega
    rw [hx, hii, List.drop_length]; rfl
theorem ev_containsF (q : List Int) (hl : q.length ≤ 1000) (vf : FuncId) (caps : List LV) (hok : okF Tryd.prog vf = true) (hc : roishL caps) (b : Int → Bool) (hb : ∀ x, x ∈ q → Ev Tryd.prog vf (.sc (.int .i64 x) :: caps) (.sc (.bool (b x)))) :
    Ev Tryd.prog 26 [intsV q, .fn vf caps] (.sc (.bool (q.any b))) := by
  have h1 := ev_indexF q hl vf caps hok hc b hb
  rw [← fidx_any b q 0 (Int.le_refl _)]
  unfold intsV at *
  refine ev_fn Tryd.func26 comp26 (show 2 ≤ Tryd.f26.ntmps by decide) ?_; unfold cf26 rf26; simp only [↓EVP0, EVQ0, EVQ1, EVQ2, EVQ3, EVQ4, EVA, EVK, EVF, ↓reduceIte, Nat.reduceEqDiff, Nat.reduceAdd, Nat.reduceSub, Nat.reduceMul, Nat.reduceLT, Nat.reduceLeDiff, reduceCtorEq, Int.reduceToNat, Int.reduceLT, Int.reduceLE, Int.reduceAdd, Int.reduceSub, Int.reduceMul, Int.reduceNeg, Int.reduceEq, Nat.reduceMod, forall_eq_or_imp, forall_eq, forall_const, cond_true, cond_false, decide_true, decide_false, true_imp_iff, implies_true, Int.cast_ofNat_Int, forall_eq']
  refine callK_ro h1 ⟨trivial, hc, trivial⟩ ?_
  simp only [↓EVP0, EVQ0, EVQ1, EVQ2, EVQ3, EVQ4, EVA, EVK, EVF, ↓reduceIte, Nat.reduceEqDiff, Nat.reduceAdd, Nat.reduceSub, Nat.reduceMul, Nat.reduceLT, Nat.reduceLeDiff, reduceCtorEq, Int.reduceToNat, Int.reduceLT, Int.reduceLE, Int.reduceAdd, Int.reduceSub, Int.reduceMul, Int.reduceNeg, Int.reduceEq, Nat.reduceMod, forall_eq_or_imp, forall_eq, forall_const, cond_true, cond_false, decide_true, decide_false, true_imp_iff, implies_true, Int.cast_ofNat_Int, forall_eq']
end Go.Proofs.YtchpncmmlhfemaaDoor
namespace Go.Proofs.YtchpncmmlhfemaaDoor
set_option linter.unusedSimpArgs false
set_option linter.unusedVariables false
open Go.RowKit
set_option maxRecDepth 20000

theorem ev_oth (c : Cb) (x : Int) : Ev Tryd.prog 20 [.agg (cbL c), .sc (.int .i64 x)] (.sc (.int .i64 (othE c x))) := by
  unfold cbL
  refine ev_fn Tryd.func20 comp20 (show 2 ≤ Tryd.f20.ntmps by decide) ?_; unfold cf20 rf20; simp only [↓EVP0, EVQ0, EVQ1, EVQ2, EVQ3, EVQ4, EVA, EVK, EVF, ↓reduceIte, Nat.reduceEqDiff, Nat.reduceAdd, Nat.reduceSub, Nat.reduceMul, Nat.reduceLT, Nat.reduceLeDiff, reduceCtorEq, Int.reduceToNat, Int.reduceLT, Int.reduceLE, Int.reduceAdd, Int.reduceSub, Int.reduceMul, Int.reduceNeg, Int.reduceEq, Nat.reduceMod, forall_eq_or_imp, forall_eq, forall_const, cond_true, cond_false, decide_true, decide_false, true_imp_iff, implies_true, Int.cast_ofNat_Int, forall_eq']
  unfold othE
  refine ⟨fun h => by rw [h]; rfl, fun h => ⟨fun h2 => by rw [h, h2]; rfl, fun h2 => by rw [h, h2]; rfl⟩⟩
theorem ev_lawNbrs (p : Pl) (hp : PlOk p) (x y : Int) : Ev Tryd.prog 6 [plV p, .sc (.int .i64 x), .sc (.int .i64 y)] (.sc (.bool true)) := by
  have h1 := ev_awake14
  have h2 := ev_great14 p
  have h3 := fun x y => ev_neighbor p hp x y
  have h4 := ev_cables p hp x
  have h5 := ev_ref14 p
  have h6 := ev_oth
  have h7 := ev_equal
  unfold plV intsV at *
  unfold cbL at h6
  refine ev_fn Tryd.func6 comp6 (show 3 ≤ Tryd.f6.ntmps by decide) ?_; unfold cf6 rf6; simp only [↓EVP0, EVQ0, EVQ1, EVQ2, EVQ3, EVQ4, EVA, EVK, EVF, ↓reduceIte, Nat.reduceEqDiff, Nat.reduceAdd, Nat.reduceSub, Nat.reduceMul, Nat.reduceLT, Nat.reduceLeDiff, reduceCtorEq, Int.reduceToNat, Int.reduceLT, Int.reduceLE, Int.reduceAdd, Int.reduceSub, Int.reduceMul, Int.reduceNeg, Int.reduceEq, Nat.reduceMod, forall_eq_or_imp, forall_eq, forall_const, cond_true, cond_false, decide_true, decide_false, true_imp_iff, implies_true, Int.cast_ofNat_Int, forall_eq']
  refine callK_ro (h1) ?_ ?_
  · simp only [↓EVP0, EVQ0, EVQ1, EVQ2, EVQ3, EVQ4, EVA, EVK, EVF, ↓reduceIte, Nat.reduceEqDiff, Nat.reduceAdd, Nat.reduceSub, Nat.reduceMul, Nat.reduceLT, Nat.reduceLeDiff, reduceCtorEq, Int.reduceToNat, Int.reduceLT, Int.reduceLE, Int.reduceAdd, Int.reduceSub, Int.reduceMul, Int.reduceNeg, Int.reduceEq, Nat.reduceMod, forall_eq_or_imp, forall_eq, forall_const, cond_true, cond_false, decide_true, decide_false, true_imp_iff, implies_true, Int.cast_ofNat_Int, forall_eq']
  simp only [↓EVP0, EVQ0, EVQ1, EVQ2, EVQ3, EVQ4, EVA, EVK, EVF, ↓reduceIte, Nat.reduceEqDiff, Nat.reduceAdd, Nat.reduceSub, Nat.reduceMul, Nat.reduceLT, Nat.reduceLeDiff, reduceCtorEq, Int.reduceToNat, Int.reduceLT, Int.reduceLE, Int.reduceAdd, Int.reduceSub, Int.reduceMul, Int.reduceNeg, Int.reduceEq, Nat.reduceMod, forall_eq_or_imp, forall_eq, forall_const, cond_true, cond_false, decide_true, decide_false, true_imp_iff, implies_true, Int.cast_ofNat_Int, forall_eq']
  refine callK_ro (h2) ?_ ?_
  · simp only [↓EVP0, EVQ0, EVQ1, EVQ2, EVQ3, EVQ4, EVA, EVK, EVF, ↓reduceIte, Nat.reduceEqDiff, Nat.reduceAdd, Nat.reduceSub, Nat.reduceMul, Nat.reduceLT, Nat.reduceLeDiff, reduceCtorEq, Int.reduceToNat, Int.reduceLT, Int.reduceLE, Int.reduceAdd, Int.reduceSub, Int.reduceMul, Int.reduceNeg, Int.reduceEq, Nat.reduceMod, forall_eq_or_imp, forall_eq, forall_const, cond_true, cond_false, decide_true, decide_false, true_imp_iff, implies_true, Int.cast_ofNat_Int, forall_eq']
  simp only [↓EVP0, EVQ0, EVQ1, EVQ2, EVQ3, EVQ4, EVA, EVK, EVF, ↓reduceIte, Nat.reduceEqDiff, Nat.reduceAdd, Nat.reduceSub, Nat.reduceMul, Nat.reduceLT, Nat.reduceLeDiff, reduceCtorEq, Int.reduceToNat, Int.reduceLT, Int.reduceLE, Int.reduceAdd, Int.reduceSub, Int.reduceMul, Int.reduceNeg, Int.reduceEq, Nat.reduceMod, forall_eq_or_imp, forall_eq, forall_const, cond_true, cond_false, decide_true, decide_false, true_imp_iff, implies_true, Int.cast_ofNat_Int, forall_eq']
  refine ⟨fun _ => trivial, fun g => ?_⟩
  refine callK_ro (h3 x y) ?_ ?_
  · simp only [↓EVP0, EVQ0, EVQ1, EVQ2, EVQ3, EVQ4, EVA, EVK, EVF, ↓reduceIte, Nat.reduceEqDiff, Nat.reduceAdd, Nat.reduceSub, Nat.reduceMul, Nat.reduceLT, Nat.reduceLeDiff, reduceCtorEq, Int.reduceToNat, Int.reduceLT, Int.reduceLE, Int.reduceAdd, Int.reduceSub, Int.reduceMul, Int.reduceNeg, Int.reduceEq, Nat.reduceMod, forall_eq_or_imp, forall_eq, forall_const, cond_true, cond_false, decide_true, decide_false, true_imp_iff, implies_true, Int.cast_ofNat_Int, forall_eq']
  simp only [↓EVP0, EVQ0, EVQ1, EVQ2, EVQ3, EVQ4, EVA, EVK, EVF, ↓reduceIte, Nat.reduceEqDiff, Nat.reduceAdd, Nat.reduceSub, Nat.reduceMul, Nat.reduceLT, Nat.reduceLeDiff, reduceCtorEq, Int.reduceToNat, Int.reduceLT, Int.reduceLE, Int.reduceAdd, Int.reduceSub, Int.reduceMul, Int.reduceNeg, Int.reduceEq, Nat.reduceMod, forall_eq_or_imp, forall_eq, forall_const, cond_true, cond_false, decide_true, decide_false, true_imp_iff, implies_true, Int.cast_ofNat_Int, forall_eq']
  refine callK_ro (h4) ?_ ?_
  · simp only [↓EVP0, EVQ0, EVQ1, EVQ2, EVQ3, EVQ4, EVA, EVK, EVF, ↓reduceIte, Nat.reduceEqDiff, Nat.reduceAdd, Nat.reduceSub, Nat.reduceMul, Nat.reduceLT, Nat.reduceLeDiff, reduceCtorEq, Int.reduceToNat, Int.reduceLT, Int.reduceLE, Int.reduceAdd, Int.reduceSub, Int.reduceMul, Int.reduceNeg, Int.reduceEq, Nat.reduceMod, forall_eq_or_imp, forall_eq, forall_const, cond_true, cond_false, decide_true, decide_false, true_imp_iff, implies_true, Int.cast_ofNat_Int, forall_eq']
  simp only [↓EVP0, EVQ0, EVQ1, EVQ2, EVQ3, EVQ4, EVA, EVK, EVF, ↓reduceIte, Nat.reduceEqDiff, Nat.reduceAdd, Nat.reduceSub, Nat.reduceMul, Nat.reduceLT, Nat.reduceLeDiff, reduceCtorEq, Int.reduceToNat, Int.reduceLT, Int.reduceLE, Int.reduceAdd, Int.reduceSub, Int.reduceMul, Int.reduceNeg, Int.reduceEq, Nat.reduceMod, forall_eq_or_imp, forall_eq, forall_const, cond_true, cond_false, decide_true, decide_false, true_imp_iff, implies_true, Int.cast_ofNat_Int, forall_eq']
  refine callK_ro (h5) ?_ ?_
  · simp only [↓EVP0, EVQ0, EVQ1, EVQ2, EVQ3, EVQ4, EVA, EVK, EVF, ↓reduceIte, Nat.reduceEqDiff, Nat.reduceAdd, Nat.reduceSub, Nat.reduceMul, Nat.reduceLT, Nat.reduceLeDiff, reduceCtorEq, Int.reduceToNat, Int.reduceLT, Int.reduceLE, Int.reduceAdd, Int.reduceSub, Int.reduceMul, Int.reduceNeg, Int.reduceEq, Nat.reduceMod, forall_eq_or_imp, forall_eq, forall_const, cond_true, cond_false, decide_true, decide_false, true_imp_iff, implies_true, Int.cast_ofNat_Int, forall_eq']
  simp only [↓EVP0, EVQ0, EVQ1, EVQ2, EVQ3, EVQ4, EVA, EVK, EVF, ↓reduceIte, Nat.reduceEqDiff, Nat.reduceAdd, Nat.reduceSub, Nat.reduceMul, Nat.reduceLT, Nat.reduceLeDiff, reduceCtorEq, Int.reduceToNat, Int.reduceLT, Int.reduceLE, Int.reduceAdd, Int.reduceSub, Int.reduceMul, Int.reduceNeg, Int.reduceEq, Nat.reduceMod, forall_eq_or_imp, forall_eq, forall_const, cond_true, cond_false, decide_true, decide_false, true_imp_iff, implies_true, Int.cast_ofNat_Int, forall_eq']
  refine ⟨fun hv => ?_, fun hv => ?_⟩
  · have hv' : validE p = 0 := of_decide_eq_true hv
    have hV := valid_of hv'
    have h32 := hV.c32
    have e : cablesE p x = cabT p x p.cs.length := by unfold cablesE; rw [if_pos hv']
    rw [e]
    intro _
    refine lwp_for (α := Unit) p.cs.length (fun _ _ => True) (fun k _ => [(1, .sc (.int .i64 x)), (2, .sc (.int .i64 y)), (3, .ptr 0 0 0 0 0), (7, .sc (.int .i64 (nbrE p x y).1)), (8, .sc (.int .i64 (nbrE p x y).2.1)), (9, .sc (.int .i64 (nbrE p x y).2.2.1)), (10, .sc (.bool (nbrE p x y).2.2.2)), (11, .rsl 1 (cabT p x p.cs.length).length (intsF (cabT p x p.cs.length))), (12, if cabT p x k = [] then .nsl else .sl 3 ((cabT p x k).length - 1) 1 0 (cabT p x k).length), (13, .sc (.int .i64 (atT p x y k))), (40, .rsl 6 p.cs.length (cbsF p.cs)), (41, .sc (.int .i64 p.cs.length)), (42, .sc (.int .i64 k))])
      (fun k _ => (0, .box [.rsl 3 p.ns.length (ndsF p.ns), .rsl 6 p.cs.length (cbsF p.cs)]) :: if cabT p x k = [] then [] else [(0, .box (cbL (p.cs.getD ((cabT p x k).getD 0 0).toNat default))), (0, .ints [(cabT p x k).getD 0 0]), ((cabT p x k).length - 1, .ints (cabT p x k))]) () trivial ?_ (fun _ _ => Nat.zero_le _) ?_
    · rw [show cabT p x 0 = [] from rfl, show atT p x y 0 = -1 from rfl]
      simp only [if_true]
      simp only [↓EVP0, EVQ0, EVQ1, EVQ2, EVQ3, EVQ4, EVA, EVK, EVF, ↓reduceIte, Nat.reduceEqDiff, Nat.reduceAdd, Nat.reduceSub, Nat.reduceMul, Nat.reduceLT, Nat.reduceLeDiff, reduceCtorEq, Int.reduceToNat, Int.reduceLT, Int.reduceLE, Int.reduceAdd, Int.reduceSub, Int.reduceMul, Int.reduceNeg, Int.reduceEq, Nat.reduceMod, forall_eq_or_imp, forall_eq, forall_const, cond_true, cond_false, decide_true, decide_false, true_imp_iff, implies_true, Int.cast_ofNat_Int, forall_eq']
    intro k _ hk _
    have hps : cabT p x (k + 1) = cabT p x k ++ if touB (p.cs.getD k default) x = true then [(k : Int)] else [] := pickT_succ _ k
    have hple : (cabT p x k).length ≤ k := pickT_len _ _
    have hat : atT p x y (k + 1) = if matB (p.cs.getD k default) x y = true then (k : Int) else atT p x y k := rfl
    have hoth : k < p.cs.length → decide (0 ≤ othE (p.cs.getD k default) x) = touB (p.cs.getD k default) x := fun h => oth_ge hv' (by
      rw [List.getD_eq_getElem?_getD, List.getElem?_eq_getElem h]; exact List.getElem_mem h) x
    by_cases hq : cabT p x k = []
    · by_cases hdk : touB (p.cs.getD k default) x = true
      · have hp1 : cabT p x (k + 1) = [(k : Int)] := by rw [hps, if_pos hdk, hq]; rfl
        simp only [hp1, hq, List.cons_ne_nil, if_true, if_false]
        unfold lb6_0
        simp only [↓EVP0, EVQ0, EVQ1, EVQ2, EVQ3, EVQ4, EVA, EVK, EVF, ↓reduceIte, Nat.reduceEqDiff, Nat.reduceAdd, Nat.reduceSub, Nat.reduceMul, Nat.reduceLT, Nat.reduceLeDiff, reduceCtorEq, Int.reduceToNat, Int.reduceLT, Int.reduceLE, Int.reduceAdd, Int.reduceSub, Int.reduceMul, Int.reduceNeg, Int.reduceEq, Nat.reduceMod, forall_eq_or_imp, forall_eq, forall_const, cond_true, cond_false, decide_true, decide_false, true_imp_iff, implies_true, Int.cast_ofNat_Int, forall_eq']
        have hdk' := hdk
        refine ⟨fun hg => ?_, fun hg => ?_⟩
        · have hk2 : k < p.cs.length := by have := of_decide_eq_true hg; omega
          refine ⟨⟨by omega, by omega⟩, ?_⟩
          refine callK_ro (h6 (p.cs.getD k default) x) ?_ ?_
          · simp only [↓EVP0, EVQ0, EVQ1, EVQ2, EVQ3, EVQ4, EVA, EVK, EVF, ↓reduceIte, Nat.reduceEqDiff, Nat.reduceAdd, Nat.reduceSub, Nat.reduceMul, Nat.reduceLT, Nat.reduceLeDiff, reduceCtorEq, Int.reduceToNat, Int.reduceLT, Int.reduceLE, Int.reduceAdd, Int.reduceSub, Int.reduceMul, Int.reduceNeg, Int.reduceEq, Nat.reduceMod, forall_eq_or_imp, forall_eq, forall_const, cond_true, cond_false, decide_true, decide_false, true_imp_iff, implies_true, Int.cast_ofNat_Int, forall_eq']
          simp only [↓EVP0, EVQ0, EVQ1, EVQ2, EVQ3, EVQ4, EVA, EVK, EVF, ↓reduceIte, Nat.reduceEqDiff, Nat.reduceAdd, Nat.reduceSub, Nat.reduceMul, Nat.reduceLT, Nat.reduceLeDiff, reduceCtorEq, Int.reduceToNat, Int.reduceLT, Int.reduceLE, Int.reduceAdd, Int.reduceSub, Int.reduceMul, Int.reduceNeg, Int.reduceEq, Nat.reduceMod, forall_eq_or_imp, forall_eq, forall_const, cond_true, cond_false, decide_true, decide_false, true_imp_iff, implies_true, Int.cast_ofNat_Int, forall_eq']
          rw [hoth hk2, hdk']
          simp only [show (bif bif decide ((p.cs.getD k default).a = x) then decide ((p.cs.getD k default).ap = y) else false then true else bif decide ((p.cs.getD k default).b = x) then decide ((p.cs.getD k default).bp = y) else false) = matB (p.cs.getD k default) x y by unfold matB; rw [condT, condF, condF]]
          exact ⟨fun _ => ⟨by unfold appRoom; omega, fun h => ⟨by unfold In64; omega, hk2, (), by rw [hat, if_pos h], rfl, cb_all _ _⟩, fun h => ⟨by unfold In64; omega, hk2, (), by rw [hat, if_neg (by rw [h]; simp)], rfl, cb_all _ _⟩⟩, fun h => by simp at h⟩
        · have hkk : k = p.cs.length := by have := of_decide_eq_false hg; omega
          subst hkk
          refine callK_frz (h7 (cabT p x p.cs.length) (cabT p x p.cs.length)) ?_ ?_ ?_
          · rw [hq]; simp only [↓EVP0, EVQ0, EVQ1, EVQ2, EVQ3, EVQ4, EVA, EVK, EVF, ↓reduceIte, Nat.reduceEqDiff, Nat.reduceAdd, Nat.reduceSub, Nat.reduceMul, Nat.reduceLT, Nat.reduceLeDiff, reduceCtorEq, Int.reduceToNat, Int.reduceLT, Int.reduceLE, Int.reduceAdd, Int.reduceSub, Int.reduceMul, Int.reduceNeg, Int.reduceEq, Nat.reduceMod, forall_eq_or_imp, forall_eq, forall_const, cond_true, cond_false, decide_true, decide_false, true_imp_iff, implies_true, Int.cast_ofNat_Int, forall_eq']
          · simp only [↓EVP0, EVQ0, EVQ1, EVQ2, EVQ3, EVQ4, EVA, EVK, EVF, ↓reduceIte, Nat.reduceEqDiff, Nat.reduceAdd, Nat.reduceSub, Nat.reduceMul, Nat.reduceLT, Nat.reduceLeDiff, reduceCtorEq, Int.reduceToNat, Int.reduceLT, Int.reduceLE, Int.reduceAdd, Int.reduceSub, Int.reduceMul, Int.reduceNeg, Int.reduceEq, Nat.reduceMod, forall_eq_or_imp, forall_eq, forall_const, cond_true, cond_false, decide_true, decide_false, true_imp_iff, implies_true, Int.cast_ofNat_Int, forall_eq']
          simp only [↓EVP0, EVQ0, EVQ1, EVQ2, EVQ3, EVQ4, EVA, EVK, EVF, ↓reduceIte, Nat.reduceEqDiff, Nat.reduceAdd, Nat.reduceSub, Nat.reduceMul, Nat.reduceLT, Nat.reduceLeDiff, reduceCtorEq, Int.reduceToNat, Int.reduceLT, Int.reduceLE, Int.reduceAdd, Int.reduceSub, Int.reduceMul, Int.reduceNeg, Int.reduceEq, Nat.reduceMod, forall_eq_or_imp, forall_eq, forall_const, cond_true, cond_false, decide_true, decide_false, true_imp_iff, implies_true, Int.cast_ofNat_Int, forall_eq']
          by_cases h0 : 0 ≤ atT p x y p.cs.length
          · obtain ⟨j, hj, e9, hm⟩ := atT_of h0
            obtain ⟨b1, b2, b3⟩ := nbr_back hv' hj hm
            rw [show (nbrE p x y).2.2.2 = true from congrArg (·.2) b2, show (nbrE p x y).2.2.1 = (j : Int) from congrArg (·.1) b2, e9]
            refine ⟨fun h => by simp at h, fun _ => ⟨fun h => by simp at h, fun _ => ?_⟩⟩
            refine callK_ro (h3 (nbrE p x y).1 (nbrE p x y).2.1) ?_ ?_
            · simp only [↓EVP0, EVQ0, EVQ1, EVQ2, EVQ3, EVQ4, EVA, EVK, EVF, ↓reduceIte, Nat.reduceEqDiff, Nat.reduceAdd, Nat.reduceSub, Nat.reduceMul, Nat.reduceLT, Nat.reduceLeDiff, reduceCtorEq, Int.reduceToNat, Int.reduceLT, Int.reduceLE, Int.reduceAdd, Int.reduceSub, Int.reduceMul, Int.reduceNeg, Int.reduceEq, Nat.reduceMod, forall_eq_or_imp, forall_eq, forall_const, cond_true, cond_false, decide_true, decide_false, true_imp_iff, implies_true, Int.cast_ofNat_Int, forall_eq']
            simp only [↓EVP0, EVQ0, EVQ1, EVQ2, EVQ3, EVQ4, EVA, EVK, EVF, ↓reduceIte, Nat.reduceEqDiff, Nat.reduceAdd, Nat.reduceSub, Nat.reduceMul, Nat.reduceLT, Nat.reduceLeDiff, reduceCtorEq, Int.reduceToNat, Int.reduceLT, Int.reduceLE, Int.reduceAdd, Int.reduceSub, Int.reduceMul, Int.reduceNeg, Int.reduceEq, Nat.reduceMod, forall_eq_or_imp, forall_eq, forall_const, cond_true, cond_false, decide_true, decide_false, true_imp_iff, implies_true, Int.cast_ofNat_Int, forall_eq']
            rw [b1]
            simp only [decide_true, cond_true]
            refine ⟨fun _ => ⟨by omega, by omega⟩, ?_⟩
            (refine lops_ge_imp ?_; simp only [↓EVP0, EVQ0, EVQ1, EVQ2, EVQ3, EVQ4, EVA, EVK, EVF, ↓reduceIte, Nat.reduceEqDiff, Nat.reduceAdd, Nat.reduceSub, Nat.reduceMul, Nat.reduceLT, Nat.reduceLeDiff, reduceCtorEq, Int.reduceToNat, Int.reduceLT, Int.reduceLE, Int.reduceAdd, Int.reduceSub, Int.reduceMul, Int.reduceNeg, Int.reduceEq, Nat.reduceMod, forall_eq_or_imp, forall_eq, forall_const, cond_true, cond_false, decide_true, decide_false, true_imp_iff, implies_true, Int.cast_ofNat_Int, forall_eq'])
            refine gCallK_ro _ (fun _ => h6 (p.cs.getD j default) x) (fun _ => ?_) ?_
            · simp only [↓EVP0, EVQ0, EVQ1, EVQ2, EVQ3, EVQ4, EVA, EVK, EVF, ↓reduceIte, Nat.reduceEqDiff, Nat.reduceAdd, Nat.reduceSub, Nat.reduceMul, Nat.reduceLT, Nat.reduceLeDiff, reduceCtorEq, Int.reduceToNat, Int.reduceLT, Int.reduceLE, Int.reduceAdd, Int.reduceSub, Int.reduceMul, Int.reduceNeg, Int.reduceEq, Nat.reduceMod, forall_eq_or_imp, forall_eq, forall_const, cond_true, cond_false, decide_true, decide_false, true_imp_iff, implies_true, Int.cast_ofNat_Int, forall_eq']
            simp only [↓EVP0, EVQ0, EVQ1, EVQ2, EVQ3, EVQ4, EVA, EVK, EVF, ↓reduceIte, Nat.reduceEqDiff, Nat.reduceAdd, Nat.reduceSub, Nat.reduceMul, Nat.reduceLT, Nat.reduceLeDiff, reduceCtorEq, Int.reduceToNat, Int.reduceLT, Int.reduceLE, Int.reduceAdd, Int.reduceSub, Int.reduceMul, Int.reduceNeg, Int.reduceEq, Nat.reduceMod, forall_eq_or_imp, forall_eq, forall_const, cond_true, cond_false, decide_true, decide_false, true_imp_iff, implies_true, Int.cast_ofNat_Int, forall_eq']
            exact decide_eq_true b3
          · obtain ⟨e9, hm⟩ := atT_neg h0
            have b1 : nbrE p x y = (-1, -1, -1, false) := by
              unfold nbrE
              rw [if_pos hv']
              refine nbrGo_none fun c hc => ?_
              obtain ⟨j, hj, rfl⟩ := List.getElem_of_mem hc
              have := hm j hj
              rwa [List.getD_eq_getElem?_getD, List.getElem?_eq_getElem hj] at this
            rw [b1, e9]
            exact ⟨fun h => by simp at h, fun _ => ⟨fun _ => by simp, fun h => by simp at h⟩⟩
      · have hp1 : cabT p x (k + 1) = [] := by rw [hps, if_neg hdk, hq]; rfl
        simp only [hp1, hq, if_true]
        unfold lb6_0
        simp only [↓EVP0, EVQ0, EVQ1, EVQ2, EVQ3, EVQ4, EVA, EVK, EVF, ↓reduceIte, Nat.reduceEqDiff, Nat.reduceAdd, Nat.reduceSub, Nat.reduceMul, Nat.reduceLT, Nat.reduceLeDiff, reduceCtorEq, Int.reduceToNat, Int.reduceLT, Int.reduceLE, Int.reduceAdd, Int.reduceSub, Int.reduceMul, Int.reduceNeg, Int.reduceEq, Nat.reduceMod, forall_eq_or_imp, forall_eq, forall_const, cond_true, cond_false, decide_true, decide_false, true_imp_iff, implies_true, Int.cast_ofNat_Int, forall_eq']
        have hdk'' : touB (p.cs.getD k default) x = false := by simpa using hdk
        refine ⟨fun hg => ?_, fun hg => ?_⟩
        · have hk2 : k < p.cs.length := by have := of_decide_eq_true hg; omega
          refine ⟨⟨by omega, by omega⟩, ?_⟩
          refine callK_ro (h6 (p.cs.getD k default) x) ?_ ?_
          · simp only [↓EVP0, EVQ0, EVQ1, EVQ2, EVQ3, EVQ4, EVA, EVK, EVF, ↓reduceIte, Nat.reduceEqDiff, Nat.reduceAdd, Nat.reduceSub, Nat.reduceMul, Nat.reduceLT, Nat.reduceLeDiff, reduceCtorEq, Int.reduceToNat, Int.reduceLT, Int.reduceLE, Int.reduceAdd, Int.reduceSub, Int.reduceMul, Int.reduceNeg, Int.reduceEq, Nat.reduceMod, forall_eq_or_imp, forall_eq, forall_const, cond_true, cond_false, decide_true, decide_false, true_imp_iff, implies_true, Int.cast_ofNat_Int, forall_eq']
          simp only [↓EVP0, EVQ0, EVQ1, EVQ2, EVQ3, EVQ4, EVA, EVK, EVF, ↓reduceIte, Nat.reduceEqDiff, Nat.reduceAdd, Nat.reduceSub, Nat.reduceMul, Nat.reduceLT, Nat.reduceLeDiff, reduceCtorEq, Int.reduceToNat, Int.reduceLT, Int.reduceLE, Int.reduceAdd, Int.reduceSub, Int.reduceMul, Int.reduceNeg, Int.reduceEq, Nat.reduceMod, forall_eq_or_imp, forall_eq, forall_const, cond_true, cond_false, decide_true, decide_false, true_imp_iff, implies_true, Int.cast_ofNat_Int, forall_eq']
          rw [hoth hk2, hdk'']
          simp only [show (bif bif decide ((p.cs.getD k default).a = x) then decide ((p.cs.getD k default).ap = y) else false then true else bif decide ((p.cs.getD k default).b = x) then decide ((p.cs.getD k default).bp = y) else false) = matB (p.cs.getD k default) x y by unfold matB; rw [condT, condF, condF]]
          exact ⟨fun h => by simp at h, fun _ => ⟨fun h => ⟨by unfold In64; omega, hk2, (), by rw [hat, if_pos h]⟩, fun h => ⟨by unfold In64; omega, hk2, (), by rw [hat, if_neg (by rw [h]; simp)]⟩⟩⟩
        · have hkk : k = p.cs.length := by have := of_decide_eq_false hg; omega
          subst hkk
          refine callK_frz (h7 (cabT p x p.cs.length) (cabT p x p.cs.length)) ?_ ?_ ?_
          · rw [hq]; simp only [↓EVP0, EVQ0, EVQ1, EVQ2, EVQ3, EVQ4, EVA, EVK, EVF, ↓reduceIte, Nat.reduceEqDiff, Nat.reduceAdd, Nat.reduceSub, Nat.reduceMul, Nat.reduceLT, Nat.reduceLeDiff, reduceCtorEq, Int.reduceToNat, Int.reduceLT, Int.reduceLE, Int.reduceAdd, Int.reduceSub, Int.reduceMul, Int.reduceNeg, Int.reduceEq, Nat.reduceMod, forall_eq_or_imp, forall_eq, forall_const, cond_true, cond_false, decide_true, decide_false, true_imp_iff, implies_true, Int.cast_ofNat_Int, forall_eq']
          · simp only [↓EVP0, EVQ0, EVQ1, EVQ2, EVQ3, EVQ4, EVA, EVK, EVF, ↓reduceIte, Nat.reduceEqDiff, Nat.reduceAdd, Nat.reduceSub, Nat.reduceMul, Nat.reduceLT, Nat.reduceLeDiff, reduceCtorEq, Int.reduceToNat, Int.reduceLT, Int.reduceLE, Int.reduceAdd, Int.reduceSub, Int.reduceMul, Int.reduceNeg, Int.reduceEq, Nat.reduceMod, forall_eq_or_imp, forall_eq, forall_const, cond_true, cond_false, decide_true, decide_false, true_imp_iff, implies_true, Int.cast_ofNat_Int, forall_eq']
          simp only [↓EVP0, EVQ0, EVQ1, EVQ2, EVQ3, EVQ4, EVA, EVK, EVF, ↓reduceIte, Nat.reduceEqDiff, Nat.reduceAdd, Nat.reduceSub, Nat.reduceMul, Nat.reduceLT, Nat.reduceLeDiff, reduceCtorEq, Int.reduceToNat, Int.reduceLT, Int.reduceLE, Int.reduceAdd, Int.reduceSub, Int.reduceMul, Int.reduceNeg, Int.reduceEq, Nat.reduceMod, forall_eq_or_imp, forall_eq, forall_const, cond_true, cond_false, decide_true, decide_false, true_imp_iff, implies_true, Int.cast_ofNat_Int, forall_eq']
          by_cases h0 : 0 ≤ atT p x y p.cs.length
          · obtain ⟨j, hj, e9, hm⟩ := atT_of h0
            obtain ⟨b1, b2, b3⟩ := nbr_back hv' hj hm
            rw [show (nbrE p x y).2.2.2 = true from congrArg (·.2) b2, show (nbrE p x y).2.2.1 = (j : Int) from congrArg (·.1) b2, e9]
            refine ⟨fun h => by simp at h, fun _ => ⟨fun h => by simp at h, fun _ => ?_⟩⟩
            refine callK_ro (h3 (nbrE p x y).1 (nbrE p x y).2.1) ?_ ?_
            · simp only [↓EVP0, EVQ0, EVQ1, EVQ2, EVQ3, EVQ4, EVA, EVK, EVF, ↓reduceIte, Nat.reduceEqDiff, Nat.reduceAdd, Nat.reduceSub, Nat.reduceMul, Nat.reduceLT, Nat.reduceLeDiff, reduceCtorEq, Int.reduceToNat, Int.reduceLT, Int.reduceLE, Int.reduceAdd, Int.reduceSub, Int.reduceMul, Int.reduceNeg, Int.reduceEq, Nat.reduceMod, forall_eq_or_imp, forall_eq, forall_const, cond_true, cond_false, decide_true, decide_false, true_imp_iff, implies_true, Int.cast_ofNat_Int, forall_eq']
            simp only [↓EVP0, EVQ0, EVQ1, EVQ2, EVQ3, EVQ4, EVA, EVK, EVF, ↓reduceIte, Nat.reduceEqDiff, Nat.reduceAdd, Nat.reduceSub, Nat.reduceMul, Nat.reduceLT, Nat.reduceLeDiff, reduceCtorEq, Int.reduceToNat, Int.reduceLT, Int.reduceLE, Int.reduceAdd, Int.reduceSub, Int.reduceMul, Int.reduceNeg, Int.reduceEq, Nat.reduceMod, forall_eq_or_imp, forall_eq, forall_const, cond_true, cond_false, decide_true, decide_false, true_imp_iff, implies_true, Int.cast_ofNat_Int, forall_eq']
            rw [b1]
            simp only [decide_true, cond_true]
            refine ⟨fun _ => ⟨by omega, by omega⟩, ?_⟩
            (refine lops_ge_imp ?_; simp only [↓EVP0, EVQ0, EVQ1, EVQ2, EVQ3, EVQ4, EVA, EVK, EVF, ↓reduceIte, Nat.reduceEqDiff, Nat.reduceAdd, Nat.reduceSub, Nat.reduceMul, Nat.reduceLT, Nat.reduceLeDiff, reduceCtorEq, Int.reduceToNat, Int.reduceLT, Int.reduceLE, Int.reduceAdd, Int.reduceSub, Int.reduceMul, Int.reduceNeg, Int.reduceEq, Nat.reduceMod, forall_eq_or_imp, forall_eq, forall_const, cond_true, cond_false, decide_true, decide_false, true_imp_iff, implies_true, Int.cast_ofNat_Int, forall_eq'])
            refine gCallK_ro _ (fun _ => h6 (p.cs.getD j default) x) (fun _ => ?_) ?_
            · simp only [↓EVP0, EVQ0, EVQ1, EVQ2, EVQ3, EVQ4, EVA, EVK, EVF, ↓reduceIte, Nat.reduceEqDiff, Nat.reduceAdd, Nat.reduceSub, Nat.reduceMul, Nat.reduceLT, Nat.reduceLeDiff, reduceCtorEq, Int.reduceToNat, Int.reduceLT, Int.reduceLE, Int.reduceAdd, Int.reduceSub, Int.reduceMul, Int.reduceNeg, Int.reduceEq, Nat.reduceMod, forall_eq_or_imp, forall_eq, forall_const, cond_true, cond_false, decide_true, decide_false, true_imp_iff, implies_true, Int.cast_ofNat_Int, forall_eq']
            simp only [↓EVP0, EVQ0, EVQ1, EVQ2, EVQ3, EVQ4, EVA, EVK, EVF, ↓reduceIte, Nat.reduceEqDiff, Nat.reduceAdd, Nat.reduceSub, Nat.reduceMul, Nat.reduceLT, Nat.reduceLeDiff, reduceCtorEq, Int.reduceToNat, Int.reduceLT, Int.reduceLE, Int.reduceAdd, Int.reduceSub, Int.reduceMul, Int.reduceNeg, Int.reduceEq, Nat.reduceMod, forall_eq_or_imp, forall_eq, forall_const, cond_true, cond_false, decide_true, decide_false, true_imp_iff, implies_true, Int.cast_ofNat_Int, forall_eq']
            exact decide_eq_true b3
          · obtain ⟨e9, hm⟩ := atT_neg h0
            have b1 : nbrE p x y = (-1, -1, -1, false) := by
              unfold nbrE
              rw [if_pos hv']
              refine nbrGo_none fun c hc => ?_
              obtain ⟨j, hj, rfl⟩ := List.getElem_of_mem hc
              have := hm j hj
              rwa [List.getD_eq_getElem?_getD, List.getElem?_eq_getElem hj] at this
            rw [b1, e9]
            exact ⟨fun h => by simp at h, fun _ => ⟨fun _ => by simp, fun h => by simp at h⟩⟩
    · by_cases hdk : touB (p.cs.getD k default) x = true
      · have hp1 : cabT p x (k + 1) = cabT p x k ++ [(k : Int)] := by rw [hps, if_pos hdk]
        simp only [hp1, hq, List.append_eq_nil_iff, List.cons_ne_nil, and_false, if_false]
        unfold lb6_0
        simp only [↓EVP0, EVQ0, EVQ1, EVQ2, EVQ3, EVQ4, EVA, EVK, EVF, ↓reduceIte, Nat.reduceEqDiff, Nat.reduceAdd, Nat.reduceSub, Nat.reduceMul, Nat.reduceLT, Nat.reduceLeDiff, reduceCtorEq, Int.reduceToNat, Int.reduceLT, Int.reduceLE, Int.reduceAdd, Int.reduceSub, Int.reduceMul, Int.reduceNeg, Int.reduceEq, Nat.reduceMod, forall_eq_or_imp, forall_eq, forall_const, cond_true, cond_false, decide_true, decide_false, true_imp_iff, implies_true, Int.cast_ofNat_Int, forall_eq']
        have hdk' := hdk
        refine ⟨fun hg => ?_, fun hg => ?_⟩
        · have hk2 : k < p.cs.length := by have := of_decide_eq_true hg; omega
          refine ⟨⟨by omega, by omega⟩, ?_⟩
          refine callK_ro (h6 (p.cs.getD k default) x) ?_ ?_
          · simp only [↓EVP0, EVQ0, EVQ1, EVQ2, EVQ3, EVQ4, EVA, EVK, EVF, ↓reduceIte, Nat.reduceEqDiff, Nat.reduceAdd, Nat.reduceSub, Nat.reduceMul, Nat.reduceLT, Nat.reduceLeDiff, reduceCtorEq, Int.reduceToNat, Int.reduceLT, Int.reduceLE, Int.reduceAdd, Int.reduceSub, Int.reduceMul, Int.reduceNeg, Int.reduceEq, Nat.reduceMod, forall_eq_or_imp, forall_eq, forall_const, cond_true, cond_false, decide_true, decide_false, true_imp_iff, implies_true, Int.cast_ofNat_Int, forall_eq']
          simp only [↓EVP0, EVQ0, EVQ1, EVQ2, EVQ3, EVQ4, EVA, EVK, EVF, ↓reduceIte, Nat.reduceEqDiff, Nat.reduceAdd, Nat.reduceSub, Nat.reduceMul, Nat.reduceLT, Nat.reduceLeDiff, reduceCtorEq, Int.reduceToNat, Int.reduceLT, Int.reduceLE, Int.reduceAdd, Int.reduceSub, Int.reduceMul, Int.reduceNeg, Int.reduceEq, Nat.reduceMod, forall_eq_or_imp, forall_eq, forall_const, cond_true, cond_false, decide_true, decide_false, true_imp_iff, implies_true, Int.cast_ofNat_Int, forall_eq']
          rw [hoth hk2, hdk']
          simp only [show (bif bif decide ((p.cs.getD k default).a = x) then decide ((p.cs.getD k default).ap = y) else false then true else bif decide ((p.cs.getD k default).b = x) then decide ((p.cs.getD k default).bp = y) else false) = matB (p.cs.getD k default) x y by unfold matB; rw [condT, condF, condF]]
          have hpl : 0 < (cabT p x k).length := List.length_pos_iff.2 hq
          have hl1 : (cabT p x k ++ [(k : Int)]).length = (cabT p x k).length + 1 := by simp
          refine ⟨fun _ => ⟨Nat.le_refl _, by unfold appRoom; omega, ?_⟩, fun h => by simp at h⟩
          rw [show (cabT p x k).length - 1 + 1 = (cabT p x k).length + 1 - 1 by omega, List.take_of_length_le (Nat.le_refl _), hl1, getD_app0 hpl]
          exact ⟨fun h => ⟨by unfold In64; omega, hk2, (), ⟨rfl, by rw [hat, if_pos h]⟩, rfl, cb_all _ _, rfl, rfl, rfl⟩, fun h => ⟨by unfold In64; omega, hk2, (), ⟨rfl, by rw [hat, if_neg (by rw [h]; simp)]⟩, rfl, cb_all _ _, rfl, rfl, rfl⟩⟩
        · have hkk : k = p.cs.length := by have := of_decide_eq_false hg; omega
          subst hkk
          refine callK_frz (h7 (cabT p x p.cs.length) (cabT p x p.cs.length)) ?_ ?_ ?_
          · simp only [↓EVP0, EVQ0, EVQ1, EVQ2, EVQ3, EVQ4, EVA, EVK, EVF, ↓reduceIte, Nat.reduceEqDiff, Nat.reduceAdd, Nat.reduceSub, Nat.reduceMul, Nat.reduceLT, Nat.reduceLeDiff, reduceCtorEq, Int.reduceToNat, Int.reduceLT, Int.reduceLE, Int.reduceAdd, Int.reduceSub, Int.reduceMul, Int.reduceNeg, Int.reduceEq, Nat.reduceMod, forall_eq_or_imp, forall_eq, forall_const, cond_true, cond_false, decide_true, decide_false, true_imp_iff, implies_true, Int.cast_ofNat_Int, forall_eq']; exact Nat.le_refl _
          · simp only [↓EVP0, EVQ0, EVQ1, EVQ2, EVQ3, EVQ4, EVA, EVK, EVF, ↓reduceIte, Nat.reduceEqDiff, Nat.reduceAdd, Nat.reduceSub, Nat.reduceMul, Nat.reduceLT, Nat.reduceLeDiff, reduceCtorEq, Int.reduceToNat, Int.reduceLT, Int.reduceLE, Int.reduceAdd, Int.reduceSub, Int.reduceMul, Int.reduceNeg, Int.reduceEq, Nat.reduceMod, forall_eq_or_imp, forall_eq, forall_const, cond_true, cond_false, decide_true, decide_false, true_imp_iff, implies_true, Int.cast_ofNat_Int, forall_eq']
          simp only [↓EVP0, EVQ0, EVQ1, EVQ2, EVQ3, EVQ4, EVA, EVK, EVF, ↓reduceIte, Nat.reduceEqDiff, Nat.reduceAdd, Nat.reduceSub, Nat.reduceMul, Nat.reduceLT, Nat.reduceLeDiff, reduceCtorEq, Int.reduceToNat, Int.reduceLT, Int.reduceLE, Int.reduceAdd, Int.reduceSub, Int.reduceMul, Int.reduceNeg, Int.reduceEq, Nat.reduceMod, forall_eq_or_imp, forall_eq, forall_const, cond_true, cond_false, decide_true, decide_false, true_imp_iff, implies_true, Int.cast_ofNat_Int, forall_eq']
          by_cases h0 : 0 ≤ atT p x y p.cs.length
          · obtain ⟨j, hj, e9, hm⟩ := atT_of h0
            obtain ⟨b1, b2, b3⟩ := nbr_back hv' hj hm
            rw [show (nbrE p x y).2.2.2 = true from congrArg (·.2) b2, show (nbrE p x y).2.2.1 = (j : Int) from congrArg (·.1) b2, e9]
            refine ⟨fun h => by simp at h, fun _ => ⟨fun h => by simp at h, fun _ => ?_⟩⟩
            refine callK_ro (h3 (nbrE p x y).1 (nbrE p x y).2.1) ?_ ?_
            · simp only [↓EVP0, EVQ0, EVQ1, EVQ2, EVQ3, EVQ4, EVA, EVK, EVF, ↓reduceIte, Nat.reduceEqDiff, Nat.reduceAdd, Nat.reduceSub, Nat.reduceMul, Nat.reduceLT, Nat.reduceLeDiff, reduceCtorEq, Int.reduceToNat, Int.reduceLT, Int.reduceLE, Int.reduceAdd, Int.reduceSub, Int.reduceMul, Int.reduceNeg, Int.reduceEq, Nat.reduceMod, forall_eq_or_imp, forall_eq, forall_const, cond_true, cond_false, decide_true, decide_false, true_imp_iff, implies_true, Int.cast_ofNat_Int, forall_eq']
            simp only [↓EVP0, EVQ0, EVQ1, EVQ2, EVQ3, EVQ4, EVA, EVK, EVF, ↓reduceIte, Nat.reduceEqDiff, Nat.reduceAdd, Nat.reduceSub, Nat.reduceMul, Nat.reduceLT, Nat.reduceLeDiff, reduceCtorEq, Int.reduceToNat, Int.reduceLT, Int.reduceLE, Int.reduceAdd, Int.reduceSub, Int.reduceMul, Int.reduceNeg, Int.reduceEq, Nat.reduceMod, forall_eq_or_imp, forall_eq, forall_const, cond_true, cond_false, decide_true, decide_false, true_imp_iff, implies_true, Int.cast_ofNat_Int, forall_eq']
            rw [b1]
            simp only [decide_true, cond_true]
            refine ⟨fun _ => ⟨by omega, by omega⟩, ?_⟩
            (refine lops_ge_imp ?_; simp only [↓EVP0, EVQ0, EVQ1, EVQ2, EVQ3, EVQ4, EVA, EVK, EVF, ↓reduceIte, Nat.reduceEqDiff, Nat.reduceAdd, Nat.reduceSub, Nat.reduceMul, Nat.reduceLT, Nat.reduceLeDiff, reduceCtorEq, Int.reduceToNat, Int.reduceLT, Int.reduceLE, Int.reduceAdd, Int.reduceSub, Int.reduceMul, Int.reduceNeg, Int.reduceEq, Nat.reduceMod, forall_eq_or_imp, forall_eq, forall_const, cond_true, cond_false, decide_true, decide_false, true_imp_iff, implies_true, Int.cast_ofNat_Int, forall_eq'])
            refine gCallK_ro _ (fun _ => h6 (p.cs.getD j default) x) (fun _ => ?_) ?_
            · simp only [↓EVP0, EVQ0, EVQ1, EVQ2, EVQ3, EVQ4, EVA, EVK, EVF, ↓reduceIte, Nat.reduceEqDiff, Nat.reduceAdd, Nat.reduceSub, Nat.reduceMul, Nat.reduceLT, Nat.reduceLeDiff, reduceCtorEq, Int.reduceToNat, Int.reduceLT, Int.reduceLE, Int.reduceAdd, Int.reduceSub, Int.reduceMul, Int.reduceNeg, Int.reduceEq, Nat.reduceMod, forall_eq_or_imp, forall_eq, forall_const, cond_true, cond_false, decide_true, decide_false, true_imp_iff, implies_true, Int.cast_ofNat_Int, forall_eq']
            simp only [↓EVP0, EVQ0, EVQ1, EVQ2, EVQ3, EVQ4, EVA, EVK, EVF, ↓reduceIte, Nat.reduceEqDiff, Nat.reduceAdd, Nat.reduceSub, Nat.reduceMul, Nat.reduceLT, Nat.reduceLeDiff, reduceCtorEq, Int.reduceToNat, Int.reduceLT, Int.reduceLE, Int.reduceAdd, Int.reduceSub, Int.reduceMul, Int.reduceNeg, Int.reduceEq, Nat.reduceMod, forall_eq_or_imp, forall_eq, forall_const, cond_true, cond_false, decide_true, decide_false, true_imp_iff, implies_true, Int.cast_ofNat_Int, forall_eq']
            exact decide_eq_true b3
          · obtain ⟨e9, hm⟩ := atT_neg h0
            have b1 : nbrE p x y = (-1, -1, -1, false) := by
              unfold nbrE
              rw [if_pos hv']
              refine nbrGo_none fun c hc => ?_
              obtain ⟨j, hj, rfl⟩ := List.getElem_of_mem hc
              have := hm j hj
              rwa [List.getD_eq_getElem?_getD, List.getElem?_eq_getElem hj] at this
            rw [b1, e9]
            exact ⟨fun h => by simp at h, fun _ => ⟨fun _ => by simp, fun h => by simp at h⟩⟩
      · have hp1 : cabT p x (k + 1) = cabT p x k := by rw [hps, if_neg hdk]; simp
        simp only [hp1, hq, if_false]
        unfold lb6_0
        simp only [↓EVP0, EVQ0, EVQ1, EVQ2, EVQ3, EVQ4, EVA, EVK, EVF, ↓reduceIte, Nat.reduceEqDiff, Nat.reduceAdd, Nat.reduceSub, Nat.reduceMul, Nat.reduceLT, Nat.reduceLeDiff, reduceCtorEq, Int.reduceToNat, Int.reduceLT, Int.reduceLE, Int.reduceAdd, Int.reduceSub, Int.reduceMul, Int.reduceNeg, Int.reduceEq, Nat.reduceMod, forall_eq_or_imp, forall_eq, forall_const, cond_true, cond_false, decide_true, decide_false, true_imp_iff, implies_true, Int.cast_ofNat_Int, forall_eq']
        have hdk'' : touB (p.cs.getD k default) x = false := by simpa using hdk
        refine ⟨fun hg => ?_, fun hg => ?_⟩
        · have hk2 : k < p.cs.length := by have := of_decide_eq_true hg; omega
          refine ⟨⟨by omega, by omega⟩, ?_⟩
          refine callK_ro (h6 (p.cs.getD k default) x) ?_ ?_
          · simp only [↓EVP0, EVQ0, EVQ1, EVQ2, EVQ3, EVQ4, EVA, EVK, EVF, ↓reduceIte, Nat.reduceEqDiff, Nat.reduceAdd, Nat.reduceSub, Nat.reduceMul, Nat.reduceLT, Nat.reduceLeDiff, reduceCtorEq, Int.reduceToNat, Int.reduceLT, Int.reduceLE, Int.reduceAdd, Int.reduceSub, Int.reduceMul, Int.reduceNeg, Int.reduceEq, Nat.reduceMod, forall_eq_or_imp, forall_eq, forall_const, cond_true, cond_false, decide_true, decide_false, true_imp_iff, implies_true, Int.cast_ofNat_Int, forall_eq']
          simp only [↓EVP0, EVQ0, EVQ1, EVQ2, EVQ3, EVQ4, EVA, EVK, EVF, ↓reduceIte, Nat.reduceEqDiff, Nat.reduceAdd, Nat.reduceSub, Nat.reduceMul, Nat.reduceLT, Nat.reduceLeDiff, reduceCtorEq, Int.reduceToNat, Int.reduceLT, Int.reduceLE, Int.reduceAdd, Int.reduceSub, Int.reduceMul, Int.reduceNeg, Int.reduceEq, Nat.reduceMod, forall_eq_or_imp, forall_eq, forall_const, cond_true, cond_false, decide_true, decide_false, true_imp_iff, implies_true, Int.cast_ofNat_Int, forall_eq']
          rw [hoth hk2, hdk'']
          simp only [show (bif bif decide ((p.cs.getD k default).a = x) then decide ((p.cs.getD k default).ap = y) else false then true else bif decide ((p.cs.getD k default).b = x) then decide ((p.cs.getD k default).bp = y) else false) = matB (p.cs.getD k default) x y by unfold matB; rw [condT, condF, condF]]
          exact ⟨fun h => by simp at h, fun _ => ⟨fun h => ⟨by unfold In64; omega, hk2, (), by rw [hat, if_pos h], cb_all _ _⟩, fun h => ⟨by unfold In64; omega, hk2, (), by rw [hat, if_neg (by rw [h]; simp)], cb_all _ _⟩⟩⟩
        · have hkk : k = p.cs.length := by have := of_decide_eq_false hg; omega
          subst hkk
          refine callK_frz (h7 (cabT p x p.cs.length) (cabT p x p.cs.length)) ?_ ?_ ?_
          · simp only [↓EVP0, EVQ0, EVQ1, EVQ2, EVQ3, EVQ4, EVA, EVK, EVF, ↓reduceIte, Nat.reduceEqDiff, Nat.reduceAdd, Nat.reduceSub, Nat.reduceMul, Nat.reduceLT, Nat.reduceLeDiff, reduceCtorEq, Int.reduceToNat, Int.reduceLT, Int.reduceLE, Int.reduceAdd, Int.reduceSub, Int.reduceMul, Int.reduceNeg, Int.reduceEq, Nat.reduceMod, forall_eq_or_imp, forall_eq, forall_const, cond_true, cond_false, decide_true, decide_false, true_imp_iff, implies_true, Int.cast_ofNat_Int, forall_eq']; exact Nat.le_refl _
          · simp only [↓EVP0, EVQ0, EVQ1, EVQ2, EVQ3, EVQ4, EVA, EVK, EVF, ↓reduceIte, Nat.reduceEqDiff, Nat.reduceAdd, Nat.reduceSub, Nat.reduceMul, Nat.reduceLT, Nat.reduceLeDiff, reduceCtorEq, Int.reduceToNat, Int.reduceLT, Int.reduceLE, Int.reduceAdd, Int.reduceSub, Int.reduceMul, Int.reduceNeg, Int.reduceEq, Nat.reduceMod, forall_eq_or_imp, forall_eq, forall_const, cond_true, cond_false, decide_true, decide_false, true_imp_iff, implies_true, Int.cast_ofNat_Int, forall_eq']
          simp only [↓EVP0, EVQ0, EVQ1, EVQ2, EVQ3, EVQ4, EVA, EVK, EVF, ↓reduceIte, Nat.reduceEqDiff, Nat.reduceAdd, Nat.reduceSub, Nat.reduceMul, Nat.reduceLT, Nat.reduceLeDiff, reduceCtorEq, Int.reduceToNat, Int.reduceLT, Int.reduceLE, Int.reduceAdd, Int.reduceSub, Int.reduceMul, Int.reduceNeg, Int.reduceEq, Nat.reduceMod, forall_eq_or_imp, forall_eq, forall_const, cond_true, cond_false, decide_true, decide_false, true_imp_iff, implies_true, Int.cast_ofNat_Int, forall_eq']
          by_cases h0 : 0 ≤ atT p x y p.cs.length
          · obtain ⟨j, hj, e9, hm⟩ := atT_of h0
            obtain ⟨b1, b2, b3⟩ := nbr_back hv' hj hm
            rw [show (nbrE p x y).2.2.2 = true from congrArg (·.2) b2, show (nbrE p x y).2.2.1 = (j : Int) from congrArg (·.1) b2, e9]
            refine ⟨fun h => by simp at h, fun _ => ⟨fun h => by simp at h, fun _ => ?_⟩⟩
            refine callK_ro (h3 (nbrE p x y).1 (nbrE p x y).2.1) ?_ ?_
            · simp only [↓EVP0, EVQ0, EVQ1, EVQ2, EVQ3, EVQ4, EVA, EVK, EVF, ↓reduceIte, Nat.reduceEqDiff, Nat.reduceAdd, Nat.reduceSub, Nat.reduceMul, Nat.reduceLT, Nat.reduceLeDiff, reduceCtorEq, Int.reduceToNat, Int.reduceLT, Int.reduceLE, Int.reduceAdd, Int.reduceSub, Int.reduceMul, Int.reduceNeg, Int.reduceEq, Nat.reduceMod, forall_eq_or_imp, forall_eq, forall_const, cond_true, cond_false, decide_true, decide_false, true_imp_iff, implies_true, Int.cast_ofNat_Int, forall_eq']
            simp only [↓EVP0, EVQ0, EVQ1, EVQ2, EVQ3, EVQ4, EVA, EVK, EVF, ↓reduceIte, Nat.reduceEqDiff, Nat.reduceAdd, Nat.reduceSub, Nat.reduceMul, Nat.reduceLT, Nat.reduceLeDiff, reduceCtorEq, Int.reduceToNat, Int.reduceLT, Int.reduceLE, Int.reduceAdd, Int.reduceSub, Int.reduceMul, Int.reduceNeg, Int.reduceEq, Nat.reduceMod, forall_eq_or_imp, forall_eq, forall_const, cond_true, cond_false, decide_true, decide_false, true_imp_iff, implies_true, Int.cast_ofNat_Int, forall_eq']
            rw [b1]
            simp only [decide_true, cond_true]
            refine ⟨fun _ => ⟨by omega, by omega⟩, ?_⟩
            (refine lops_ge_imp ?_; simp only [↓EVP0, EVQ0, EVQ1, EVQ2, EVQ3, EVQ4, EVA, EVK, EVF, ↓reduceIte, Nat.reduceEqDiff, Nat.reduceAdd, Nat.reduceSub, Nat.reduceMul, Nat.reduceLT, Nat.reduceLeDiff, reduceCtorEq, Int.reduceToNat, Int.reduceLT, Int.reduceLE, Int.reduceAdd, Int.reduceSub, Int.reduceMul, Int.reduceNeg, Int.reduceEq, Nat.reduceMod, forall_eq_or_imp, forall_eq, forall_const, cond_true, cond_false, decide_true, decide_false, true_imp_iff, implies_true, Int.cast_ofNat_Int, forall_eq'])
            refine gCallK_ro _ (fun _ => h6 (p.cs.getD j default) x) (fun _ => ?_) ?_
            · simp only [↓EVP0, EVQ0, EVQ1, EVQ2, EVQ3, EVQ4, EVA, EVK, EVF, ↓reduceIte, Nat.reduceEqDiff, Nat.reduceAdd, Nat.reduceSub, Nat.reduceMul, Nat.reduceLT, Nat.reduceLeDiff, reduceCtorEq, Int.reduceToNat, Int.reduceLT, Int.reduceLE, Int.reduceAdd, Int.reduceSub, Int.reduceMul, Int.reduceNeg, Int.reduceEq, Nat.reduceMod, forall_eq_or_imp, forall_eq, forall_const, cond_true, cond_false, decide_true, decide_false, true_imp_iff, implies_true, Int.cast_ofNat_Int, forall_eq']
            simp only [↓EVP0, EVQ0, EVQ1, EVQ2, EVQ3, EVQ4, EVA, EVK, EVF, ↓reduceIte, Nat.reduceEqDiff, Nat.reduceAdd, Nat.reduceSub, Nat.reduceMul, Nat.reduceLT, Nat.reduceLeDiff, reduceCtorEq, Int.reduceToNat, Int.reduceLT, Int.reduceLE, Int.reduceAdd, Int.reduceSub, Int.reduceMul, Int.reduceNeg, Int.reduceEq, Nat.reduceMod, forall_eq_or_imp, forall_eq, forall_const, cond_true, cond_false, decide_true, decide_false, true_imp_iff, implies_true, Int.cast_ofNat_Int, forall_eq']
            exact decide_eq_true b3
          · obtain ⟨e9, hm⟩ := atT_neg h0
            have b1 : nbrE p x y = (-1, -1, -1, false) := by
              unfold nbrE
              rw [if_pos hv']
              refine nbrGo_none fun c hc => ?_
              obtain ⟨j, hj, rfl⟩ := List.getElem_of_mem hc
              have := hm j hj
              rwa [List.getD_eq_getElem?_getD, List.getElem?_eq_getElem hj] at this
            rw [b1, e9]
            exact ⟨fun h => by simp at h, fun _ => ⟨fun _ => by simp, fun h => by simp at h⟩⟩
  · have e1 : cablesE p x = [] := by unfold cablesE; rw [if_neg (of_decide_eq_false hv)]
    have e2 : nbrE p x y = (-1, -1, -1, false) := by unfold nbrE; rw [if_neg (of_decide_eq_false hv)]
    rw [e1, e2]
    refine callK_frz (h7 [] []) ?_ ?_ ?_
    · simp only [↓EVP0, EVQ0, EVQ1, EVQ2, EVQ3, EVQ4, EVA, EVK, EVF, ↓reduceIte, Nat.reduceEqDiff, Nat.reduceAdd, Nat.reduceSub, Nat.reduceMul, Nat.reduceLT, Nat.reduceLeDiff, reduceCtorEq, Int.reduceToNat, Int.reduceLT, Int.reduceLE, Int.reduceAdd, Int.reduceSub, Int.reduceMul, Int.reduceNeg, Int.reduceEq, Nat.reduceMod, forall_eq_or_imp, forall_eq, forall_const, cond_true, cond_false, decide_true, decide_false, true_imp_iff, implies_true, Int.cast_ofNat_Int, forall_eq']
    · simp only [↓EVP0, EVQ0, EVQ1, EVQ2, EVQ3, EVQ4, EVA, EVK, EVF, ↓reduceIte, Nat.reduceEqDiff, Nat.reduceAdd, Nat.reduceSub, Nat.reduceMul, Nat.reduceLT, Nat.reduceLeDiff, reduceCtorEq, Int.reduceToNat, Int.reduceLT, Int.reduceLE, Int.reduceAdd, Int.reduceSub, Int.reduceMul, Int.reduceNeg, Int.reduceEq, Nat.reduceMod, forall_eq_or_imp, forall_eq, forall_const, cond_true, cond_false, decide_true, decide_false, true_imp_iff, implies_true, Int.cast_ofNat_Int, forall_eq']
    simp only [↓EVP0, EVQ0, EVQ1, EVQ2, EVQ3, EVQ4, EVA, EVK, EVF, ↓reduceIte, Nat.reduceEqDiff, Nat.reduceAdd, Nat.reduceSub, Nat.reduceMul, Nat.reduceLT, Nat.reduceLeDiff, reduceCtorEq, Int.reduceToNat, Int.reduceLT, Int.reduceLE, Int.reduceAdd, Int.reduceSub, Int.reduceMul, Int.reduceNeg, Int.reduceEq, Nat.reduceMod, forall_eq_or_imp, forall_eq, forall_const, cond_true, cond_false, decide_true, decide_false, true_imp_iff, implies_true, Int.cast_ofNat_Int, forall_eq']
    exact ⟨fun h => by simp at h, fun _ => trivial⟩
end Go.Proofs.YtchpncmmlhfemaaDoor
namespace Go.Proofs.YtchpncmmlhfemaaDoor
set_option linter.unusedSimpArgs false
set_option linter.unusedVariables false
open Go.RowKit
set_option maxRecDepth 20000

def cf5b : LC :=
  (.seq (.reg [⟨(some 4), none, .e (.box (.tmp 0))⟩, ⟨(some 8), none, .p (.mov (.const (.bool false)))⟩])
  (.seq (.seq (.reg [⟨(some 17), none, .e (.call 11 [])⟩, ⟨(some 18), none, .p (.un .not (.tmp 17))⟩])
  (.cond (.tmp 18) (.seq (.reg [⟨(some 8), none, .p (.mov (.const (.bool false)))⟩])
  .ret) .skip))
  (.seq (.seq (.reg [⟨(some 19), none, .p (.ld (some 2) (.tmp 4))⟩, ⟨(some 20), none, .e (.call 12 [(.tmp 19)])⟩, ⟨(some 21), none, .p (.mov (.tmp 20))⟩, ⟨(some 22), (some (21, false)), .p (.ld (some 2) (.tmp 4))⟩, ⟨(some 23), (some (21, false)), .e (.call 13 [(.tmp 22)])⟩, ⟨(some 24), (some (21, false)), .p (.bin .neq (.tmp 23) (.const (.int .i64 0)))⟩, ⟨(some 25), none, .p (.pick (.tmp 21) (.const (.bool true)) (.tmp 24))⟩, ⟨(some 26), none, .p (.mov (.tmp 25))⟩, ⟨(some 27), (some (26, false)), .p (.mov (.tmp 1))⟩, ⟨(some 28), (some (26, false)), .p (.len 1 (.tmp 27))⟩, ⟨(some 29), (some (26, false)), .p (.fad 1 (.tmp 4))⟩, ⟨(some 30), (some (26, false)), .p (.ld none (.tmp 29))⟩, ⟨(some 31), (some (26, false)), .p (.len 1 (.tmp 30))⟩, ⟨(some 32), (some (26, false)), .p (.bin .neq (.tmp 28) (.tmp 31))⟩, ⟨(some 33), none, .p (.pick (.tmp 26) (.const (.bool true)) (.tmp 32))⟩, ⟨(some 34), none, .p (.mov (.tmp 33))⟩, ⟨(some 35), (some (34, false)), .p (.mov (.tmp 1))⟩, ⟨(some 36), (some (34, false)), .p (.len 1 (.tmp 35))⟩, ⟨(some 37), (some (34, false)), .p (.bin .eql (.tmp 36) (.const (.int .i64 0)))⟩, ⟨(some 38), none, .p (.pick (.tmp 34) (.const (.bool true)) (.tmp 37))⟩, ⟨(some 39), none, .p (.mov (.tmp 38))⟩, ⟨(some 40), (some (39, false)), .p (.mov (.tmp 2))⟩, ⟨(some 41), (some (39, false)), .p (.bin .lss (.tmp 40) (.const (.int .i64 0)))⟩, ⟨(some 42), none, .p (.pick (.tmp 39) (.const (.bool true)) (.tmp 41))⟩, ⟨(some 43), none, .p (.mov (.tmp 42))⟩, ⟨(some 44), (some (43, false)), .p (.mov (.tmp 2))⟩, ⟨(some 45), (some (43, false)), .p (.fad 0 (.tmp 4))⟩, ⟨(some 46), (some (43, false)), .p (.ld none (.tmp 45))⟩, ⟨(some 47), (some (43, false)), .p (.len 1 (.tmp 46))⟩, ⟨(some 48), (some (43, false)), .p (.bin .geq (.tmp 44) (.tmp 47))⟩, ⟨(some 49), none, .p (.pick (.tmp 43) (.const (.bool true)) (.tmp 48))⟩])
  (.cond (.tmp 49) (.seq (.reg [⟨(some 8), none, .p (.mov (.const (.bool true)))⟩])
  .ret) .skip))
  (.seq (.reg [⟨(some 50), none, .p (.mov (.tmp 3))⟩, ⟨(some 51), none, .p (.cvt .i64 (.tmp 50))⟩, ⟨(some 52), none, .p (.mov (.tmp 1))⟩, ⟨(some 53), none, .p (.len 1 (.tmp 52))⟩, ⟨(some 54), none, .p (.bin .rem (.tmp 51) (.tmp 53))⟩, ⟨(some 9), none, .p (.mov (.tmp 54))⟩])
  (.seq (.reg [⟨(some 55), none, .p (.mov (.tmp 1))⟩, ⟨(some 56), none, .e (.call 17 [(.tmp 55)])⟩, ⟨(some 57), none, .p (.mov (.tmp 1))⟩, ⟨(some 58), none, .e (.call 17 [(.tmp 57)])⟩, ⟨(some 10), none, .p (.mov (.tmp 56))⟩, ⟨(some 11), none, .p (.mov (.tmp 58))⟩])
  (.seqj (.reg [⟨(some 59), none, .p (.mov (.tmp 10))⟩, ⟨(some 60), none, .p (.mov (.tmp 9))⟩, ⟨(some 61), none, .p (.mov (.tmp 11))⟩, ⟨(some 62), none, .p (.mov (.tmp 9))⟩, ⟨(some 63), none, .p (.iad 1 (.tmp 59) (.tmp 60))⟩, ⟨none, none, .e (.st 1 (.tmp 63) (.const (.bool true)))⟩, ⟨(some 64), none, .p (.iad 1 (.tmp 61) (.tmp 62))⟩, ⟨none, none, .e (.st 1 (.tmp 64) (.const (.bool false)))⟩])
  (.seq (.dreg [⟨(some 65), none, .p (.ld (some 2) (.tmp 4))⟩, ⟨(some 66), none, .p (.mov (.tmp 2))⟩, ⟨(some 67), none, .p (.mov (.tmp 10))⟩, ⟨(some 68), none, .e (.call 15 [(.tmp 65), (.tmp 66), (.tmp 67)])⟩, ⟨(some 69), none, .p (.ld (some 2) (.tmp 4))⟩, ⟨(some 70), none, .p (.mov (.tmp 2))⟩, ⟨(some 71), none, .p (.mov (.tmp 11))⟩, ⟨(some 72), none, .e (.call 15 [(.tmp 69), (.tmp 70), (.tmp 71)])⟩, ⟨(some 12), none, .p (.mov (.tmp 68))⟩] [[⟨(some 13), none, .p (.mov (.tmp 72))⟩]])
  (.seq (.seq (.reg [⟨(some 73), none, .p (.mov (.tmp 12))⟩, ⟨(some 74), none, .p (.len 1 (.tmp 73))⟩, ⟨(some 75), none, .p (.fad 0 (.tmp 4))⟩, ⟨(some 76), none, .p (.ld none (.tmp 75))⟩, ⟨(some 77), none, .p (.len 1 (.tmp 76))⟩, ⟨(some 78), none, .p (.bin .neq (.tmp 74) (.tmp 77))⟩, ⟨(some 79), none, .p (.mov (.tmp 78))⟩, ⟨(some 80), (some (79, false)), .p (.mov (.tmp 13))⟩, ⟨(some 81), (some (79, false)), .p (.len 1 (.tmp 80))⟩, ⟨(some 82), (some (79, false)), .p (.mov (.tmp 12))⟩, ⟨(some 83), (some (79, false)), .p (.len 1 (.tmp 82))⟩, ⟨(some 84), (some (79, false)), .p (.bin .neq (.tmp 81) (.tmp 83))⟩, ⟨(some 85), none, .p (.pick (.tmp 79) (.const (.bool true)) (.tmp 84))⟩])
  (.cond (.tmp 85) (.seq (.reg [⟨(some 8), none, .p (.mov (.const (.bool false)))⟩])
  .ret) .skip))
  (.seq (.seq (.reg [⟨(some 86), none, .p (.mov (.tmp 12))⟩, ⟨(some 87), none, .p (.len 1 (.tmp 86))⟩, ⟨(some 88), none, .p (.mov (.const (.int .i64 0)))⟩])
  (.block 0
  (.loop lb5_0)))
  (.seq (.dreg [⟨(some 115), none, .p (.ld (some 2) (.tmp 4))⟩, ⟨(some 116), none, .p (.mov (.tmp 10))⟩, ⟨(some 117), none, .e (.call 16 [(.tmp 115), (.tmp 116)])⟩, ⟨(some 118), none, .p (.len 1 (.tmp 117))⟩, ⟨(some 119), none, .p (.ld (some 2) (.tmp 4))⟩, ⟨(some 120), none, .p (.mov (.tmp 11))⟩, ⟨(some 121), none, .e (.call 16 [(.tmp 119), (.tmp 120)])⟩, ⟨(some 122), none, .p (.len 1 (.tmp 121))⟩, ⟨(some 15), none, .p (.mov (.tmp 118))⟩] [[⟨(some 16), none, .p (.mov (.tmp 122))⟩]])
  (.seq (.reg [⟨(some 123), none, .p (.mov (.tmp 16))⟩, ⟨(some 124), none, .p (.mov (.tmp 15))⟩, ⟨(some 125), none, .p (.bin .eql (.tmp 123) (.tmp 124))⟩, ⟨(some 126), none, .p (.mov (.tmp 125))⟩, ⟨(some 127), (some (126, false)), .p (.mov (.tmp 16))⟩, ⟨(some 128), (some (126, false)), .p (.mov (.tmp 15))⟩, ⟨(some 129), (some (126, false)), .p (.bin .add (.tmp 128) (.const (.int .i64 1)))⟩, ⟨(some 130), (some (126, false)), .p (.bin .eql (.tmp 127) (.tmp 129))⟩, ⟨(some 131), none, .p (.pick (.tmp 126) (.const (.bool true)) (.tmp 130))⟩, ⟨(some 8), none, .p (.mov (.tmp 131))⟩])
  .ret)))))))))))
set_option maxRecDepth 100000 in
theorem comp5b : cFn Tryd.prog Tryd.f5 = some (erase cf5b, rf5) := by kernel_rfl
theorem yBools_rsl (h : LH) (xs : List Bool) : yBools h (.rsl 1 xs.length (boolsF xs)) = xs := by
  have e : List.map (fun i => xs.getD i false) (List.range xs.length) = xs := by
    apply List.ext_getElem
    · simp
    · intro i h1 h2
      simp only [List.getElem_map, List.getElem_range, List.getD_eq_getElem?_getD, List.getElem?_eq_getElem h2, Option.getD_some]
  exact e
theorem yBoolsC_rsl (h : LH) (xs : List Bool) : yBoolsC h (.rsl 1 xs.length (boolsF xs)) := fun _ _ => trivial
theorem lc_cloneB1 (xs : List Bool) (h0 : xs ≠ []) (hl : xs.length ≤ 1000) (X : List LV) (hX : allC 2 X) :
    LCall Tryd.prog 17 [.rsl 1 xs.length (boolsF xs)] (mkH [(0, .box X)]) (.sl 1 1 1 0 xs.length) (mkH [(0, .box X), (1, .bools xs)]) := by
  have hp : 0 < xs.length := List.length_pos_iff.2 h0
  refine lcall_of_lwp Tryd.func17 comp17 (show 1 ≤ Tryd.f17.ntmps by decide) (by simp [mkH]) ?_
  unfold cf17 rf17
  simp only [↓EVP0, EVQ0, EVQ1, EVQ2, EVQ3, EVQ4, EVA, EVK, EVF, ↓reduceIte, Nat.reduceEqDiff, Nat.reduceAdd, Nat.reduceSub, Nat.reduceMul, Nat.reduceLT, Nat.reduceLeDiff, reduceCtorEq, Int.reduceToNat, Int.reduceLT, Int.reduceLE, Int.reduceAdd, Int.reduceSub, Int.reduceMul, Int.reduceNeg, Int.reduceEq, Nat.reduceMod, forall_eq_or_imp, forall_eq, forall_const, cond_true, cond_false, decide_true, decide_false, true_imp_iff, implies_true, Int.cast_ofNat_Int, forall_eq']
  rw [yBools_rsl]
  refine ⟨hp, yBoolsC_rsl _ _, by unfold appRoom; omega, ?_⟩
  unfold fin2
  simp only [↓EVP0, EVQ0, EVQ1, EVQ2, EVQ3, EVQ4, EVA, EVK, EVF, ↓reduceIte, Nat.reduceEqDiff, Nat.reduceAdd, Nat.reduceSub, Nat.reduceMul, Nat.reduceLT, Nat.reduceLeDiff, reduceCtorEq, Int.reduceToNat, Int.reduceLT, Int.reduceLE, Int.reduceAdd, Int.reduceSub, Int.reduceMul, Int.reduceNeg, Int.reduceEq, Nat.reduceMod, forall_eq_or_imp, forall_eq, forall_const, cond_true, cond_false, decide_true, decide_false, true_imp_iff, implies_true, Int.cast_ofNat_Int, forall_eq']
  exact hX
theorem lc_cloneB2 (xs ys : List Bool) (h0 : xs ≠ []) (hl : xs.length ≤ 1000) (X : List LV) (hX : allC 3 X) :
    LCall Tryd.prog 17 [.rsl 1 xs.length (boolsF xs)] (mkH [(0, .box X), (1, .bools ys)]) (.sl 2 1 1 0 xs.length) (mkH [(0, .box X), (1, .bools ys), (1, .bools xs)]) := by
  have hp : 0 < xs.length := List.length_pos_iff.2 h0
  refine lcall_of_lwp Tryd.func17 comp17 (show 1 ≤ Tryd.f17.ntmps by decide) (by simp [mkH]) ?_
  unfold cf17 rf17
  simp only [↓EVP0, EVQ0, EVQ1, EVQ2, EVQ3, EVQ4, EVA, EVK, EVF, ↓reduceIte, Nat.reduceEqDiff, Nat.reduceAdd, Nat.reduceSub, Nat.reduceMul, Nat.reduceLT, Nat.reduceLeDiff, reduceCtorEq, Int.reduceToNat, Int.reduceLT, Int.reduceLE, Int.reduceAdd, Int.reduceSub, Int.reduceMul, Int.reduceNeg, Int.reduceEq, Nat.reduceMod, forall_eq_or_imp, forall_eq, forall_const, cond_true, cond_false, decide_true, decide_false, true_imp_iff, implies_true, Int.cast_ofNat_Int, forall_eq']
  rw [yBools_rsl]
  refine ⟨hp, yBoolsC_rsl _ _, by unfold appRoom; omega, ?_⟩
  unfold fin2
  simp only [↓EVP0, EVQ0, EVQ1, EVQ2, EVQ3, EVQ4, EVA, EVK, EVF, ↓reduceIte, Nat.reduceEqDiff, Nat.reduceAdd, Nat.reduceSub, Nat.reduceMul, Nat.reduceLT, Nat.reduceLeDiff, reduceCtorEq, Int.reduceToNat, Int.reduceLT, Int.reduceLE, Int.reduceAdd, Int.reduceSub, Int.reduceMul, Int.reduceNeg, Int.reduceEq, Nat.reduceMod, forall_eq_or_imp, forall_eq, forall_const, cond_true, cond_false, decide_true, decide_false, true_imp_iff, implies_true, Int.cast_ofNat_Int, forall_eq']
  exact hX
theorem lwp_frz2 {P : Program} {s : LS} {h : LH} {nb : Nat} {a b : LC} {K : LS → LH → Prop} {E : Nat → LS → LH → Prop} {T : LS → LH → Prop} (D : List Nat) (t : Nat) (v : LV) (t2 : Nat) (v2 : LV)
    (h1 : lwp P nb a (fun s h => ((roTo2 h (s t) v ∧ hd2 D h (s t)) ∧ (roTo2 h (s t2) v2 ∧ hd2 D h (s t2))) ∧ lwp P nb b K E T (upd (upd s t2 v2) t v) (killH h D)) E T s h) : @lwpJ P nb a b ⟨K, E, T⟩ s h :=
  lwp_frz D [(t, v), (t2, v2)] (lwp_mono_k (c := a) h1 fun _ _ ⟨⟨⟨h2, h3⟩, h5, h6⟩, h4⟩ => ⟨⟨h2, h3, h5, h6, trivial⟩, h4⟩)
theorem ev_lawDown (p : Pl) (hp : PlOk p) (up : List Bool) (r : Int) (c : Int) (hc0 : 0 ≤ c ∧ c ≤ 255) : Ev Tryd.prog 5 [plV p, boolsV up, .sc (.int .i64 r), .sc (.int .u8 c)] (.sc (.bool true)) := by
  have h1 := ev_awake14
  have h2 := ev_great14 p
  have h3 := ev_valid p hp
  have h4 := fun up => ev_dists p hp r up
  have h5 := fun up => ev_parts p hp up
  unfold plV boolsV intsV rowsV at *
  refine ev_fn Tryd.func5 comp5b (show 4 ≤ Tryd.f5.ntmps by decide) ?_
  unfold cf5b rf5
  simp only [↓EVP0, EVQ0, EVQ1, EVQ2, EVQ3, EVQ4, EVA, EVK, EVF, ↓reduceIte, Nat.reduceEqDiff, Nat.reduceAdd, Nat.reduceSub, Nat.reduceMul, Nat.reduceLT, Nat.reduceLeDiff, reduceCtorEq, Int.reduceToNat, Int.reduceLT, Int.reduceLE, Int.reduceAdd, Int.reduceSub, Int.reduceMul, Int.reduceNeg, Int.reduceEq, Nat.reduceMod, forall_eq_or_imp, forall_eq, forall_const, cond_true, cond_false, decide_true, decide_false, true_imp_iff, implies_true, Int.cast_ofNat_Int, forall_eq']
  refine callK_ro (h1) ?_ ?_
  · simp only [↓EVP0, EVQ0, EVQ1, EVQ2, EVQ3, EVQ4, EVA, EVK, EVF, ↓reduceIte, Nat.reduceEqDiff, Nat.reduceAdd, Nat.reduceSub, Nat.reduceMul, Nat.reduceLT, Nat.reduceLeDiff, reduceCtorEq, Int.reduceToNat, Int.reduceLT, Int.reduceLE, Int.reduceAdd, Int.reduceSub, Int.reduceMul, Int.reduceNeg, Int.reduceEq, Nat.reduceMod, forall_eq_or_imp, forall_eq, forall_const, cond_true, cond_false, decide_true, decide_false, true_imp_iff, implies_true, Int.cast_ofNat_Int, forall_eq']
  simp only [↓EVP0, EVQ0, EVQ1, EVQ2, EVQ3, EVQ4, EVA, EVK, EVF, ↓reduceIte, Nat.reduceEqDiff, Nat.reduceAdd, Nat.reduceSub, Nat.reduceMul, Nat.reduceLT, Nat.reduceLeDiff, reduceCtorEq, Int.reduceToNat, Int.reduceLT, Int.reduceLE, Int.reduceAdd, Int.reduceSub, Int.reduceMul, Int.reduceNeg, Int.reduceEq, Nat.reduceMod, forall_eq_or_imp, forall_eq, forall_const, cond_true, cond_false, decide_true, decide_false, true_imp_iff, implies_true, Int.cast_ofNat_Int, forall_eq']
  refine callK_ro (h2) ?_ ?_
  · simp only [↓EVP0, EVQ0, EVQ1, EVQ2, EVQ3, EVQ4, EVA, EVK, EVF, ↓reduceIte, Nat.reduceEqDiff, Nat.reduceAdd, Nat.reduceSub, Nat.reduceMul, Nat.reduceLT, Nat.reduceLeDiff, reduceCtorEq, Int.reduceToNat, Int.reduceLT, Int.reduceLE, Int.reduceAdd, Int.reduceSub, Int.reduceMul, Int.reduceNeg, Int.reduceEq, Nat.reduceMod, forall_eq_or_imp, forall_eq, forall_const, cond_true, cond_false, decide_true, decide_false, true_imp_iff, implies_true, Int.cast_ofNat_Int, forall_eq']
  simp only [↓EVP0, EVQ0, EVQ1, EVQ2, EVQ3, EVQ4, EVA, EVK, EVF, ↓reduceIte, Nat.reduceEqDiff, Nat.reduceAdd, Nat.reduceSub, Nat.reduceMul, Nat.reduceLT, Nat.reduceLeDiff, reduceCtorEq, Int.reduceToNat, Int.reduceLT, Int.reduceLE, Int.reduceAdd, Int.reduceSub, Int.reduceMul, Int.reduceNeg, Int.reduceEq, Nat.reduceMod, forall_eq_or_imp, forall_eq, forall_const, cond_true, cond_false, decide_true, decide_false, true_imp_iff, implies_true, Int.cast_ofNat_Int, forall_eq']
  (refine lops_ge_imp ?_; simp only [↓EVP0, EVQ0, EVQ1, EVQ2, EVQ3, EVQ4, EVA, EVK, EVF, ↓reduceIte, Nat.reduceEqDiff, Nat.reduceAdd, Nat.reduceSub, Nat.reduceMul, Nat.reduceLT, Nat.reduceLeDiff, reduceCtorEq, Int.reduceToNat, Int.reduceLT, Int.reduceLE, Int.reduceAdd, Int.reduceSub, Int.reduceMul, Int.reduceNeg, Int.reduceEq, Nat.reduceMod, forall_eq_or_imp, forall_eq, forall_const, cond_true, cond_false, decide_true, decide_false, true_imp_iff, implies_true, Int.cast_ofNat_Int, forall_eq'])
  refine gCallK_ro _ (fun _ => h3) (fun _ => ?_) ?_
  · simp only [↓EVP0, EVQ0, EVQ1, EVQ2, EVQ3, EVQ4, EVA, EVK, EVF, ↓reduceIte, Nat.reduceEqDiff, Nat.reduceAdd, Nat.reduceSub, Nat.reduceMul, Nat.reduceLT, Nat.reduceLeDiff, reduceCtorEq, Int.reduceToNat, Int.reduceLT, Int.reduceLE, Int.reduceAdd, Int.reduceSub, Int.reduceMul, Int.reduceNeg, Int.reduceEq, Nat.reduceMod, forall_eq_or_imp, forall_eq, forall_const, cond_true, cond_false, decide_true, decide_false, true_imp_iff, implies_true, Int.cast_ofNat_Int, forall_eq']
  simp only [↓EVP0, EVQ0, EVQ1, EVQ2, EVQ3, EVQ4, EVA, EVK, EVF, ↓reduceIte, Nat.reduceEqDiff, Nat.reduceAdd, Nat.reduceSub, Nat.reduceMul, Nat.reduceLT, Nat.reduceLeDiff, reduceCtorEq, Int.reduceToNat, Int.reduceLT, Int.reduceLE, Int.reduceAdd, Int.reduceSub, Int.reduceMul, Int.reduceNeg, Int.reduceEq, Nat.reduceMod, forall_eq_or_imp, forall_eq, forall_const, cond_true, cond_false, decide_true, decide_false, true_imp_iff, implies_true, Int.cast_ofNat_Int, forall_eq']
  by_cases hc : (great14 p = false ∧ validE p = 0) ∧ ((up.length = p.cs.length ∧ up.length ≠ 0) ∧ inN p.ns.length r)
  · obtain ⟨⟨c1, c2⟩, ⟨c3, c5⟩, c4⟩ := hc
    have hr := c4
    unfold inN at c4
    rw [c1, decide_eq_true c2, decide_eq_true (show (up.length : Int) = p.cs.length by omega), decide_eq_false (show ¬ (up.length : Int) = 0 by omega), decide_eq_false (show ¬ r < 0 by omega), decide_eq_false (show ¬ (p.ns.length : Int) ≤ r by omega)]
    simp only [Bool.not_true, cond_false]
    have hV := valid_of c2
    have h16 := hV.n16
    have h32 := hV.c32
    have hne : up ≠ [] := fun e => c5 (by rw [e]; rfl)
    refine ⟨fun h => by simp at h, fun _ => ⟨by unfold In64; omega, fun _ => ⟨by omega, ?_⟩⟩⟩
    refine callK_mut (lc_cloneB1 up hne (by omega) _ ⟨trivial, trivial, trivial⟩) ?_
    simp only [↓EVP0, EVQ0, EVQ1, EVQ2, EVQ3, EVQ4, EVA, EVK, EVF, ↓reduceIte, Nat.reduceEqDiff, Nat.reduceAdd, Nat.reduceSub, Nat.reduceMul, Nat.reduceLT, Nat.reduceLeDiff, reduceCtorEq, Int.reduceToNat, Int.reduceLT, Int.reduceLE, Int.reduceAdd, Int.reduceSub, Int.reduceMul, Int.reduceNeg, Int.reduceEq, Nat.reduceMod, forall_eq_or_imp, forall_eq, forall_const, cond_true, cond_false, decide_true, decide_false, true_imp_iff, implies_true, Int.cast_ofNat_Int, forall_eq']
    refine callK_mut (lc_cloneB2 up up hne (by omega) _ ⟨trivial, trivial, trivial⟩) ?_
    simp only [↓EVP0, EVQ0, EVQ1, EVQ2, EVQ3, EVQ4, EVA, EVK, EVF, ↓reduceIte, Nat.reduceEqDiff, Nat.reduceAdd, Nat.reduceSub, Nat.reduceMul, Nat.reduceLT, Nat.reduceLeDiff, reduceCtorEq, Int.reduceToNat, Int.reduceLT, Int.reduceLE, Int.reduceAdd, Int.reduceSub, Int.reduceMul, Int.reduceNeg, Int.reduceEq, Nat.reduceMod, forall_eq_or_imp, forall_eq, forall_const, cond_true, cond_false, decide_true, decide_false, true_imp_iff, implies_true, Int.cast_ofNat_Int, forall_eq']
    refine lwp_frz2 [1, 2] 10 (.rsl 1 up.length (boolsF (up.set (c.tmod (up.length : Int)).toNat true))) 11 (.rsl 1 up.length (boolsF (up.set (c.tmod (up.length : Int)).toNat false))) ?_
    simp only [↓EVP0, EVQ0, EVQ1, EVQ2, EVQ3, EVQ4, EVA, EVK, EVF, ↓reduceIte, Nat.reduceEqDiff, Nat.reduceAdd, Nat.reduceSub, Nat.reduceMul, Nat.reduceLT, Nat.reduceLeDiff, reduceCtorEq, Int.reduceToNat, Int.reduceLT, Int.reduceLE, Int.reduceAdd, Int.reduceSub, Int.reduceMul, Int.reduceNeg, Int.reduceEq, Nat.reduceMod, forall_eq_or_imp, forall_eq, forall_const, cond_true, cond_false, decide_true, decide_false, true_imp_iff, implies_true, Int.cast_ofNat_Int, forall_eq']
    have hkb : 0 ≤ c.tmod (up.length : Int) ∧ c.tmod (up.length : Int) < (up.length : Int) := ⟨Int.tmod_nonneg _ hc0.1, Int.tmod_lt_of_pos _ (by omega)⟩
    generalize c.tmod (up.length : Int) = K at hkb ⊢
    have hkn : K.toNat < up.length := by omega
    have hm1 : (up.set K.toNat true).length = up.length := List.length_set
    have hm2 : (up.set K.toNat false).length = up.length := List.length_set
    have dE : ∀ u : List Bool, u.length = up.length → distsE p r u = distL p.ns.length (upU p.cs u) r := by
      intro u hu
      unfold distsE usableB
      rw [decide_eq_true c2, decide_eq_true (show u.length = p.cs.length by omega), decide_eq_true c4.1, decide_eq_true c4.2]; rfl
    have h4a := h4 (up.set K.toNat true)
    have h4b := h4 (up.set K.toNat false)
    have h5a := h5 (up.set K.toNat true)
    have h5b := h5 (up.set K.toNat false)
    rw [dE _ hm1, distL_length, hm1] at h4a
    rw [dE _ hm2, distL_length, hm2] at h4b
    rw [hm1] at h5a
    rw [hm2] at h5b
    refine ⟨hkb, hkn, hkb, hkn, ⟨by rw [hm1]; omega, by rw [hm2]; omega, .inr trivial⟩, ?_⟩
    first | refine qCallK_ro (h4a) ?_ ?_ | refine eCallK_ro (h4a) ?_ ?_
    · simp only [↓EVP0, EVQ0, EVQ1, EVQ2, EVQ3, EVQ4, EVA, EVK, EVF, ↓reduceIte, Nat.reduceEqDiff, Nat.reduceAdd, Nat.reduceSub, Nat.reduceMul, Nat.reduceLT, Nat.reduceLeDiff, reduceCtorEq, Int.reduceToNat, Int.reduceLT, Int.reduceLE, Int.reduceAdd, Int.reduceSub, Int.reduceMul, Int.reduceNeg, Int.reduceEq, Nat.reduceMod, forall_eq_or_imp, forall_eq, forall_const, cond_true, cond_false, decide_true, decide_false, true_imp_iff, implies_true, Int.cast_ofNat_Int, forall_eq']
    simp only [↓EVP0, EVQ0, EVQ1, EVQ2, EVQ3, EVQ4, EVA, EVK, EVF, ↓reduceIte, Nat.reduceEqDiff, Nat.reduceAdd, Nat.reduceSub, Nat.reduceMul, Nat.reduceLT, Nat.reduceLeDiff, reduceCtorEq, Int.reduceToNat, Int.reduceLT, Int.reduceLE, Int.reduceAdd, Int.reduceSub, Int.reduceMul, Int.reduceNeg, Int.reduceEq, Nat.reduceMod, forall_eq_or_imp, forall_eq, forall_const, cond_true, cond_false, decide_true, decide_false, true_imp_iff, implies_true, Int.cast_ofNat_Int, forall_eq']
    first | refine qCallK_ro (h4b) ?_ ?_ | refine eCallK_ro (h4b) ?_ ?_
    · simp only [↓EVP0, EVQ0, EVQ1, EVQ2, EVQ3, EVQ4, EVA, EVK, EVF, ↓reduceIte, Nat.reduceEqDiff, Nat.reduceAdd, Nat.reduceSub, Nat.reduceMul, Nat.reduceLT, Nat.reduceLeDiff, reduceCtorEq, Int.reduceToNat, Int.reduceLT, Int.reduceLE, Int.reduceAdd, Int.reduceSub, Int.reduceMul, Int.reduceNeg, Int.reduceEq, Nat.reduceMod, forall_eq_or_imp, forall_eq, forall_const, cond_true, cond_false, decide_true, decide_false, true_imp_iff, implies_true, Int.cast_ofNat_Int, forall_eq']
    simp only [↓EVP0, EVQ0, EVQ1, EVQ2, EVQ3, EVQ4, EVA, EVK, EVF, ↓reduceIte, Nat.reduceEqDiff, Nat.reduceAdd, Nat.reduceSub, Nat.reduceMul, Nat.reduceLT, Nat.reduceLeDiff, reduceCtorEq, Int.reduceToNat, Int.reduceLT, Int.reduceLE, Int.reduceAdd, Int.reduceSub, Int.reduceMul, Int.reduceNeg, Int.reduceEq, Nat.reduceMod, forall_eq_or_imp, forall_eq, forall_const, cond_true, cond_false, decide_true, decide_false, true_imp_iff, implies_true, Int.cast_ofNat_Int, forall_eq']
    have hmon := mon_dist (p := p) (K := K.toNat) hV hr c3
    have hcnt := cnt_parts (p := p) (K := K.toNat) c2 c3
    intro _ _ _
    generalize hA : distL p.ns.length (upU p.cs (up.set K.toNat true)) r = A at *
    generalize hB : distL p.ns.length (upU p.cs (up.set K.toNat false)) r = B at *
    refine lwp_for (α := Unit) p.ns.length (fun _ _ => True) (fun k _ => [(4, .ptr 0 0 0 0 0), (10, .rsl 1 up.length (boolsF (up.set K.toNat true))), (11, .rsl 1 up.length (boolsF (up.set K.toNat false))), (12, .rsl 1 p.ns.length (intsF A)), (13, .rsl 1 p.ns.length (intsF B)), (87, .sc (.int .i64 p.ns.length)), (88, .sc (.int .i64 k))])
      (fun _ _ => [(0, .box [.rsl 3 p.ns.length (ndsF p.ns), .rsl 6 p.cs.length (cbsF p.cs)])]) () trivial ?_ (fun _ _ => Nat.zero_le _) ?_
    · simp only [↓EVP0, EVQ0, EVQ1, EVQ2, EVQ3, EVQ4, EVA, EVK, EVF, ↓reduceIte, Nat.reduceEqDiff, Nat.reduceAdd, Nat.reduceSub, Nat.reduceMul, Nat.reduceLT, Nat.reduceLeDiff, reduceCtorEq, Int.reduceToNat, Int.reduceLT, Int.reduceLE, Int.reduceAdd, Int.reduceSub, Int.reduceMul, Int.reduceNeg, Int.reduceEq, Nat.reduceMod, forall_eq_or_imp, forall_eq, forall_const, cond_true, cond_false, decide_true, decide_false, true_imp_iff, implies_true, Int.cast_ofNat_Int, forall_eq']
    intro k _ hk _
    unfold lb5_0
    simp only [↓EVP0, EVQ0, EVQ1, EVQ2, EVQ3, EVQ4, EVA, EVK, EVF, ↓reduceIte, Nat.reduceEqDiff, Nat.reduceAdd, Nat.reduceSub, Nat.reduceMul, Nat.reduceLT, Nat.reduceLeDiff, reduceCtorEq, Int.reduceToNat, Int.reduceLT, Int.reduceLE, Int.reduceAdd, Int.reduceSub, Int.reduceMul, Int.reduceNeg, Int.reduceEq, Nat.reduceMod, forall_eq_or_imp, forall_eq, forall_const, cond_true, cond_false, decide_true, decide_false, true_imp_iff, implies_true, Int.cast_ofNat_Int, forall_eq']
    refine ⟨fun hg => ?_, fun _ => ?_⟩
    · have hk2 : k < p.ns.length := by have := of_decide_eq_true hg; omega
      have hmk := hmon k hk2
      refine ⟨⟨by omega, by omega⟩, fun _ => ⟨by omega, by omega⟩, fun _ => ⟨by omega, by omega⟩, fun _ => ⟨by omega, by omega⟩, fun h => ?_, fun _ => ⟨by unfold In64; omega, hk2, (), trivial⟩⟩
      by_cases e1 : 0 ≤ B.getD k 0
      · have := hmk e1
        rw [decide_eq_true e1, decide_eq_false (show ¬ A.getD k 0 < 0 by omega), decide_eq_false (show ¬ B.getD k 0 < A.getD k 0 by omega)] at h
        simp at h
      · rw [decide_eq_false e1] at h; simp at h
    first | refine qCallK_ro (h5a) ?_ ?_ | refine eCallK_ro (h5a) ?_ ?_
    · simp only [↓EVP0, EVQ0, EVQ1, EVQ2, EVQ3, EVQ4, EVA, EVK, EVF, ↓reduceIte, Nat.reduceEqDiff, Nat.reduceAdd, Nat.reduceSub, Nat.reduceMul, Nat.reduceLT, Nat.reduceLeDiff, reduceCtorEq, Int.reduceToNat, Int.reduceLT, Int.reduceLE, Int.reduceAdd, Int.reduceSub, Int.reduceMul, Int.reduceNeg, Int.reduceEq, Nat.reduceMod, forall_eq_or_imp, forall_eq, forall_const, cond_true, cond_false, decide_true, decide_false, true_imp_iff, implies_true, Int.cast_ofNat_Int, forall_eq']
    simp only [↓EVP0, EVQ0, EVQ1, EVQ2, EVQ3, EVQ4, EVA, EVK, EVF, ↓reduceIte, Nat.reduceEqDiff, Nat.reduceAdd, Nat.reduceSub, Nat.reduceMul, Nat.reduceLT, Nat.reduceLeDiff, reduceCtorEq, Int.reduceToNat, Int.reduceLT, Int.reduceLE, Int.reduceAdd, Int.reduceSub, Int.reduceMul, Int.reduceNeg, Int.reduceEq, Nat.reduceMod, forall_eq_or_imp, forall_eq, forall_const, cond_true, cond_false, decide_true, decide_false, true_imp_iff, implies_true, Int.cast_ofNat_Int, forall_eq']
    first | refine qCallK_ro (h5b) ?_ ?_ | refine eCallK_ro (h5b) ?_ ?_
    · simp only [↓EVP0, EVQ0, EVQ1, EVQ2, EVQ3, EVQ4, EVA, EVK, EVF, ↓reduceIte, Nat.reduceEqDiff, Nat.reduceAdd, Nat.reduceSub, Nat.reduceMul, Nat.reduceLT, Nat.reduceLeDiff, reduceCtorEq, Int.reduceToNat, Int.reduceLT, Int.reduceLE, Int.reduceAdd, Int.reduceSub, Int.reduceMul, Int.reduceNeg, Int.reduceEq, Nat.reduceMod, forall_eq_or_imp, forall_eq, forall_const, cond_true, cond_false, decide_true, decide_false, true_imp_iff, implies_true, Int.cast_ofNat_Int, forall_eq']
    simp only [↓EVP0, EVQ0, EVQ1, EVQ2, EVQ3, EVQ4, EVA, EVK, EVF, ↓reduceIte, Nat.reduceEqDiff, Nat.reduceAdd, Nat.reduceSub, Nat.reduceMul, Nat.reduceLT, Nat.reduceLeDiff, reduceCtorEq, Int.reduceToNat, Int.reduceLT, Int.reduceLE, Int.reduceAdd, Int.reduceSub, Int.reduceMul, Int.reduceNeg, Int.reduceEq, Nat.reduceMod, forall_eq_or_imp, forall_eq, forall_const, cond_true, cond_false, decide_true, decide_false, true_imp_iff, implies_true, Int.cast_ofNat_Int, forall_eq']
    have hpl := partsE_le p (up.set K.toNat true)
    refine ⟨fun _ => by unfold In64; omega, ?_⟩
    rcases hcnt with h | h
    · rw [h, decide_eq_true rfl]; rfl
    · rw [h, decide_eq_true (show (((partsE p (up.set K.toNat true)).length + 1 : Nat) : Int) = ((partsE p (up.set K.toNat true)).length : Int) + 1 by omega)]
      cases decide ((((partsE p (up.set K.toNat true)).length + 1 : Nat) : Int) = ((partsE p (up.set K.toNat true)).length : Int)) <;> rfl
  · refine ⟨fun _ => trivial, fun h => absurd ?_ hc⟩
    unfold inN
    cases hg : great14 p
    · by_cases e1 : validE p = 0
      · by_cases e2 : (up.length : Int) = p.cs.length
        · by_cases e5 : (up.length : Int) = 0
          · rw [hg, decide_eq_true e1, decide_eq_true e2, decide_eq_true e5] at h; simp at h
          · by_cases e3 : r < 0
            · rw [hg, decide_eq_true e1, decide_eq_true e2, decide_eq_false e5, decide_eq_true e3] at h; simp at h
            · by_cases e4 : (p.ns.length : Int) ≤ r
              · rw [hg, decide_eq_true e1, decide_eq_true e2, decide_eq_false e5, decide_eq_false e3, decide_eq_true e4] at h; simp at h
              · exact ⟨⟨rfl, e1⟩, ⟨by omega, by omega⟩, by omega, by omega⟩
        · rw [hg, decide_eq_true e1, decide_eq_false e2] at h; simp at h
      · rw [hg, decide_eq_false e1] at h; simp at h
    · rw [hg] at h; simp at h
end Go.Proofs.YtchpncmmlhfemaaDoor
namespace Go.Proofs.YtchpncmmlhfemaaDoor
set_option linter.unusedSimpArgs false
set_option linter.unusedVariables false
open Go.RowKit
set_option maxRecDepth 20000

def cf4t : LC :=
  (.seq (.seq (.reg [⟨(some 68), none, .p (.mov (.tmp 5))⟩, ⟨(some 69), none, .p (.mov (.const (.int .i64 0)))⟩])
  (.block 2
  (.loop lb4_7)))
  (.seq (.reg [⟨(some 213), none, .p (.mov (.tmp 5))⟩, ⟨(some 214), none, .e (.mks 1 1 [(.int .i64 0)] 8 (.tmp 213) (.tmp 213))⟩, ⟨(some 16), none, .p (.mov (.tmp 214))⟩])
  (.seq (.reg [⟨(some 17), none, .p (.mov (.const (.int .i64 0)))⟩])
  (.seq (.seq (.reg [⟨(some 215), none, .p (.ld (some 2) (.tmp 2))⟩, ⟨(some 216), none, .p (.mov (.tmp 1))⟩, ⟨(some 217), none, .e (.call 16 [(.tmp 215), (.tmp 216)])⟩, ⟨(some 218), none, .p (.len 1 (.tmp 217))⟩, ⟨(some 219), none, .p (.mov (.const (.int .i64 0)))⟩])
  (.block 10
  (.loop lb4_3)))
  (.seq (.seq (.reg [⟨(some 245), none, .p (.mov (.tmp 5))⟩, ⟨(some 246), none, .p (.mov (.const (.int .i64 0)))⟩])
  (.block 14
  (.loop lb4_1)))
  (.seq (.reg [⟨(some 273), none, .p (.mov (.tmp 17))⟩, ⟨(some 274), none, .p (.mov (.tmp 5))⟩, ⟨(some 275), none, .p (.bin .eql (.tmp 273) (.tmp 274))⟩, ⟨(some 4), none, .p (.mov (.tmp 275))⟩])
  .ret))))))
def cf4b : LC :=
  (.seq (.reg [⟨(some 2), none, .e (.box (.tmp 0))⟩, ⟨(some 4), none, .p (.mov (.const (.bool false)))⟩])
  (.seq (.seq (.reg [⟨(some 24), none, .e (.call 11 [])⟩, ⟨(some 25), none, .p (.un .not (.tmp 24))⟩])
  (.cond (.tmp 25) (.seq (.reg [⟨(some 4), none, .p (.mov (.const (.bool false)))⟩])
  .ret) .skip))
  (.seq (.seq (.reg [⟨(some 26), none, .p (.ld (some 2) (.tmp 2))⟩, ⟨(some 27), none, .e (.call 12 [(.tmp 26)])⟩, ⟨(some 28), none, .p (.mov (.tmp 27))⟩, ⟨(some 29), (some (28, false)), .p (.ld (some 2) (.tmp 2))⟩, ⟨(some 30), (some (28, false)), .e (.call 13 [(.tmp 29)])⟩, ⟨(some 31), (some (28, false)), .p (.bin .neq (.tmp 30) (.const (.int .i64 0)))⟩, ⟨(some 32), none, .p (.pick (.tmp 28) (.const (.bool true)) (.tmp 31))⟩, ⟨(some 33), none, .p (.mov (.tmp 32))⟩, ⟨(some 34), (some (33, false)), .p (.mov (.tmp 1))⟩, ⟨(some 35), (some (33, false)), .p (.len 1 (.tmp 34))⟩, ⟨(some 36), (some (33, false)), .p (.fad 1 (.tmp 2))⟩, ⟨(some 37), (some (33, false)), .p (.ld none (.tmp 36))⟩, ⟨(some 38), (some (33, false)), .p (.len 1 (.tmp 37))⟩, ⟨(some 39), (some (33, false)), .p (.bin .neq (.tmp 35) (.tmp 38))⟩, ⟨(some 40), none, .p (.pick (.tmp 33) (.const (.bool true)) (.tmp 39))⟩])
  (.cond (.tmp 40) (.seq (.reg [⟨(some 4), none, .p (.mov (.const (.bool true)))⟩])
  .ret) .skip))
  (.seq (.reg [⟨(some 41), none, .p (.fad 0 (.tmp 2))⟩, ⟨(some 42), none, .p (.ld none (.tmp 41))⟩, ⟨(some 43), none, .p (.len 1 (.tmp 42))⟩, ⟨(some 5), none, .p (.mov (.tmp 43))⟩])
  (.seq (.reg [⟨(some 6), none, .p (.mov (.const (.slice none 0 0)))⟩])
  (.seqj (.seq (.reg [⟨(some 44), none, .p (.mov (.tmp 5))⟩, ⟨(some 45), none, .p (.mov (.const (.int .i64 0)))⟩])
  (.block 0
  (.loop lb4_8)))
  cf4t))))))
set_option maxRecDepth 100000 in
theorem comp4b : cFn Tryd.prog Tryd.f4 = some (erase cf4b, rf4) := by kernel_rfl
def allD (n : Nat) (U : List Cb) (k : Nat) : List (List Int) := (List.range k).map fun (i : Nat) => distL n U (i : Int)
theorem allD_len (n : Nat) (U : List Cb) (k : Nat) : (allD n U k).length = k := by simp [allD]
theorem allD_succ (n : Nat) (U : List Cb) (k : Nat) : allD n U (k + 1) = allD n U k ++ [distL n U (k : Int)] := by simp [allD, List.range_succ]
theorem allD_get {n : Nat} {U : List Cb} {k i : Nat} (h : i < k) : (allD n U k).getD i [] = distL n U (i : Int) := by
  rw [List.getD_eq_getElem?_getD, allD, List.getElem?_map, List.getElem?_range h]; rfl
theorem rowsF_one {n : Nat} {U : List Cb} {k j : Nat} (h : j < k) : rowsF (allD n U k) j = [.rsl 1 n (intsF (distL n U (j : Int)))] := by
  unfold rowsF
  rw [allD_get h]
  unfold intsV
  rw [distL_length]
theorem metric_tail (p : Pl) (hp : PlOk p) (up : List Bool) (c2 : validE p = 0) (c3 : up.length = p.cs.length) {K : LS → LH → Prop} {E : Nat → LS → LH → Prop} {T : LS → LH → Prop} (hT : ∀ s h, s 4 = .sc (.bool true) → T s h) (s : LS) (h : LH)
    (hs1 : s 1 = .rsl 1 up.length (boolsF up)) (hs2 : s 2 = .ptr 0 0 0 0 0) (hs5 : s 5 = .sc (.int .i64 p.ns.length)) (hs6 : s 6 = .rsl 1 p.ns.length (fun (i : Nat) => [LV.rsl 1 p.ns.length (intsF (distL p.ns.length (upU p.cs up) (i : Int)))]))
    (hn : 1 ≤ h.n) (hf : h.f 0 = (0, .box [.rsl 3 p.ns.length (ndsF p.ns), .rsl 6 p.cs.length (cbsF p.cs)])) : lwp Tryd.prog 0 cf4t K E T s h := by
  unfold cf4t
  simp only [↓EVP0, EVQ0, EVQ1, EVQ2, EVQ3, EVQ4, EVA, EVK, EVF, ↓reduceIte, Nat.reduceEqDiff, Nat.reduceAdd, Nat.reduceSub, Nat.reduceMul, Nat.reduceLT, Nat.reduceLeDiff, reduceCtorEq, Int.reduceToNat, Int.reduceLT, Int.reduceLE, Int.reduceAdd, Int.reduceSub, Int.reduceMul, Int.reduceNeg, Int.reduceEq, Nat.reduceMod, forall_eq_or_imp, forall_eq, forall_const, cond_true, cond_false, decide_true, decide_false, true_imp_iff, implies_true, Int.cast_ofNat_Int, forall_eq']
  simp only [hs1, hs2, hs5, hs6]
  simp only [↓EVP0, EVQ0, EVQ1, EVQ2, EVQ3, EVQ4, EVA, EVK, EVF, ↓reduceIte, Nat.reduceEqDiff, Nat.reduceAdd, Nat.reduceSub, Nat.reduceMul, Nat.reduceLT, Nat.reduceLeDiff, reduceCtorEq, Int.reduceToNat, Int.reduceLT, Int.reduceLE, Int.reduceAdd, Int.reduceSub, Int.reduceMul, Int.reduceNeg, Int.reduceEq, Nat.reduceMod, forall_eq_or_imp, forall_eq, forall_const, cond_true, cond_false, decide_true, decide_false, true_imp_iff, implies_true, Int.cast_ofNat_Int, forall_eq']
  have hV := valid_of c2
  have h16 := hV.n16
  have h32 := hV.c32
  have hU := upU_in (up := up) hV.cab
  refine lwp_for (α := Unit) p.ns.length (fun _ _ => True) (fun a _ => [(1, .rsl 1 up.length (boolsF up)), (2, .ptr 0 0 0 0 0), (5, .sc (.int .i64 p.ns.length)), (6, .rsl 1 p.ns.length (fun (i : Nat) => [LV.rsl 1 p.ns.length (intsF (distL p.ns.length (upU p.cs up) (i : Int)))])), (68, .sc (.int .i64 p.ns.length)), (69, .sc (.int .i64 a))])
    (fun _ _ => [(0, .box [.rsl 3 p.ns.length (ndsF p.ns), .rsl 6 p.cs.length (cbsF p.cs)])]) () trivial ?_ (fun _ _ => Nat.zero_le _) ?_
  · simp only [↓EVP0, EVQ0, EVQ1, EVQ2, EVQ3, EVQ4, EVA, EVK, EVF, ↓reduceIte, Nat.reduceEqDiff, Nat.reduceAdd, Nat.reduceSub, Nat.reduceMul, Nat.reduceLT, Nat.reduceLeDiff, reduceCtorEq, Int.reduceToNat, Int.reduceLT, Int.reduceLE, Int.reduceAdd, Int.reduceSub, Int.reduceMul, Int.reduceNeg, Int.reduceEq, Nat.reduceMod, forall_eq_or_imp, forall_eq, forall_const, cond_true, cond_false, decide_true, decide_false, true_imp_iff, implies_true, Int.cast_ofNat_Int, forall_eq']
    simp only [hs1, hs2, hs5, hs6, hf]
    simp only [↓EVP0, EVQ0, EVQ1, EVQ2, EVQ3, EVQ4, EVA, EVK, EVF, ↓reduceIte, Nat.reduceEqDiff, Nat.reduceAdd, Nat.reduceSub, Nat.reduceMul, Nat.reduceLT, Nat.reduceLeDiff, reduceCtorEq, Int.reduceToNat, Int.reduceLT, Int.reduceLE, Int.reduceAdd, Int.reduceSub, Int.reduceMul, Int.reduceNeg, Int.reduceEq, Nat.reduceMod, forall_eq_or_imp, forall_eq, forall_const, cond_true, cond_false, decide_true, decide_false, true_imp_iff, implies_true, Int.cast_ofNat_Int, forall_eq']
    exact hn
  intro a _ ha _
  unfold lb4_7
  simp only [↓EVP0, EVQ0, EVQ1, EVQ2, EVQ3, EVQ4, EVA, EVK, EVF, ↓reduceIte, Nat.reduceEqDiff, Nat.reduceAdd, Nat.reduceSub, Nat.reduceMul, Nat.reduceLT, Nat.reduceLeDiff, reduceCtorEq, Int.reduceToNat, Int.reduceLT, Int.reduceLE, Int.reduceAdd, Int.reduceSub, Int.reduceMul, Int.reduceNeg, Int.reduceEq, Nat.reduceMod, forall_eq_or_imp, forall_eq, forall_const, cond_true, cond_false, decide_true, decide_false, true_imp_iff, implies_true, Int.cast_ofNat_Int, forall_eq']
  refine ⟨fun hg => ?_, fun hg => ?_⟩
  · have ha2 : a < p.ns.length := by have := of_decide_eq_true hg; omega
    refine lwp_for (α := Unit) p.ns.length (fun _ _ => True) (fun b _ => [(1, .rsl 1 up.length (boolsF up)), (2, .ptr 0 0 0 0 0), (5, .sc (.int .i64 p.ns.length)), (6, .rsl 1 p.ns.length (fun (i : Nat) => [LV.rsl 1 p.ns.length (intsF (distL p.ns.length (upU p.cs up) (i : Int)))])), (9, .sc (.int .i64 a)), (68, .sc (.int .i64 p.ns.length)), (69, .sc (.int .i64 a)), (72, .sc (.int .i64 p.ns.length)), (73, .sc (.int .i64 b))])
      (fun _ _ => [(0, .box [.rsl 3 p.ns.length (ndsF p.ns), .rsl 6 p.cs.length (cbsF p.cs)])]) () trivial ?_ (fun _ _ => Nat.zero_le _) ?_
    · simp only [↓EVP0, EVQ0, EVQ1, EVQ2, EVQ3, EVQ4, EVA, EVK, EVF, ↓reduceIte, Nat.reduceEqDiff, Nat.reduceAdd, Nat.reduceSub, Nat.reduceMul, Nat.reduceLT, Nat.reduceLeDiff, reduceCtorEq, Int.reduceToNat, Int.reduceLT, Int.reduceLE, Int.reduceAdd, Int.reduceSub, Int.reduceMul, Int.reduceNeg, Int.reduceEq, Nat.reduceMod, forall_eq_or_imp, forall_eq, forall_const, cond_true, cond_false, decide_true, decide_false, true_imp_iff, implies_true, Int.cast_ofNat_Int, forall_eq']
    intro b _ hb _
    unfold lb4_6
    simp only [↓EVP0, EVQ0, EVQ1, EVQ2, EVQ3, EVQ4, EVA, EVK, EVF, ↓reduceIte, Nat.reduceEqDiff, Nat.reduceAdd, Nat.reduceSub, Nat.reduceMul, Nat.reduceLT, Nat.reduceLeDiff, reduceCtorEq, Int.reduceToNat, Int.reduceLT, Int.reduceLE, Int.reduceAdd, Int.reduceSub, Int.reduceMul, Int.reduceNeg, Int.reduceEq, Nat.reduceMod, forall_eq_or_imp, forall_eq, forall_const, cond_true, cond_false, decide_true, decide_false, true_imp_iff, implies_true, Int.cast_ofNat_Int, forall_eq']
    refine ⟨fun hg => ?_, fun hg => ?_⟩
    · have hb2 : b < p.ns.length := by have := of_decide_eq_true hg; omega
      have hia : inN p.ns.length (a : Int) := ⟨by omega, by omega⟩
      have hib : inN p.ns.length (b : Int) := ⟨by omega, by omega⟩
      have e1 : (distL p.ns.length (upU p.cs up) (a : Int)).getD b 0 = distX p.ns.length (upU p.cs up) (a : Int) (b : Int) := distL_getD hb2
      have e2 : (distL p.ns.length (upU p.cs up) (b : Int)).getD a 0 = distX p.ns.length (upU p.cs up) (a : Int) (b : Int) := by rw [distL_getD ha2]; exact dist_symm hU hib hia
      have e3 : decide (distX p.ns.length (upU p.cs up) (a : Int) (b : Int) = 0) = decide ((a : Int) = (b : Int)) := decide_eq_decide.2 (dist_zero hU hia)
      rw [e1, e2, e3]
      refine ⟨⟨by omega, by omega⟩, ⟨by omega, by omega⟩, ⟨by omega, by omega⟩, ⟨by omega, by omega⟩, fun _ => ⟨by omega, by omega⟩, fun _ => ⟨by omega, by omega⟩, fun h => ?_, fun _ => ?_⟩
      · simp at h
      refine lwp_for (α := Unit) p.ns.length (fun _ _ => True) (fun c _ => [(1, .rsl 1 up.length (boolsF up)), (2, .ptr 0 0 0 0 0), (5, .sc (.int .i64 p.ns.length)), (6, .rsl 1 p.ns.length (fun (i : Nat) => [LV.rsl 1 p.ns.length (intsF (distL p.ns.length (upU p.cs up) (i : Int)))])), (9, .sc (.int .i64 a)), (10, .sc (.int .i64 b)), (68, .sc (.int .i64 p.ns.length)), (69, .sc (.int .i64 a)), (72, .sc (.int .i64 p.ns.length)), (73, .sc (.int .i64 b)), (105, .sc (.int .i64 p.ns.length)), (106, .sc (.int .i64 c))])
        (fun _ _ => [(0, .box [.rsl 3 p.ns.length (ndsF p.ns), .rsl 6 p.cs.length (cbsF p.cs)])]) () trivial ?_ (fun _ _ => Nat.zero_le _) ?_
      · simp only [↓EVP0, EVQ0, EVQ1, EVQ2, EVQ3, EVQ4, EVA, EVK, EVF, ↓reduceIte, Nat.reduceEqDiff, Nat.reduceAdd, Nat.reduceSub, Nat.reduceMul, Nat.reduceLT, Nat.reduceLeDiff, reduceCtorEq, Int.reduceToNat, Int.reduceLT, Int.reduceLE, Int.reduceAdd, Int.reduceSub, Int.reduceMul, Int.reduceNeg, Int.reduceEq, Nat.reduceMod, forall_eq_or_imp, forall_eq, forall_const, cond_true, cond_false, decide_true, decide_false, true_imp_iff, implies_true, Int.cast_ofNat_Int, forall_eq']
      intro c _ hc _
      unfold lb4_5
      simp only [↓EVP0, EVQ0, EVQ1, EVQ2, EVQ3, EVQ4, EVA, EVK, EVF, ↓reduceIte, Nat.reduceEqDiff, Nat.reduceAdd, Nat.reduceSub, Nat.reduceMul, Nat.reduceLT, Nat.reduceLeDiff, reduceCtorEq, Int.reduceToNat, Int.reduceLT, Int.reduceLE, Int.reduceAdd, Int.reduceSub, Int.reduceMul, Int.reduceNeg, Int.reduceEq, Nat.reduceMod, forall_eq_or_imp, forall_eq, forall_const, cond_true, cond_false, decide_true, decide_false, true_imp_iff, implies_true, Int.cast_ofNat_Int, forall_eq']
      refine ⟨fun hg => ?_, fun hg => ?_⟩
      · have hc2 : c < p.ns.length := by have := of_decide_eq_true hg; omega
        have hic : inN p.ns.length (c : Int) := ⟨by omega, by omega⟩
        have e4 : (distL p.ns.length (upU p.cs up) (b : Int)).getD c 0 = distX p.ns.length (upU p.cs up) (b : Int) (c : Int) := distL_getD hc2
        have e5 : (distL p.ns.length (upU p.cs up) (a : Int)).getD c 0 = distX p.ns.length (upU p.cs up) (a : Int) (c : Int) := distL_getD hc2
        have bnd : ∀ x y : Int, inN p.ns.length x → distX p.ns.length (upU p.cs up) x y < 16 ∧ -1 ≤ distX p.ns.length (upU p.cs up) x y := by
          intro x y hx
          rcases distX_cases hU hx y with ⟨q1, _⟩ | ⟨m, q1, q2, _, _⟩ <;> omega
        have b1 := bnd a b hia
        have b2 := bnd b c hib
        have tri := dist_tri hU (z := (c : Int)) hia hib
        rw [e1, e4, e5]
        generalize distX p.ns.length (upU p.cs up) (a : Int) (b : Int) = u at *
        generalize distX p.ns.length (upU p.cs up) (b : Int) (c : Int) = v at *
        generalize distX p.ns.length (upU p.cs up) (a : Int) (c : Int) = w at *
        refine ⟨⟨by omega, by omega⟩, ⟨by omega, by omega⟩, fun _ => ⟨by omega, by omega⟩, fun _ => ⟨by omega, by omega⟩, fun _ => ⟨by omega, by omega⟩, fun _ => ⟨by omega, by omega⟩, fun _ => ⟨by omega, by omega⟩, fun _ => ⟨by omega, by omega⟩, fun _ => ⟨by omega, by omega⟩, fun _ => ⟨by omega, by omega⟩, fun _ => ⟨by omega, by omega⟩, fun _ => ⟨by omega, by omega⟩, fun _ => by unfold In64; omega, fun h => ?_, fun _ => ⟨by unfold In64; omega, hc2, (), trivial⟩⟩
        by_cases k1 : 0 ≤ u
        · by_cases k2 : 0 ≤ v
          · have := tri k1 k2
            rw [decide_eq_true k1, decide_eq_true k2, decide_eq_false (show ¬ w < 0 by omega), decide_eq_false (show ¬ u + v < w by omega)] at h
            simp at h
          · rw [decide_eq_true k1, decide_eq_false k2] at h; simp at h
        · rw [decide_eq_false k1] at h; simp at h
      · exact ⟨by unfold In64; omega, hb2, (), trivial⟩
    · intro _
      refine lwp_for (α := Unit) p.cs.length (fun _ _ => True) (fun i _ => [(1, .rsl 1 up.length (boolsF up)), (2, .ptr 0 0 0 0 0), (5, .sc (.int .i64 p.ns.length)), (6, .rsl 1 p.ns.length (fun (i : Nat) => [LV.rsl 1 p.ns.length (intsF (distL p.ns.length (upU p.cs up) (i : Int)))])), (9, .sc (.int .i64 a)), (68, .sc (.int .i64 p.ns.length)), (69, .sc (.int .i64 a)), (165, .rsl 6 p.cs.length (cbsF p.cs)), (166, .sc (.int .i64 p.cs.length)), (167, .sc (.int .i64 i))])
        (fun _ _ => [(0, .box [.rsl 3 p.ns.length (ndsF p.ns), .rsl 6 p.cs.length (cbsF p.cs)])]) () trivial ?_ (fun _ _ => Nat.zero_le _) ?_
      · simp only [↓EVP0, EVQ0, EVQ1, EVQ2, EVQ3, EVQ4, EVA, EVK, EVF, ↓reduceIte, Nat.reduceEqDiff, Nat.reduceAdd, Nat.reduceSub, Nat.reduceMul, Nat.reduceLT, Nat.reduceLeDiff, reduceCtorEq, Int.reduceToNat, Int.reduceLT, Int.reduceLE, Int.reduceAdd, Int.reduceSub, Int.reduceMul, Int.reduceNeg, Int.reduceEq, Nat.reduceMod, forall_eq_or_imp, forall_eq, forall_const, cond_true, cond_false, decide_true, decide_false, true_imp_iff, implies_true, Int.cast_ofNat_Int, forall_eq']
      intro i _ hi _
      unfold lb4_4
      simp only [↓EVP0, EVQ0, EVQ1, EVQ2, EVQ3, EVQ4, EVA, EVK, EVF, ↓reduceIte, Nat.reduceEqDiff, Nat.reduceAdd, Nat.reduceSub, Nat.reduceMul, Nat.reduceLT, Nat.reduceLeDiff, reduceCtorEq, Int.reduceToNat, Int.reduceLT, Int.reduceLE, Int.reduceAdd, Int.reduceSub, Int.reduceMul, Int.reduceNeg, Int.reduceEq, Nat.reduceMod, forall_eq_or_imp, forall_eq, forall_const, cond_true, cond_false, decide_true, decide_false, true_imp_iff, implies_true, Int.cast_ofNat_Int, forall_eq']
      refine ⟨fun hg => ?_, fun hg => ⟨by unfold In64; omega, ha2, (), trivial⟩⟩
      have hi2 : i < p.cs.length := by have := of_decide_eq_true hg; omega
      have hcm : p.cs.getD i default ∈ p.cs := getD_mem default hi2
      obtain ⟨hca, hcb⟩ := hV.cab _ hcm
      have hia : inN p.ns.length (a : Int) := ⟨by omega, by omega⟩
      have hup : up.getD i false = true → p.cs.getD i default ∈ upU p.cs up := fun h => upP_mem.2 ⟨i, hi2, h, rfl⟩
      generalize p.cs.getD i default = c at *
      have e1 : (distL p.ns.length (upU p.cs up) (a : Int)).getD c.a.toNat 0 = distX p.ns.length (upU p.cs up) (a : Int) c.a := by
        unfold inN at hca
        rw [distL_getD (by omega), show ((c.a.toNat : Nat) : Int) = c.a by omega]
      have e2 : (distL p.ns.length (upU p.cs up) (a : Int)).getD c.b.toNat 0 = distX p.ns.length (upU p.cs up) (a : Int) c.b := by
        unfold inN at hcb
        rw [distL_getD (by omega), show ((c.b.toNat : Nat) : Int) = c.b by omega]
      have bnd : ∀ x y : Int, inN p.ns.length x → distX p.ns.length (upU p.cs up) x y < 16 ∧ -1 ≤ distX p.ns.length (upU p.cs up) x y := by
        intro x y hx
        rcases distX_cases hU hx y with ⟨q1, _⟩ | ⟨m, q1, q2, _, _⟩ <;> omega
      have b1 := bnd a c.a hia
      have b2 := bnd a c.b hia
      have du := fun h => dist_up hU hia (hup h)
      rw [e1, e2]
      generalize distX p.ns.length (upU p.cs up) (a : Int) c.a = u at *
      generalize distX p.ns.length (upU p.cs up) (a : Int) c.b = v at *
      refine ⟨⟨by omega, by omega⟩, ⟨by omega, by omega⟩, hca, ⟨by omega, by omega⟩, hcb, ⟨by omega, by omega⟩, fun _ => by unfold In64; omega, fun _ => by unfold In64; omega, fun h => ?_, fun _ => ⟨by unfold In64; omega, hi2, (), trivial⟩⟩
      cases hq : up.getD i false
      · rw [hq] at h; simp at h
      · obtain ⟨d1, d2, d3⟩ := du hq
        rw [hq, decide_eq_decide.2 d1, decide_eq_false (show ¬ 1 < u - v by omega), decide_eq_false (show ¬ 1 < v - u by omega)] at h
        revert h
        cases decide (v < 0) <;> exact fun h => Bool.noConfusion h
  have h5 := ev_parts p hp up
  unfold plV boolsV rowsV at h5
  have hE : partsE p up = (goP p.ns.length (upU p.cs up) p.ns.length).2 := by
    unfold partsE usableB
    rw [decide_eq_true c2, decide_eq_true c3]; rfl
  rw [hE] at h5
  refine ⟨by unfold mksC; omega, ?_⟩
  refine callK_ro (h5) ?_ ?_
  · simp only [↓EVP0, EVQ0, EVQ1, EVQ2, EVQ3, EVQ4, EVA, EVK, EVF, ↓reduceIte, Nat.reduceEqDiff, Nat.reduceAdd, Nat.reduceSub, Nat.reduceMul, Nat.reduceLT, Nat.reduceLeDiff, reduceCtorEq, Int.reduceToNat, Int.reduceLT, Int.reduceLE, Int.reduceAdd, Int.reduceSub, Int.reduceMul, Int.reduceNeg, Int.reduceEq, Nat.reduceMod, forall_eq_or_imp, forall_eq, forall_const, cond_true, cond_false, decide_true, decide_false, true_imp_iff, implies_true, Int.cast_ofNat_Int, forall_eq']
  simp only [↓EVP0, EVQ0, EVQ1, EVQ2, EVQ3, EVQ4, EVA, EVK, EVF, ↓reduceIte, Nat.reduceEqDiff, Nat.reduceAdd, Nat.reduceSub, Nat.reduceMul, Nat.reduceLT, Nat.reduceLeDiff, reduceCtorEq, Int.reduceToNat, Int.reduceLT, Int.reduceLE, Int.reduceAdd, Int.reduceSub, Int.reduceMul, Int.reduceNeg, Int.reduceEq, Nat.reduceMod, forall_eq_or_imp, forall_eq, forall_const, cond_true, cond_false, decide_true, decide_false, true_imp_iff, implies_true, Int.cast_ofNat_Int, forall_eq']
  intro hPl
  generalize hP : (goP p.ns.length (upU p.cs up) p.ns.length).2 = P
  rw [hP] at hPl
  refine lwp_for (α := Unit) P.length (fun _ _ => True) (fun j _ => [(5, .sc (.int .i64 p.ns.length)), (6, (.rsl 1 p.ns.length (fun (i : Nat) => [LV.rsl 1 p.ns.length (intsF (distL p.ns.length (upU p.cs up) (i : Int)))]))), (16, .sl 1 0 1 0 p.ns.length), (17, .sc (.int .i64 ((sumL P j : Nat) : Int))), (217, .rsl 1 P.length (fun (i : Nat) => [LV.rsl 1 (P.getD i []).length (intsF (P.getD i []))])), (218, .sc (.int .i64 P.length)), (219, .sc (.int .i64 j))])
    (fun j _ => [(0, .box [.rsl 3 p.ns.length (ndsF p.ns), .rsl 6 p.cs.length (cbsF p.cs)]), (0, .ints (labs P p.ns.length j))]) () trivial ?_ (fun _ _ => Nat.zero_le _) ?_
  · simp only [↓EVP0, EVQ0, EVQ1, EVQ2, EVQ3, EVQ4, EVA, EVK, EVF, ↓reduceIte, Nat.reduceEqDiff, Nat.reduceAdd, Nat.reduceSub, Nat.reduceMul, Nat.reduceLT, Nat.reduceLeDiff, reduceCtorEq, Int.reduceToNat, Int.reduceLT, Int.reduceLE, Int.reduceAdd, Int.reduceSub, Int.reduceMul, Int.reduceNeg, Int.reduceEq, Nat.reduceMod, forall_eq_or_imp, forall_eq, forall_const, cond_true, cond_false, decide_true, decide_false, true_imp_iff, implies_true, Int.cast_ofNat_Int, forall_eq']
    exact ⟨⟨rfl, rfl⟩, rfl⟩
  intro j _ hj _
  unfold lb4_3
  simp only [↓EVP0, EVQ0, EVQ1, EVQ2, EVQ3, EVQ4, EVA, EVK, EVF, ↓reduceIte, Nat.reduceEqDiff, Nat.reduceAdd, Nat.reduceSub, Nat.reduceMul, Nat.reduceLT, Nat.reduceLeDiff, reduceCtorEq, Int.reduceToNat, Int.reduceLT, Int.reduceLE, Int.reduceAdd, Int.reduceSub, Int.reduceMul, Int.reduceNeg, Int.reduceEq, Nat.reduceMod, forall_eq_or_imp, forall_eq, forall_const, cond_true, cond_false, decide_true, decide_false, true_imp_iff, implies_true, Int.cast_ofNat_Int, forall_eq']
  have hsum : (P.map List.length).sum = p.ns.length := by rw [← hP]; exact parts_sum hU
  have hll := labs_len P p.ns.length
  refine ⟨fun hg => ?_, fun hg => ?_⟩
  · have hj2 : j < P.length := by have := of_decide_eq_true hg; omega
    have hs1 := sumL_succ hj2
    have hs2 := sumL_le P (j + 1)
    have hin : ∀ v, v ∈ P.getD j [] → inN p.ns.length v := fun v hv => part_in hU (i := j) (by rw [hP]; exact hj2) (by rw [hP]; exact hv)
    have hlab : labs P p.ns.length (j + 1) = labF (labs P p.ns.length j) (j : Int) (P.getD j []) := rfl
    refine ⟨⟨by omega, by omega⟩, fun hQl => ?_⟩
    generalize P.getD j [] = Q at *
    refine lwp_for (α := Unit) Q.length (fun _ _ => True) (fun k _ => [(5, .sc (.int .i64 p.ns.length)), (6, (.rsl 1 p.ns.length (fun (i : Nat) => [LV.rsl 1 p.ns.length (intsF (distL p.ns.length (upU p.cs up) (i : Int)))]))), (16, .sl 1 0 1 0 p.ns.length), (17, .sc (.int .i64 ((sumL P j + k : Nat) : Int))), (18, .sc (.int .i64 j)), (217, .rsl 1 P.length (fun (i : Nat) => [LV.rsl 1 (P.getD i []).length (intsF (P.getD i []))])), (218, .sc (.int .i64 P.length)), (219, .sc (.int .i64 j)), (224, .rsl 1 Q.length (intsF Q)), (225, .sc (.int .i64 Q.length)), (226, .sc (.int .i64 k))])
      (fun k _ => [(0, .box [.rsl 3 p.ns.length (ndsF p.ns), .rsl 6 p.cs.length (cbsF p.cs)]), (0, .ints (labF (labs P p.ns.length j) (j : Int) (Q.take k)))]) () trivial ?_ (fun _ _ => Nat.zero_le _) ?_
    · simp only [↓EVP0, EVQ0, EVQ1, EVQ2, EVQ3, EVQ4, EVA, EVK, EVF, ↓reduceIte, Nat.reduceEqDiff, Nat.reduceAdd, Nat.reduceSub, Nat.reduceMul, Nat.reduceLT, Nat.reduceLeDiff, reduceCtorEq, Int.reduceToNat, Int.reduceLT, Int.reduceLE, Int.reduceAdd, Int.reduceSub, Int.reduceMul, Int.reduceNeg, Int.reduceEq, Nat.reduceMod, forall_eq_or_imp, forall_eq, forall_const, cond_true, cond_false, decide_true, decide_false, true_imp_iff, implies_true, Int.cast_ofNat_Int, forall_eq']
      exact rfl
    intro k _ hk _
    unfold lb4_2
    simp only [↓EVP0, EVQ0, EVQ1, EVQ2, EVQ3, EVQ4, EVA, EVK, EVF, ↓reduceIte, Nat.reduceEqDiff, Nat.reduceAdd, Nat.reduceSub, Nat.reduceMul, Nat.reduceLT, Nat.reduceLeDiff, reduceCtorEq, Int.reduceToNat, Int.reduceLT, Int.reduceLE, Int.reduceAdd, Int.reduceSub, Int.reduceMul, Int.reduceNeg, Int.reduceEq, Nat.reduceMod, forall_eq_or_imp, forall_eq, forall_const, cond_true, cond_false, decide_true, decide_false, true_imp_iff, implies_true, Int.cast_ofNat_Int, forall_eq']
    refine ⟨fun hg => ?_, fun hg => ?_⟩
    · have hk2 : k < Q.length := by have := of_decide_eq_true hg; omega
      have hv : inN p.ns.length (Q.getD k 0) := hin _ (getD_mem 0 hk2)
      unfold inN at hv
      refine ⟨⟨by omega, by omega⟩, fun h => ?_, fun _ => ⟨⟨hv.1, hv.2⟩, by rw [labF_len, hll]; omega, by unfold In64; omega, by unfold In64; omega, hk2, (), by omega, (labF_succ hk2).symm⟩⟩
      rw [decide_eq_false (show ¬ Q.getD k 0 < 0 by omega), decide_eq_false (show ¬ (p.ns.length : Int) ≤ Q.getD k 0 by omega)] at h
      simp at h
    · have hk2 : k = Q.length := by have := of_decide_eq_false hg; omega
      subst hk2
      refine ⟨by unfold In64; omega, hj2, (), by omega, ?_⟩
      rw [List.take_length, hlab]
  · have hj2 : j = P.length := by have := of_decide_eq_false hg; omega
    subst hj2
    have hS : sumL P P.length = p.ns.length := by rw [sumL_all, hsum]
    have hget := fun (x y : Nat) (hx : x < p.ns.length) (hy : y < p.ns.length) => labs_iff hU hx hy
    rw [hP] at hget
    rw [hS]
    refine lwp_for (α := Unit) p.ns.length (fun _ _ => True) (fun x _ => [(5, .sc (.int .i64 p.ns.length)), (6, (.rsl 1 p.ns.length (fun (i : Nat) => [LV.rsl 1 p.ns.length (intsF (distL p.ns.length (upU p.cs up) (i : Int)))]))), (16, .sl 1 0 1 0 p.ns.length), (17, .sc (.int .i64 p.ns.length)), (245, .sc (.int .i64 p.ns.length)), (246, .sc (.int .i64 x))])
      (fun _ _ => [(0, .box [.rsl 3 p.ns.length (ndsF p.ns), .rsl 6 p.cs.length (cbsF p.cs)]), (0, .ints (labs P p.ns.length P.length))]) () trivial ?_ (fun _ _ => Nat.zero_le _) ?_
    · simp only [↓EVP0, EVQ0, EVQ1, EVQ2, EVQ3, EVQ4, EVA, EVK, EVF, ↓reduceIte, Nat.reduceEqDiff, Nat.reduceAdd, Nat.reduceSub, Nat.reduceMul, Nat.reduceLT, Nat.reduceLeDiff, reduceCtorEq, Int.reduceToNat, Int.reduceLT, Int.reduceLE, Int.reduceAdd, Int.reduceSub, Int.reduceMul, Int.reduceNeg, Int.reduceEq, Nat.reduceMod, forall_eq_or_imp, forall_eq, forall_const, cond_true, cond_false, decide_true, decide_false, true_imp_iff, implies_true, Int.cast_ofNat_Int, forall_eq']
    intro x _ hx _
    unfold lb4_1
    simp only [↓EVP0, EVQ0, EVQ1, EVQ2, EVQ3, EVQ4, EVA, EVK, EVF, ↓reduceIte, Nat.reduceEqDiff, Nat.reduceAdd, Nat.reduceSub, Nat.reduceMul, Nat.reduceLT, Nat.reduceLeDiff, reduceCtorEq, Int.reduceToNat, Int.reduceLT, Int.reduceLE, Int.reduceAdd, Int.reduceSub, Int.reduceMul, Int.reduceNeg, Int.reduceEq, Nat.reduceMod, forall_eq_or_imp, forall_eq, forall_const, cond_true, cond_false, decide_true, decide_false, true_imp_iff, implies_true, Int.cast_ofNat_Int, forall_eq']
    refine ⟨fun hg2 => ?_, fun hg2 => ?_⟩
    · have hx2 : x < p.ns.length := by have := of_decide_eq_true hg2; omega
      refine lwp_for (α := Unit) p.ns.length (fun _ _ => True) (fun y _ => [(5, .sc (.int .i64 p.ns.length)), (6, (.rsl 1 p.ns.length (fun (i : Nat) => [LV.rsl 1 p.ns.length (intsF (distL p.ns.length (upU p.cs up) (i : Int)))]))), (16, .sl 1 0 1 0 p.ns.length), (17, .sc (.int .i64 p.ns.length)), (22, .sc (.int .i64 x)), (245, .sc (.int .i64 p.ns.length)), (246, .sc (.int .i64 x)), (249, .sc (.int .i64 p.ns.length)), (250, .sc (.int .i64 y))])
        (fun _ _ => [(0, .box [.rsl 3 p.ns.length (ndsF p.ns), .rsl 6 p.cs.length (cbsF p.cs)]), (0, .ints (labs P p.ns.length P.length))]) () trivial ?_ (fun _ _ => Nat.zero_le _) ?_
      · simp only [↓EVP0, EVQ0, EVQ1, EVQ2, EVQ3, EVQ4, EVA, EVK, EVF, ↓reduceIte, Nat.reduceEqDiff, Nat.reduceAdd, Nat.reduceSub, Nat.reduceMul, Nat.reduceLT, Nat.reduceLeDiff, reduceCtorEq, Int.reduceToNat, Int.reduceLT, Int.reduceLE, Int.reduceAdd, Int.reduceSub, Int.reduceMul, Int.reduceNeg, Int.reduceEq, Nat.reduceMod, forall_eq_or_imp, forall_eq, forall_const, cond_true, cond_false, decide_true, decide_false, true_imp_iff, implies_true, Int.cast_ofNat_Int, forall_eq']
      intro y _ hy _
      unfold lb4_0
      simp only [↓EVP0, EVQ0, EVQ1, EVQ2, EVQ3, EVQ4, EVA, EVK, EVF, ↓reduceIte, Nat.reduceEqDiff, Nat.reduceAdd, Nat.reduceSub, Nat.reduceMul, Nat.reduceLT, Nat.reduceLeDiff, reduceCtorEq, Int.reduceToNat, Int.reduceLT, Int.reduceLE, Int.reduceAdd, Int.reduceSub, Int.reduceMul, Int.reduceNeg, Int.reduceEq, Nat.reduceMod, forall_eq_or_imp, forall_eq, forall_const, cond_true, cond_false, decide_true, decide_false, true_imp_iff, implies_true, Int.cast_ofNat_Int, forall_eq']
      refine ⟨fun hg3 => ?_, fun hg3 => ?_⟩
      · have hy2 : y < p.ns.length := by have := of_decide_eq_true hg3; omega
        have e1 : decide ((labs P p.ns.length P.length).getD x 0 = (labs P p.ns.length P.length).getD y 0) = decide (0 ≤ distX p.ns.length (upU p.cs up) (x : Int) (y : Int)) := decide_eq_decide.2 (hget x y hx2 hy2)
        rw [distL_getD hy2, e1]
        refine ⟨⟨by omega, by omega⟩, by rw [hll]; exact hx2, ⟨by omega, by omega⟩, by rw [hll]; exact hy2, ⟨by omega, by omega⟩, ⟨by omega, by omega⟩, fun h => ?_, fun _ => ⟨by unfold In64; omega, hy2, (), trivial⟩⟩
        simp at h
      · exact ⟨by unfold In64; omega, hx2, (), trivial⟩
    · refine hT _ _ ?_
      simp [upd]
theorem ev_lawMetric (p : Pl) (hp : PlOk p) (up : List Bool) : Ev Tryd.prog 4 [plV p, boolsV up] (.sc (.bool true)) := by
  have h1 := ev_awake14
  have h2 := ev_great14 p
  have h3 := ev_valid p hp
  have h4 := fun r => ev_dists p hp r up
  have h5 := ev_parts p hp up
  unfold plV boolsV intsV rowsV at *
  refine ev_fn Tryd.func4 comp4b (show 2 ≤ Tryd.f4.ntmps by decide) ?_
  unfold cf4b rf4
  simp only [↓EVP0, EVQ0, EVQ1, EVQ2, EVQ3, EVQ4, EVA, EVK, EVF, ↓reduceIte, Nat.reduceEqDiff, Nat.reduceAdd, Nat.reduceSub, Nat.reduceMul, Nat.reduceLT, Nat.reduceLeDiff, reduceCtorEq, Int.reduceToNat, Int.reduceLT, Int.reduceLE, Int.reduceAdd, Int.reduceSub, Int.reduceMul, Int.reduceNeg, Int.reduceEq, Nat.reduceMod, forall_eq_or_imp, forall_eq, forall_const, cond_true, cond_false, decide_true, decide_false, true_imp_iff, implies_true, Int.cast_ofNat_Int, forall_eq']
  refine callK_ro (h1) ?_ ?_
  · simp only [↓EVP0, EVQ0, EVQ1, EVQ2, EVQ3, EVQ4, EVA, EVK, EVF, ↓reduceIte, Nat.reduceEqDiff, Nat.reduceAdd, Nat.reduceSub, Nat.reduceMul, Nat.reduceLT, Nat.reduceLeDiff, reduceCtorEq, Int.reduceToNat, Int.reduceLT, Int.reduceLE, Int.reduceAdd, Int.reduceSub, Int.reduceMul, Int.reduceNeg, Int.reduceEq, Nat.reduceMod, forall_eq_or_imp, forall_eq, forall_const, cond_true, cond_false, decide_true, decide_false, true_imp_iff, implies_true, Int.cast_ofNat_Int, forall_eq']
  simp only [↓EVP0, EVQ0, EVQ1, EVQ2, EVQ3, EVQ4, EVA, EVK, EVF, ↓reduceIte, Nat.reduceEqDiff, Nat.reduceAdd, Nat.reduceSub, Nat.reduceMul, Nat.reduceLT, Nat.reduceLeDiff, reduceCtorEq, Int.reduceToNat, Int.reduceLT, Int.reduceLE, Int.reduceAdd, Int.reduceSub, Int.reduceMul, Int.reduceNeg, Int.reduceEq, Nat.reduceMod, forall_eq_or_imp, forall_eq, forall_const, cond_true, cond_false, decide_true, decide_false, true_imp_iff, implies_true, Int.cast_ofNat_Int, forall_eq']
  refine callK_ro (h2) ?_ ?_
  · simp only [↓EVP0, EVQ0, EVQ1, EVQ2, EVQ3, EVQ4, EVA, EVK, EVF, ↓reduceIte, Nat.reduceEqDiff, Nat.reduceAdd, Nat.reduceSub, Nat.reduceMul, Nat.reduceLT, Nat.reduceLeDiff, reduceCtorEq, Int.reduceToNat, Int.reduceLT, Int.reduceLE, Int.reduceAdd, Int.reduceSub, Int.reduceMul, Int.reduceNeg, Int.reduceEq, Nat.reduceMod, forall_eq_or_imp, forall_eq, forall_const, cond_true, cond_false, decide_true, decide_false, true_imp_iff, implies_true, Int.cast_ofNat_Int, forall_eq']
  simp only [↓EVP0, EVQ0, EVQ1, EVQ2, EVQ3, EVQ4, EVA, EVK, EVF, ↓reduceIte, Nat.reduceEqDiff, Nat.reduceAdd, Nat.reduceSub, Nat.reduceMul, Nat.reduceLT, Nat.reduceLeDiff, reduceCtorEq, Int.reduceToNat, Int.reduceLT, Int.reduceLE, Int.reduceAdd, Int.reduceSub, Int.reduceMul, Int.reduceNeg, Int.reduceEq, Nat.reduceMod, forall_eq_or_imp, forall_eq, forall_const, cond_true, cond_false, decide_true, decide_false, true_imp_iff, implies_true, Int.cast_ofNat_Int, forall_eq']
  (refine lops_ge_imp ?_; simp only [↓EVP0, EVQ0, EVQ1, EVQ2, EVQ3, EVQ4, EVA, EVK, EVF, ↓reduceIte, Nat.reduceEqDiff, Nat.reduceAdd, Nat.reduceSub, Nat.reduceMul, Nat.reduceLT, Nat.reduceLeDiff, reduceCtorEq, Int.reduceToNat, Int.reduceLT, Int.reduceLE, Int.reduceAdd, Int.reduceSub, Int.reduceMul, Int.reduceNeg, Int.reduceEq, Nat.reduceMod, forall_eq_or_imp, forall_eq, forall_const, cond_true, cond_false, decide_true, decide_false, true_imp_iff, implies_true, Int.cast_ofNat_Int, forall_eq'])
  refine gCallK_ro _ (fun _ => h3) (fun _ => ?_) ?_
  · simp only [↓EVP0, EVQ0, EVQ1, EVQ2, EVQ3, EVQ4, EVA, EVK, EVF, ↓reduceIte, Nat.reduceEqDiff, Nat.reduceAdd, Nat.reduceSub, Nat.reduceMul, Nat.reduceLT, Nat.reduceLeDiff, reduceCtorEq, Int.reduceToNat, Int.reduceLT, Int.reduceLE, Int.reduceAdd, Int.reduceSub, Int.reduceMul, Int.reduceNeg, Int.reduceEq, Nat.reduceMod, forall_eq_or_imp, forall_eq, forall_const, cond_true, cond_false, decide_true, decide_false, true_imp_iff, implies_true, Int.cast_ofNat_Int, forall_eq']
  simp only [↓EVP0, EVQ0, EVQ1, EVQ2, EVQ3, EVQ4, EVA, EVK, EVF, ↓reduceIte, Nat.reduceEqDiff, Nat.reduceAdd, Nat.reduceSub, Nat.reduceMul, Nat.reduceLT, Nat.reduceLeDiff, reduceCtorEq, Int.reduceToNat, Int.reduceLT, Int.reduceLE, Int.reduceAdd, Int.reduceSub, Int.reduceMul, Int.reduceNeg, Int.reduceEq, Nat.reduceMod, forall_eq_or_imp, forall_eq, forall_const, cond_true, cond_false, decide_true, decide_false, true_imp_iff, implies_true, Int.cast_ofNat_Int, forall_eq']
  by_cases hc : (great14 p = false ∧ validE p = 0) ∧ up.length = p.cs.length
  · obtain ⟨⟨c1, c2⟩, c3⟩ := hc
    rw [c1, decide_eq_true c2, decide_eq_true (show (up.length : Int) = p.cs.length by omega)]
    simp only [Bool.not_true, cond_false]
    have hV := valid_of c2
    have h16 := hV.n16
    have h32 := hV.c32
    have hU := upU_in (up := up) hV.cab
    have dE : ∀ r, inN p.ns.length r → distsE p r up = distL p.ns.length (upU p.cs up) r := by
      intro r hr
      unfold distsE usableB
      unfold inN at hr
      rw [decide_eq_true c2, decide_eq_true c3, decide_eq_true hr.1, decide_eq_true hr.2]; rfl
    refine ⟨fun h => by simp at h, fun _ _ => ?_⟩
    have hT : ∀ s h, s 4 = .sc (.bool true) → fin [RX.tmp 4] (.sc (.bool true)) s h := by
      intro s h e
      unfold fin
      simp only [↓EVP0, EVQ0, EVQ1, EVQ2, EVQ3, EVQ4, EVA, EVK, EVF, ↓reduceIte, Nat.reduceEqDiff, Nat.reduceAdd, Nat.reduceSub, Nat.reduceMul, Nat.reduceLT, Nat.reduceLeDiff, reduceCtorEq, Int.reduceToNat, Int.reduceLT, Int.reduceLE, Int.reduceAdd, Int.reduceSub, Int.reduceMul, Int.reduceNeg, Int.reduceEq, Nat.reduceMod, forall_eq_or_imp, forall_eq, forall_const, cond_true, cond_false, decide_true, decide_false, true_imp_iff, implies_true, Int.cast_ofNat_Int, forall_eq']
      rw [e]
      first | rfl | trivial | exact ⟨rfl, trivial⟩ | simp [roTo3, roTo2, roTo1]
    refine lwp_frzO [1] 6 (.rsl 1 p.ns.length (fun (i : Nat) => [LV.rsl 1 p.ns.length (intsF (distL p.ns.length (upU p.cs up) (i : Int)))])) ?_
    simp only [↓EVP0, EVQ0, EVQ1, EVQ2, EVQ3, EVQ4, EVA, EVK, EVF, ↓reduceIte, Nat.reduceEqDiff, Nat.reduceAdd, Nat.reduceSub, Nat.reduceMul, Nat.reduceLT, Nat.reduceLeDiff, reduceCtorEq, Int.reduceToNat, Int.reduceLT, Int.reduceLE, Int.reduceAdd, Int.reduceSub, Int.reduceMul, Int.reduceNeg, Int.reduceEq, Nat.reduceMod, forall_eq_or_imp, forall_eq, forall_const, cond_true, cond_false, decide_true, decide_false, true_imp_iff, implies_true, Int.cast_ofNat_Int, forall_eq']
    refine lwp_for (α := Nat) p.ns.length (fun _ _ => True) (fun i v => [(1, .rsl 1 up.length (boolsF up)), (2, .ptr 0 0 0 0 0), (5, .sc (.int .i64 p.ns.length)), (6, if i = 0 then .nsl else .sl 1 v 1 0 i), (44, .sc (.int .i64 p.ns.length)), (45, .sc (.int .i64 i))])
      (fun i v => (0, .box [.rsl 3 p.ns.length (ndsF p.ns), .rsl 6 p.cs.length (cbsF p.cs)]) :: if i = 0 then [] else [(v, .row 1 i (rowsF (allD p.ns.length (upU p.cs up) i)))]) 0 trivial ?_ (fun _ _ => Nat.zero_le _) ?_
    · simp only [if_true]
      simp only [↓EVP0, EVQ0, EVQ1, EVQ2, EVQ3, EVQ4, EVA, EVK, EVF, ↓reduceIte, Nat.reduceEqDiff, Nat.reduceAdd, Nat.reduceSub, Nat.reduceMul, Nat.reduceLT, Nat.reduceLeDiff, reduceCtorEq, Int.reduceToNat, Int.reduceLT, Int.reduceLE, Int.reduceAdd, Int.reduceSub, Int.reduceMul, Int.reduceNeg, Int.reduceEq, Nat.reduceMod, forall_eq_or_imp, forall_eq, forall_const, cond_true, cond_false, decide_true, decide_false, true_imp_iff, implies_true, Int.cast_ofNat_Int, forall_eq']
    intro i v hi _
    have hd := fun (hr : inN p.ns.length (i : Int)) => h4 (i : Int)
    cases i with
    | zero =>
      simp only [if_true]
      unfold lb4_8
      simp only [↓EVP0, EVQ0, EVQ1, EVQ2, EVQ3, EVQ4, EVA, EVK, EVF, ↓reduceIte, Nat.reduceEqDiff, Nat.reduceAdd, Nat.reduceSub, Nat.reduceMul, Nat.reduceLT, Nat.reduceLeDiff, reduceCtorEq, Int.reduceToNat, Int.reduceLT, Int.reduceLE, Int.reduceAdd, Int.reduceSub, Int.reduceMul, Int.reduceNeg, Int.reduceEq, Nat.reduceMod, forall_eq_or_imp, forall_eq, forall_const, cond_true, cond_false, decide_true, decide_false, true_imp_iff, implies_true, Int.cast_ofNat_Int, forall_eq']
      refine ⟨fun hg => ?_, fun hg => ⟨by have := of_decide_eq_false hg; omega, metric_tail p hp up c2 c3 hT _ _ rfl rfl rfl rfl (Nat.le_refl _) rfl⟩⟩
      have hn2 : 0 < p.ns.length := by have := of_decide_eq_true hg; omega
      have hr : inN p.ns.length 0 := ⟨by omega, by omega⟩
      have hd0 := h4 0
      rw [dE 0 hr, distL_length] at hd0
      refine callK_ro (hd0) ?_ ?_
      · simp only [↓EVP0, EVQ0, EVQ1, EVQ2, EVQ3, EVQ4, EVA, EVK, EVF, ↓reduceIte, Nat.reduceEqDiff, Nat.reduceAdd, Nat.reduceSub, Nat.reduceMul, Nat.reduceLT, Nat.reduceLeDiff, reduceCtorEq, Int.reduceToNat, Int.reduceLT, Int.reduceLE, Int.reduceAdd, Int.reduceSub, Int.reduceMul, Int.reduceNeg, Int.reduceEq, Nat.reduceMod, forall_eq_or_imp, forall_eq, forall_const, cond_true, cond_false, decide_true, decide_false, true_imp_iff, implies_true, Int.cast_ofNat_Int, forall_eq']
      simp only [↓EVP0, EVQ0, EVQ1, EVQ2, EVQ3, EVQ4, EVA, EVK, EVF, ↓reduceIte, Nat.reduceEqDiff, Nat.reduceAdd, Nat.reduceSub, Nat.reduceMul, Nat.reduceLT, Nat.reduceLeDiff, reduceCtorEq, Int.reduceToNat, Int.reduceLT, Int.reduceLE, Int.reduceAdd, Int.reduceSub, Int.reduceMul, Int.reduceNeg, Int.reduceEq, Nat.reduceMod, forall_eq_or_imp, forall_eq, forall_const, cond_true, cond_false, decide_true, decide_false, true_imp_iff, implies_true, Int.cast_ofNat_Int, forall_eq']
      intro _
      refine ⟨by omega, fun h => ?_, fun _ => ⟨rowsF (allD p.ns.length (upU p.cs up) 1), fun i hi => by (obtain rfl : i = 0 := by omega); exact rowsF_one (by omega), by unfold appRoom; omega, by unfold In64; omega, hn2, 0, rfl, ⟨rfl, congrArg (LO.row 1 1) (funext fun i => by rw [if_neg (Nat.not_lt_zero _)]; rfl)⟩, fun i hi => ⟨trivial, trivial⟩⟩⟩
      rw [distL_getD hn2, show ((0 : Nat) : Int) = 0 from rfl, (dist_zero hU hr).2 rfl] at h
      simp at h
    | succ i =>
      simp only [Nat.add_eq_zero_iff, Nat.one_ne_zero, and_false, if_false]
      unfold lb4_8
      simp only [↓EVP0, EVQ0, EVQ1, EVQ2, EVQ3, EVQ4, EVA, EVK, EVF, ↓reduceIte, Nat.reduceEqDiff, Nat.reduceAdd, Nat.reduceSub, Nat.reduceMul, Nat.reduceLT, Nat.reduceLeDiff, reduceCtorEq, Int.reduceToNat, Int.reduceLT, Int.reduceLE, Int.reduceAdd, Int.reduceSub, Int.reduceMul, Int.reduceNeg, Int.reduceEq, Nat.reduceMod, forall_eq_or_imp, forall_eq, forall_const, cond_true, cond_false, decide_true, decide_false, true_imp_iff, implies_true, Int.cast_ofNat_Int, forall_eq']
      refine ⟨fun hg => ?_, fun hg => ⟨⟨by have := of_decide_eq_false hg; omega, ⟨Nat.le_refl _, fun _ _ => rfl⟩, fun j hj => ?_⟩, ?_⟩⟩
      · have hn2 : i + 1 < p.ns.length := by have := of_decide_eq_true hg; omega
        have hr : inN p.ns.length ((i : Int) + 1) := ⟨by omega, by omega⟩
        have hd0 := h4 ((i : Int) + 1)
        rw [dE _ hr, distL_length] at hd0
        refine callK_ro (hd0) ?_ ?_
        · simp only [↓EVP0, EVQ0, EVQ1, EVQ2, EVQ3, EVQ4, EVA, EVK, EVF, ↓reduceIte, Nat.reduceEqDiff, Nat.reduceAdd, Nat.reduceSub, Nat.reduceMul, Nat.reduceLT, Nat.reduceLeDiff, reduceCtorEq, Int.reduceToNat, Int.reduceLT, Int.reduceLE, Int.reduceAdd, Int.reduceSub, Int.reduceMul, Int.reduceNeg, Int.reduceEq, Nat.reduceMod, forall_eq_or_imp, forall_eq, forall_const, cond_true, cond_false, decide_true, decide_false, true_imp_iff, implies_true, Int.cast_ofNat_Int, forall_eq']
        simp only [↓EVP0, EVQ0, EVQ1, EVQ2, EVQ3, EVQ4, EVA, EVK, EVF, ↓reduceIte, Nat.reduceEqDiff, Nat.reduceAdd, Nat.reduceSub, Nat.reduceMul, Nat.reduceLT, Nat.reduceLeDiff, reduceCtorEq, Int.reduceToNat, Int.reduceLT, Int.reduceLE, Int.reduceAdd, Int.reduceSub, Int.reduceMul, Int.reduceNeg, Int.reduceEq, Nat.reduceMod, forall_eq_or_imp, forall_eq, forall_const, cond_true, cond_false, decide_true, decide_false, true_imp_iff, implies_true, Int.cast_ofNat_Int, forall_eq']
        intro _
        refine ⟨⟨by omega, by omega⟩, fun h => ?_, fun _ => ⟨fun j => rowsF (allD p.ns.length (upU p.cs up) (i + 1 + 1)) (j + (i + 1)), fun j hj => ?_, ⟨Nat.le_refl _, fun _ _ => rfl⟩, by unfold appRoom; omega, by unfold In64; omega, hn2, v + 1, rfl, ⟨rfl, congrArg (LO.row 1 (i + 1 + 1)) (funext fun j => ?_)⟩, fun j hj => ⟨trivial, trivial⟩⟩⟩
        · rw [show ((i : Int) + 1).toNat = i + 1 by omega, distL_getD hn2, show ((i + 1 : Nat) : Int) = (i : Int) + 1 by omega, (dist_zero hU hr).2 rfl] at h
          simp at h
        · obtain rfl : j = 0 := by omega
          show rowsF _ (0 + (i + 1)) = _
          rw [Nat.zero_add, rowsF_one (by omega)]
          rfl
        · by_cases hj : j < i + 1
          · rw [if_pos hj]
            unfold rowsF
            rw [allD_get hj, allD_get (by omega)]
          · rw [if_neg hj]
            show rowsF _ (j - (i + 1) + (i + 1)) = _
            rw [show j - (i + 1) + (i + 1) = j by omega]
      · exact rowsF_one hj
      · exact metric_tail p hp up c2 c3 hT _ _ rfl rfl rfl rfl (by simp [mkH]) rfl
  · refine ⟨fun _ => trivial, fun h => absurd ?_ hc⟩
    cases hg : great14 p
    · by_cases e1 : validE p = 0
      · by_cases e2 : (up.length : Int) = p.cs.length
        · exact ⟨⟨rfl, e1⟩, by omega⟩
        · rw [hg, decide_eq_true e1, decide_eq_false e2] at h; simp at h
      · rw [hg, decide_eq_false e1] at h; simp at h
    · rw [hg] at h; simp at h
end Go.Proofs.YtchpncmmlhfemaaDoor
namespace Go.Proofs.YtchpncmmlhfemaaDoor
set_option linter.unusedSimpArgs false
set_option linter.unusedVariables false
open Go.ChangeShapes Go.WideShapes Go.ChangeAt Go.RowKit

theorem card_paramsGraphMetric (fn : Func) (h : fn.params.toList.all (fun t => !Tryd.prog.wantsStandIn t) = true) (j : Nat) (t : TypeId) (ht : fn.params[j]? = some t) : Tryd.prog.wantsStandIn t = false := by
  have := List.all_eq_true.1 h t (by rw [← Array.getElem?_toList] at ht; exact List.mem_of_getElem? ht)
  simpa using this
theorem law_graphMetric (lvs : List LV) (h : fitAll Tryd.prog Tryd.f4.params.toList lvs) : Ev Tryd.prog 4 lvs (.sc (.bool true)) := by
  rw [Tryd.params4] at h
  obtain ⟨a0, l0, rfl, g0, h⟩ := all1 h
  obtain ⟨a1, l1, rfl, g1, h⟩ := all1 h
  obtain rfl := all0 h
  obtain ⟨p, ip, hp⟩ := arg_plan g0
  obtain ⟨up, iup, nup⟩ := arg_bools g1
  exact ev_im (bs := [plV p, boolsV up]) ⟨ip, iup, trivial⟩ (ev_lawMetric p hp up)
set_option maxRecDepth 100000 in
theorem lifted_graphMetric (os : Os) (started : os.Started) (H : Type) (enc : TypeId × Value → H) :
    ReturnsInHanded {} Tryd.checked os 4 .any (fun w args => (Rows.graphMetricSpec.pre enc Tryd.prog Tryd.f4 [] false w args ∧ laidMetH Tryd.prog Rows.graphMetricRow.laid w) ∧ sizedMet enc Tryd.prog Tryd.f4 (OpenSpec.ofChange Rows.graphMetricSpec) false w args) (Rows.graphMetricSpec.post enc Tryd.prog Tryd.f4 false true false false) := by
  refine law_liftedL (C := Tryd.checked) (tb := 4) Rows.graphMetricRow.laid Tryd.own' started Tryd.laidOut' (by kernel_rfl) Tryd.func4
    (ChangeSpec.witness_shaped (enc := enc) (C := Tryd.checked) (os := os) (X := fun w _ => laidMetH Tryd.prog Rows.graphMetricRow.laid w) false (World.laidAll Tryd.prog os Rows.graphMetricRow.laid) #[.agg #[.slice none 0 0, .slice none 0 0], .slice none 0 0] 8 (World.laidAll_os _ _ _)
      (World.shaped_of_ZipB (by kernel_rfl) (by kernel_rfl)) (by kernel_rfl) (by kernel_rfl) (by kernel_rfl)
      (by rw [MakeChecks.laidMetH_plain _ _ _ (by kernel_rfl)]; exact laidMet_laidAll _ (by kernel_rfl) (by kernel_rfl)))
    (by kernel_rfl) Tryd.underlying4 rfl (fun ds hd => ?_) (by kernel_rfl) (fun _ _ hh h => h.of_heap hh) law_graphMetric
  have hd : ds.length = 2 := hd
  match ds, hd with
  | [d1, d2], _ => exact ⟨rfl, rfl, rfl⟩
theorem graphMetric_holds : Rows.GraphMetricSaid :=
  OpenClaim.holds_of_wide 4 Tryd.f4 rfl rfl rfl rfl rfl rfl rfl ⟨rfl, rfl, rfl, rfl, rfl⟩ rfl rfl rfl rfl rfl (by kernel_rfl) Tryd.func4 (by kernel_rfl)
    (of_decide_eq_true (by kernel_rfl)) (by unfold Func.isWrapper; first | (rw [if_pos (by decide +kernel)]; kernel_rfl) | (rw [if_neg (by decide +kernel)]; exact ⟨rfl, rfl⟩))
    (fun os started H enc _ => lifted_graphMetric os started H enc)
theorem graphMetric_card : Rows.GraphMetricCardSaid :=
  Claim7.holds_tied_plain_at .later [] Rows.graphMetricCard.laidKinds true Rows.graphMetricCard.stood.harness false
    graphMetric_holds (fun _ h => by cases h) (by kernel_rfl) (fun _ h => by cases h) graphMetric_row_tie rfl ⟨rfl, rfl⟩ (by kernel_rfl) rfl
    (fun f fn hf hfn => by
      obtain rfl : f = 4 := Option.some.inj ((show Tryd.prog.funcNamed Rows.graphMetricRow.func = some 4 by kernel_rfl).symm.trans hf) |>.symm
      obtain rfl : fn = Tryd.f4 := (Option.some.inj (Tryd.func4.symm.trans hfn)).symm
      exact ⟨by kernel_rfl, fun j t ht => card_paramsGraphMetric Tryd.f4 (by kernel_rfl) j t ht⟩)
    (by kernel_rfl)
end Go.Proofs.YtchpncmmlhfemaaDoor
