/- Chapter 21: plain law of the search by missing predecessors; Chapter 21: plain law of a walk back along what is missing, and of cycles; Chapter 21: certificate.cycle: what it calls; Chapter 21: certificate.cycle; Chapter 21: lists side by side, and lists of lists; Chapter 21: the search by missing predecessors, step by step; Chapter 21: certificate.Make. Conditions: none. -/
import Derived.Test.YteblljpbnpaplaaMF
namespace Go.Proofs.Yteblljpbnpaplaa
set_option linter.unusedSimpArgs false
set_option linter.unusedVariables false
open Go.RowKit
set_option maxRecDepth 20000

def inD (n : Nat) (d : Dp) : Prop := inN n d.f ∧ inN n d.t
def befL (U : List Dp) (v : Int) : List Int := (U.filter fun d => decide (d.t = v)).map (·.f)
def aftL (U : List Dp) (u : Int) : List Int := (U.filter fun d => decide (d.f = u)).map (·.t)
def cntL (U : List Dp) (P : List Int) (v : Int) : Nat := U.countP fun d => decide (d.t = v) && !decide (d.f ∈ P)
theorem mem_aft {U : List Dp} {u x : Int} : x ∈ aftL U u ↔ ∃ d, d ∈ U ∧ d.f = u ∧ d.t = x := by
  unfold aftL
  simp only [List.mem_map, List.mem_filter, decide_eq_true_eq]
  constructor
  · rintro ⟨d, ⟨h1, h2⟩, h3⟩; exact ⟨d, h1, h2, h3⟩
  · rintro ⟨d, h1, h2, h3⟩; exact ⟨d, ⟨h1, h2⟩, h3⟩
theorem mem_bef {U : List Dp} {v x : Int} : x ∈ befL U v ↔ ∃ d, d ∈ U ∧ d.t = v ∧ d.f = x := by
  unfold befL
  simp only [List.mem_map, List.mem_filter, decide_eq_true_eq]
  constructor
  · rintro ⟨d, ⟨h1, h2⟩, h3⟩; exact ⟨d, h1, h2, h3⟩
  · rintro ⟨d, h1, h2, h3⟩; exact ⟨d, ⟨h1, h2⟩, h3⟩
theorem aft_snoc (U : List Dp) (d : Dp) (u : Int) : aftL (U ++ [d]) u = if d.f = u then aftL U u ++ [d.t] else aftL U u := by
  unfold aftL
  rw [List.filter_append, List.map_append]
  by_cases e : d.f = u
  · rw [if_pos e]; simp [e]
  · rw [if_neg e]; simp [e]
theorem bef_snoc (U : List Dp) (d : Dp) (v : Int) : befL (U ++ [d]) v = if d.t = v then befL U v ++ [d.f] else befL U v := by
  unfold befL
  rw [List.filter_append, List.map_append]
  by_cases e : d.t = v
  · rw [if_pos e]; simp [e]
  · rw [if_neg e]; simp [e]
theorem aft_len (U : List Dp) (u : Int) : (aftL U u).length ≤ U.length := by
  unfold aftL; rw [List.length_map]; exact List.length_filter_le _ _
theorem bef_len (U : List Dp) (u : Int) : (befL U u).length ≤ U.length := by
  unfold befL; rw [List.length_map]; exact List.length_filter_le _ _
theorem cnt_bef (U : List Dp) (v : Int) : cntL U [] v = (befL U v).length := by
  unfold cntL befL
  rw [List.length_map, List.countP_eq_length_filter]
  congr 1
  congr 1
  funext d
  simp
theorem cnt_next (U : List Dp) (P : List Int) (c v : Int) (hc : c ∉ P) : cntL U (P ++ [c]) v + (aftL U c).count v = cntL U P v := by
  unfold cntL aftL
  induction U with
  | nil => rfl
  | cons d r ih =>
    rw [List.countP_cons, List.countP_cons]
    by_cases e : d.f = c
    · rw [List.filter_cons_of_pos (by simpa using e), List.map_cons, List.count_cons]
      have h1 : (decide (d.t = v) && !decide (d.f ∈ P ++ [c])) = false := by simp [e]
      have h2 : (decide (d.t = v) && !decide (d.f ∈ P)) = decide (d.t = v) := by simp [e, hc]
      rw [h1, h2]
      have h3 : (d.t == v) = decide (d.t = v) := by
        by_cases q : d.t = v <;> simp [q]
      rw [h3, ← ih]
      simp
      omega
    · rw [List.filter_cons_of_neg (by simpa using e)]
      have h1 : (decide (d.t = v) && !decide (d.f ∈ P ++ [c])) = (decide (d.t = v) && !decide (d.f ∈ P)) := by simp [e]
      rw [h1, ← ih]
      omega
theorem cnt_pos {U : List Dp} {P : List Int} {v : Int} : 0 < cntL U P v ↔ ∃ d, d ∈ U ∧ d.t = v ∧ d.f ∉ P := by
  unfold cntL
  rw [List.countP_pos_iff]
  constructor
  · rintro ⟨d, h1, h2⟩; simp at h2; exact ⟨d, h1, h2.1, h2.2⟩
  · rintro ⟨d, h1, h2, h3⟩; exact ⟨d, h1, by simp [h2, h3]⟩
theorem cnt_le (U : List Dp) (P : List Int) (v : Int) : cntL U P v ≤ U.length := List.countP_le_length
theorem cnt_aft {U : List Dp} {P : List Int} {c : Int} (hc : c ∉ P) (v : Int) : (aftL U c).count v ≤ cntL U P v := by
  have := cnt_next U P c v hc; omega

theorem lvl_setE {l : List Int} {x y : Int} {a : Int} (hx : inN l.length x) (hy : 0 ≤ y) : lvl (l.set x.toNat a) y = if y = x then a else lvl l y := by
  unfold inN at hx
  unfold lvl
  rw [List.getD_eq_getElem?_getD, List.getElem?_set]
  by_cases e : y = x
  · subst e
    rw [if_pos rfl, if_pos rfl, if_pos (by omega)]; rfl
  · rw [if_neg e, if_neg (by omega), ← List.getD_eq_getElem?_getD]

structure KI (n b : Nat) (U : List Dp) (P : List Int) (c : Int) (k : Nat) (Q M R : List Int) : Prop where
  mlen : M.length = n
  rlen : R.length = n
  qin : ∀ x, x ∈ Q → inN n x
  qnd : Q.Nodup
  mis : ∀ v, inN n v → lvl M v = (cntL U P v : Int) - (((aftL U c).take k).count v : Nat)
  que : ∀ v, inN n v → (v ∈ Q ↔ lvl M v = 0)
  rge : ∀ v, inN n v → 0 ≤ lvl R v ∧ lvl R v ≤ b
  rto : ∀ d, d ∈ U → (d.f ∈ P ∨ (d.f = c ∧ d.t ∈ (aftL U c).take k)) → lvl R d.f < lvl R d.t
  rfr : ∀ v, inN n v → 0 < lvl R v → ∃ d, d ∈ U ∧ d.t = v ∧ (d.f ∈ P ∨ d.f = c) ∧ lvl R v = lvl R d.f + 1

theorem count_take_le {l : List Int} {k : Nat} {v : Int} : (l.take k).count v ≤ l.count v := List.Sublist.count_le _ (List.take_sublist _ _)
theorem ki_start {n : Nat} {U : List Dp} {Q M : List Int} (c : Int) (hm : M.length = n) (hmis : ∀ v, inN n v → lvl M v = (befL U v).length) (hq : ∀ x, x ∈ Q → inN n x) (hnd : Q.Nodup) (hque : ∀ v, inN n v → (v ∈ Q ↔ lvl M v = 0)) :
    KI n 0 U [] c 0 Q M (List.replicate n 0) := by
  have h0 : ∀ v, lvl (List.replicate n 0) v = 0 := fun v => by
    unfold lvl
    rw [List.getD_eq_getElem?_getD, List.getElem?_replicate]
    split <;> rfl
  refine ⟨hm, by simp, hq, hnd, fun v hv => ?_, hque, fun v hv => ?_, fun d hd h => ?_, fun v hv h => ?_⟩
  · rw [hmis v hv, cnt_bef]; simp
  · rw [h0]; exact ⟨Int.le_refl _, Int.le_refl _⟩
  · simp at h
  · rw [h0] at h; omega
theorem ki_le {n b b' : Nat} {U : List Dp} {P : List Int} {c : Int} {k : Nat} {Q M R : List Int} (h : KI n b U P c k Q M R) (hb : b ≤ b') : KI n b' U P c k Q M R :=
  ⟨h.mlen, h.rlen, h.qin, h.qnd, h.mis, h.que, fun v hv => by have := h.rge v hv; omega, h.rto, h.rfr⟩
theorem ki_more {n b : Nat} {U : List Dp} {P : List Int} {c : Int} {k : Nat} {Q M R : List Int} (h : KI n b U P c k Q M R) (hU : ∀ d, d ∈ U → inD n d) (hcP : c ∉ P) (hk : k < (aftL U c).length) :
    inN n ((aftL U c).getD k 0) ∧ 1 ≤ lvl M ((aftL U c).getD k 0) ∧ (aftL U c).getD k 0 ∉ Q := by
  have hg : (aftL U c).getD k 0 = (aftL U c)[k] := by rw [List.getD_eq_getElem?_getD, List.getElem?_eq_getElem hk]; rfl
  rw [hg]
  have hmem : (aftL U c)[k] ∈ aftL U c := List.getElem_mem hk
  obtain ⟨d, hd, _, hdt⟩ := mem_aft.1 hmem
  have hin : inN n (aftL U c)[k] := by rw [← hdt]; exact (hU d hd).2
  have h1 := h.mis _ hin
  have h2 := cnt_aft (U := U) hcP (aftL U c)[k]
  have h3 : ((aftL U c).take k).count (aftL U c)[k] + 1 ≤ (aftL U c).count (aftL U c)[k] := by
    have e : ((aftL U c).take (k + 1)).count (aftL U c)[k] ≤ (aftL U c).count (aftL U c)[k] := count_take_le
    rw [List.take_succ_eq_append_getElem hk, List.count_append, List.count_singleton_self] at e
    exact e
  have hm : 1 ≤ lvl M (aftL U c)[k] := by omega
  exact ⟨hin, hm, fun hq => by have := (h.que _ hin).1 hq; omega⟩
theorem ki_step {n b : Nat} {U : List Dp} {P : List Int} {c : Int} {k : Nat} {Q M R : List Int} (h : KI n b U P c k Q M R) (hU : ∀ d, d ∈ U → inD n d) (hcQ : c ∈ Q) (hcP : c ∉ P) (hPQ : ∀ x, x ∈ P → x ∈ Q) (hk : k < (aftL U c).length) {t : Int} (ht : (aftL U c).getD k 0 = t) (hb : lvl R c + 1 ≤ b) {W : Int} (hW : W = if lvl R t < lvl R c + 1 then lvl R c + 1 else lvl R t) :
    KI n b U P c (k + 1) (if lvl M t - 1 = 0 then Q ++ [t] else Q) (M.set t.toNat (lvl M t - 1)) (R.set t.toNat W) := by
  have hW1 : lvl R c + 1 ≤ W ∧ lvl R t ≤ W ∧ (W = lvl R c + 1 ∨ W = lvl R t) := by rw [hW]; split <;> omega
  clear hW
  obtain ⟨hin, hm, hnq⟩ := ki_more h hU hcP hk
  rw [ht] at hin hm hnq
  have hg : (aftL U c)[k] = t := by rw [← ht, List.getD_eq_getElem?_getD, List.getElem?_eq_getElem hk]; rfl
  have htk : (aftL U c).take (k + 1) = (aftL U c).take k ++ [t] := by rw [List.take_succ_eq_append_getElem hk, hg]
  have hinM : inN M.length t := by rw [h.mlen]; exact hin
  have hinR : inN R.length t := by rw [h.rlen]; exact hin
  have lm : ∀ y, inN n y → lvl (M.set t.toNat (lvl M t - 1)) y = if y = t then lvl M t - 1 else lvl M y := fun y hy => lvl_setE hinM hy.1
  have lr : ∀ y, inN n y → lvl (R.set t.toNat W) y = if y = t then W else lvl R y := fun y hy => lvl_setE hinR hy.1
  have hct : c ≠ t := fun e => hnq (e ▸ hcQ)
  have hPt : ∀ x, x ∈ P → x ≠ t := fun x hx e => hnq (e ▸ hPQ x hx)
  have hcn := h.qin c hcQ
  have hmt : t ∈ aftL U c := by rw [← hg]; exact List.getElem_mem hk
  obtain ⟨dt, hdt, hdf, hdtt⟩ := mem_aft.1 hmt
  refine ⟨by rw [List.length_set]; exact h.mlen, by rw [List.length_set]; exact h.rlen, fun x hx => ?_, ?_, fun v hv => ?_, fun v hv => ?_, fun v hv => ?_, fun d hd hx => ?_, fun v hv h0 => ?_⟩
  · split at hx
    · rcases List.mem_append.1 hx with hx | hx
      · exact h.qin x hx
      · simp at hx; rw [hx]; exact hin
    · exact h.qin x hx
  · split
    · exact List.nodup_append.2 ⟨h.qnd, by simp, fun a ha b hb e => by simp at hb; subst hb; subst e; exact hnq ha⟩
    · exact h.qnd
  · rw [lm v hv, htk, List.count_append, h.mis v hv]
    by_cases e : v = t
    · subst e
      rw [if_pos rfl, List.count_singleton_self, h.mis v hv]; omega
    · rw [if_neg e, List.count_singleton, if_neg (by simpa using fun h => e h.symm)]; omega
  · rw [lm v hv]
    by_cases e : v = t
    · subst e
      rw [if_pos rfl]
      by_cases e0 : lvl M v - 1 = 0
      · rw [if_pos e0]; simp [e0]
      · rw [if_neg e0]; exact ⟨fun hx => absurd hx hnq, fun hx => absurd hx e0⟩
    · rw [if_neg e, ← h.que v hv]
      split
      · simp [e]
      · rfl
  · rw [lr v hv]
    have h1 := h.rge v hv
    have h2 := h.rge c hcn
    by_cases e : v = t
    · subst e
      rw [if_pos rfl]
      omega
    · rw [if_neg e]; exact h1
  · have hdin := hU d hd
    have hft : d.f ≠ t := by
      rcases hx with hx | ⟨hx, _⟩
      · exact hPt _ hx
      · rw [hx]; exact hct
    rw [lr d.f hdin.1, lr d.t hdin.2, if_neg hft]
    by_cases e : d.t = t
    · rw [if_pos e]
      rcases hx with hx | ⟨hx, _⟩
      · have := h.rto d hd (.inl hx)
        rw [e] at this
        omega
      · rw [hx]; omega
    · rw [if_neg e]
      rcases hx with hx | ⟨hx, hx2⟩
      · exact h.rto d hd (.inl hx)
      · rw [htk] at hx2
        rcases List.mem_append.1 hx2 with hx2 | hx2
        · exact h.rto d hd (.inr ⟨hx, hx2⟩)
        · simp at hx2; exact absurd hx2 e
  · rw [lr v hv] at h0
    rw [lr v hv]
    have old : 0 < lvl R v → (∃ d, d ∈ U ∧ d.t = v ∧ (d.f ∈ P ∨ d.f = c) ∧ lvl R v = lvl (R.set t.toNat W) d.f + 1) := fun h0 => by
      obtain ⟨d, h1, h2, h3, h4⟩ := h.rfr v hv h0
      refine ⟨d, h1, h2, h3, ?_⟩
      have hft : d.f ≠ t := by
        rcases h3 with hx | hx
        · exact hPt _ hx
        · rw [hx]; exact hct
      rw [lr d.f (hU d h1).1, if_neg hft]; exact h4
    by_cases e : v = t
    · subst e
      rw [if_pos rfl] at h0 ⊢
      rcases hW1.2.2 with hgt | hgt
      · rw [hgt]
        refine ⟨dt, hdt, hdtt, .inr hdf, ?_⟩
        rw [← hgt, lr dt.f (hU dt hdt).1, if_neg (by rw [hdf]; exact hct), hdf, hgt]
      · have h1 := old (by rw [← hgt]; exact h0)
        rw [← hgt] at h1
        exact h1
    · rw [if_neg e] at h0 ⊢
      exact old h0
theorem ki_done {n b : Nat} {U : List Dp} {P : List Int} {c : Int} {k : Nat} {Q M R : List Int} (h : KI n b U P c k Q M R) (hcP : c ∉ P) (hk : k = (aftL U c).length) (c' : Int) : KI n b U (P ++ [c]) c' 0 Q M R := by
  subst hk
  have ht : (aftL U c).take (aftL U c).length = aftL U c := List.take_length
  refine ⟨h.mlen, h.rlen, h.qin, h.qnd, fun v hv => ?_, h.que, h.rge, fun d hd hx => ?_, fun v hv h0 => ?_⟩
  · have h1 := h.mis v hv
    have h2 := cnt_next U P c v hcP
    rw [ht] at h1
    rw [h1]
    simp
    omega
  · refine h.rto d hd ?_
    rw [ht]
    rcases hx with hx | ⟨_, hx⟩
    · rcases List.mem_append.1 hx with hx | hx
      · exact .inl hx
      · simp at hx; exact .inr ⟨hx, mem_aft.2 ⟨d, hd, hx, rfl⟩⟩
    · simp at hx
  · obtain ⟨d, h1, h2, h3, h4⟩ := h.rfr v hv h0
    refine ⟨d, h1, h2, .inl ?_, h4⟩
    rcases h3 with h3 | h3
    · exact List.mem_append_left _ h3
    · rw [h3]; exact List.mem_append_right _ (by simp)
theorem nodup_sub {α : Type} [DecidableEq α] : ∀ {Q L : List α}, Q.Nodup → (∀ x, x ∈ Q → x ∈ L) → Q.length ≤ L.length
  | [], _, _, _ => Nat.zero_le _
  | x :: r, L, hn, hs => by
    have hx : x ∈ L := hs x (by simp)
    have := nodup_sub (Q := r) (L := L.erase x) (List.nodup_cons.1 hn).2 fun y hy => (List.mem_erase_of_ne (show y ≠ x from fun e => (List.nodup_cons.1 hn).1 (by rw [← e]; exact hy))).2 (hs y (List.mem_cons_of_mem _ hy))
    rw [List.length_erase_of_mem hx] at this
    have h0 := List.length_pos_of_mem hx
    rw [List.length_cons]; omega
theorem nodup_le {Q : List Int} {n : Nat} (hn : Q.Nodup) (hq : ∀ x, x ∈ Q → inN n x) : Q.length ≤ n := by
  have h1 : ∀ x, x ∈ Q → x ∈ (List.range n).map fun i : Nat => (i : Int) := fun x hx => by
    have := hq x hx
    unfold inN at this
    exact List.mem_map.2 ⟨x.toNat, List.mem_range.2 (by omega), by omega⟩
  have := nodup_sub hn h1
  simpa using this
theorem nodup_full {Q : List Int} {n : Nat} (hn : Q.Nodup) (hq : ∀ x, x ∈ Q → inN n x) (hl : n ≤ Q.length) {x : Int} (hx : inN n x) : x ∈ Q := by
  by_cases h : x ∈ Q
  · exact h
  · have := nodup_le (n := n) (Q := x :: Q) (List.nodup_cons.2 ⟨h, hn⟩) (fun y hy => by
      rcases List.mem_cons.1 hy with rfl | hy
      · exact hx
      · exact hq y hy)
    simp at this; omega
structure RankOk (n : Nat) (l : List Dp) (R : List Int) : Prop where
  len : R.length = n
  ge : ∀ v, inN n v → 0 ≤ lvl R v ∧ lvl R v ≤ n
  lt : ∀ d, d ∈ l → inD n d ∧ lvl R d.f < lvl R d.t
  fr : ∀ v, inN n v → 0 < lvl R v → ∃ d, d ∈ l ∧ d.t = v ∧ lvl R v = lvl R d.f + 1
theorem ki_ranks {n b : Nat} {U : List Dp} {c : Int} {Q M R : List Int} (h : KI n b U Q c 0 Q M R) (hU : ∀ d, d ∈ U → inD n d) (hl : Q.length = n) (hb : b ≤ n) : RankOk n U R := by
  refine ⟨h.rlen, fun v hv => by have := h.rge v hv; omega, fun d hd => ⟨hU d hd, h.rto d hd (.inl ?_)⟩, fun v hv h0 => ?_⟩
  · exact nodup_full h.qnd h.qin (by omega) (hU d hd).1
  · obtain ⟨d, h1, h2, _, h4⟩ := h.rfr v hv h0
    exact ⟨d, h1, h2, h4⟩
theorem ki_waits {n b : Nat} {U : List Dp} {c : Int} {Q M R : List Int} (h : KI n b U Q c 0 Q M R) (hU : ∀ d, d ∈ U → inD n d) :
    (∀ v, inN n v → 0 ≤ lvl M v ∧ lvl M v ≤ U.length) ∧ (∀ v, inN n v → 0 < lvl M v → ∃ x, x ∈ befL U v ∧ inN n x ∧ 0 < lvl M x) ∧ (Q.length < n → ∃ v, inN n v ∧ 0 < lvl M v) := by
  have hm : ∀ v, inN n v → lvl M v = cntL U Q v := fun v hv => by have := h.mis v hv; simpa using this
  refine ⟨fun v hv => ?_, fun v hv h0 => ?_, fun hl => ?_⟩
  · rw [hm v hv]; have := cnt_le U Q v; omega
  · rw [hm v hv] at h0
    obtain ⟨d, h1, h2, h3⟩ := cnt_pos.1 (show 0 < cntL U Q v by omega)
    have hf := (hU d h1).1
    refine ⟨d.f, mem_bef.2 ⟨d, h1, h2, rfl⟩, hf, ?_⟩
    have h4 : lvl M d.f ≠ 0 := fun e => h3 ((h.que _ hf).2 e)
    have h5 := hm _ hf
    omega
  · have : ∃ v, inN n v ∧ v ∉ Q := by
      refine Classical.byContradiction fun hx => ?_
      have this2 : ∀ v, inN n v → v ∈ Q := fun v hv => Classical.byContradiction fun hq => hx ⟨v, hv, hq⟩
      have h2 : ∀ x, x ∈ ((List.range n).map fun i : Nat => (i : Int)) → x ∈ Q := fun x hx => by
        obtain ⟨i, hi, rfl⟩ := List.mem_map.1 hx
        have := List.mem_range.1 hi
        exact this2 (i : Int) ⟨by omega, by omega⟩
      have h3 : ((List.range n).map fun i : Nat => (i : Int)).Nodup := List.Pairwise.map _ (fun a b hab e => hab (by omega)) List.nodup_range
      have := nodup_sub h3 h2
      simp at this; omega
    obtain ⟨v, hv, hq⟩ := this
    refine ⟨v, hv, ?_⟩
    have h4 : lvl M v ≠ 0 := fun e => hq ((h.que _ hv).2 e)
    have h5 := hm _ hv
    omega
end Go.Proofs.Yteblljpbnpaplaa
namespace Go.Proofs.Yteblljpbnpaplaa
set_option linter.unusedSectionVars false
variable [DrawFlag]
set_option linter.unusedSimpArgs false
set_option linter.unusedVariables false
open Go.RowKit
set_option maxRecDepth 20000

theorem getD_appL {l q : List Int} {j : Nat} (h : j < l.length) : (l ++ q).getD j 0 = l.getD j 0 := by
  rw [List.getD_eq_getElem?_getD, List.getElem?_append_left h, ← List.getD_eq_getElem?_getD]
theorem getD_appM (l : List Int) (a : Int) : (l ++ [a]).getD l.length 0 = a := by
  rw [List.getD_eq_getElem?_getD, List.getElem?_append_right (Nat.le_refl _), Nat.sub_self]; rfl
theorem fidx_spec (b : Int → Bool) : ∀ (q : List Int) (i : Int), (∃ x, x ∈ q ∧ b x = true) → i ≤ fidx b q i ∧ fidx b q i < i + q.length ∧ b (q.getD (fidx b q i - i).toNat 0) = true ∧ q.getD (fidx b q i - i).toNat 0 ∈ q
  | [], i, ⟨x, h, _⟩ => by simp at h
  | y :: r, i, ⟨x, h, hb⟩ => by
    rw [fidx_cons]
    by_cases e : b y = true
    · rw [if_pos e]
      refine ⟨Int.le_refl _, by simp; omega, ?_, ?_⟩
      · rw [show (i - i).toNat = 0 by omega]; exact e
      · rw [show (i - i).toNat = 0 by omega]; simp
    · rw [if_neg e]
      have hx : x ∈ r := by
        rcases List.mem_cons.1 h with rfl | h
        · exact absurd hb e
        · exact h
      obtain ⟨h1, h2, h3, h4⟩ := fidx_spec b r (i + 1) ⟨x, hx, hb⟩
      rw [show (fidx b r (i + 1) - i).toNat = (fidx b r (i + 1) - (i + 1)).toNat + 1 by omega]
      refine ⟨by omega, by simp; omega, by simpa using h3, by simpa using Or.inr h4⟩
def wtB (M : List Int) (x : Int) : Bool := decide (lvl M x > 0)
def prvE (U : List Dp) (M : List Int) (a : Int) : Int := (befL U a).getD (fidx (wtB M) (befL U a) 0).toNat 0
structure WK (n : Nat) (U : List Dp) (M : List Int) (P : List Int) (a : Int) : Prop where
  pin : ∀ x, x ∈ P → inN n x
  ain : inN n a
  pos : 0 < lvl M a
  nd : P.Nodup
  ste : ∀ j, j + 1 < P.length → P.getD (j + 1) 0 ∈ befL U (P.getD j 0)
  lst : 0 < P.length → a ∈ befL U (P.getD (P.length - 1) 0)
theorem prv_spec {n : Nat} {U : List Dp} {M : List Int} {a : Int} (hw : ∀ v, inN n v → 0 < lvl M v → ∃ x, x ∈ befL U v ∧ inN n x ∧ 0 < lvl M x) (ha : inN n a) (hp : 0 < lvl M a) :
    0 ≤ fidx (wtB M) (befL U a) 0 ∧ fidx (wtB M) (befL U a) 0 < (befL U a).length ∧ 0 < lvl M (prvE U M a) ∧ prvE U M a ∈ befL U a := by
  obtain ⟨x, h1, _, h3⟩ := hw a ha hp
  obtain ⟨g1, g2, g3, g4⟩ := fidx_spec (wtB M) (befL U a) 0 ⟨x, h1, decide_eq_true h3⟩
  rw [Int.sub_zero] at g3 g4
  exact ⟨g1, by omega, of_decide_eq_true g3, g4⟩
theorem wk_step {n : Nat} {U : List Dp} {M P : List Int} {a : Int} (hU : ∀ d, d ∈ U → inD n d) (hw : ∀ v, inN n v → 0 < lvl M v → ∃ x, x ∈ befL U v ∧ inN n x ∧ 0 < lvl M x) (h : WK n U M P a) (hn : a ∉ P) : WK n U M (P ++ [a]) (prvE U M a) := by
  obtain ⟨_, _, h3, h4⟩ := prv_spec hw h.ain h.pos
  obtain ⟨d, hd, _, hdf⟩ := mem_bef.1 h4
  refine ⟨fun x hx => ?_, by rw [← hdf]; exact (hU d hd).1, h3, ?_, fun j hj => ?_, fun _ => ?_⟩
  · rcases List.mem_append.1 hx with hx | hx
    · exact h.pin x hx
    · simp at hx; rw [hx]; exact h.ain
  · exact List.nodup_append.2 ⟨h.nd, by simp, fun x hx y hy e => by simp at hy; subst hy; subst e; exact hn hx⟩
  · rw [List.length_append, List.length_singleton] at hj
    rw [getD_appL (j := j) (by omega)]
    by_cases e : j + 1 = P.length
    · rw [e, getD_appM]
      have := h.lst (by omega)
      rw [← e, Nat.add_sub_cancel] at this
      exact this
    · rw [getD_appL (by omega)]
      exact h.ste j (by omega)
  · rw [List.length_append, List.length_singleton, Nat.add_sub_cancel, getD_appM]
    exact h4
def cycOk (l : List Dp) (c : List Int) : Prop := c ≠ [] ∧ c.Nodup ∧ ∀ i, i < c.length → ∃ d, d ∈ l ∧ d.f = c.getD i 0 ∧ d.t = c.getD ((i + 1) % c.length) 0
theorem getD_rev {l : List Int} {i : Nat} (h : i < l.length) : l.reverse.getD i 0 = l.getD (l.length - 1 - i) 0 := by
  rw [List.getD_eq_getElem?_getD, List.getElem?_reverse h, ← List.getD_eq_getElem?_getD]
theorem getD_drop {l : List Int} {i k : Nat} : (l.drop k).getD i 0 = l.getD (k + i) 0 := by
  rw [List.getD_eq_getElem?_getD, List.getElem?_drop, ← List.getD_eq_getElem?_getD]
theorem wk_cyc {n : Nat} {U : List Dp} {M P : List Int} {a : Int} (h : WK n U M P a) {k : Nat} (hk : k < P.length) (hak : P.getD k 0 = a) : cycOk U (P.drop k).reverse := by
  have hl : (P.drop k).length = P.length - k := List.length_drop
  have hlr : (P.drop k).reverse.length = P.length - k := by rw [List.length_reverse, hl]
  refine ⟨fun e => by rw [e] at hlr; simp at hlr; omega, ?_, fun i hi => ?_⟩
  · exact (List.reverse_perm _).nodup_iff.2 (List.Sublist.nodup (List.drop_sublist k P) h.nd)
  · rw [hlr] at hi ⊢
    have g : ∀ i, i < P.length - k → (P.drop k).reverse.getD i 0 = P.getD (P.length - 1 - i) 0 := fun i hi => by
      rw [getD_rev (by omega), getD_drop, hl]; congr 1; omega
    rw [g i hi]
    by_cases e : i + 1 = P.length - k
    · rw [e, Nat.mod_self, g 0 (by omega)]
      obtain ⟨d, h1, h2, h3⟩ := mem_bef.1 (h.lst (by omega))
      refine ⟨d, h1, ?_, by rw [h2, Nat.sub_zero]⟩
      rw [h3, ← hak]; congr 1; omega
    · rw [Nat.mod_eq_of_lt (by omega), g (i + 1) (by omega)]
      have := h.ste (P.length - 1 - (i + 1)) (by omega)
      rw [show P.length - 1 - (i + 1) + 1 = P.length - 1 - i by omega] at this
      obtain ⟨d, h1, h2, h3⟩ := mem_bef.1 this
      exact ⟨d, h1, h3, h2⟩
theorem cyc_mem {l l' : List Dp} {c : List Int} (h : cycOk l c) (hs : ∀ d, d ∈ l → d ∈ l') : cycOk l' c :=
  ⟨h.1, h.2.1, fun i hi => let ⟨d, h1, h2⟩ := h.2.2 i hi; ⟨d, hs d h1, h2⟩⟩
theorem cyc_no {l : List Dp} {c : List Int} (h : cycOk l c) (r : Int → Int) (hr : ∀ d, d ∈ l → r d.f < r d.t) : False := by
  have hl : 0 < c.length := List.length_pos_iff.2 h.1
  have key : ∀ i, i < c.length → r (c.getD 0 0) + i ≤ r (c.getD i 0) := by
    intro i
    induction i with
    | zero => intro _; simp
    | succ i ih =>
      intro hi
      obtain ⟨d, h1, h2, h3⟩ := h.2.2 i (by omega)
      have := ih (by omega)
      have h4 := hr d h1
      rw [h2, h3, Nat.mod_eq_of_lt hi] at h4
      omega
  obtain ⟨d, h1, h2, h3⟩ := h.2.2 (c.length - 1) (by omega)
  have h4 := hr d h1
  rw [h2, h3, show c.length - 1 + 1 = c.length by omega, Nat.mod_self] at h4
  have := key (c.length - 1) (by omega)
  omega
theorem cyc_len {l : List Dp} {n : Nat} {c : List Int} (h : cycOk l c) (hl : ∀ d, d ∈ l → inD n d) : c.length ≤ n := by
  refine nodup_le h.2.1 fun x hx => ?_
  obtain ⟨i, hi, rfl⟩ := List.getElem_of_mem hx
  obtain ⟨d, h1, h2, _⟩ := h.2.2 i hi
  rw [List.getD_eq_getElem?_getD, List.getElem?_eq_getElem hi] at h2
  have := (hl d h1).1
  rw [h2] at this; exact this
end Go.Proofs.Yteblljpbnpaplaa
namespace Go.Proofs.Yteblljpbnpaplaa
set_option linter.unusedSectionVars false
variable [DrawFlag]
set_option linter.unusedSimpArgs false
set_option linter.unusedVariables false
open Go.RowKit
set_option maxRecDepth 20000

def keyI (x : Int) : Value := .int .i64 x
theorem keyI_inj : ∀ x y : Int, keyI x = keyI y → x = y := fun x y h => by injection h
theorem keysI_ok {l : List Int} {x : Int} (h : ∀ y, y ∈ l → In64 y) (hx : In64 x) : keysOk Try.prog 3 (setM keyI l) (keyI x) :=
  keys_setM fun y hy => key_int (by kernel_rfl) (by
    rcases List.mem_cons.1 hy with rfl | hy
    · exact hx
    · exact h y hy)
def bfF (U : List Dp) (i : Nat) : List LV := [.rsl 1 (befL U (i : Int)).length (intsF (befL U (i : Int)))]
theorem ev_waits (M : List Int) (c : Int) (hc : inN M.length c) : Ev Try.prog 50 [.sc (.int .i64 c), .rptr [intsV M]] (.sc (.bool (wtB M c))) := by
  obtain ⟨h1, h2⟩ := hc
  unfold intsV
  refine ev_fn Try.func50 comp50 (show 2 ≤ Try.f50.ntmps by decide) ?_; unfold cf50 rf50; simp only [↓EVP0, EVQ0, EVQ1, EVQ2, EVQ3, EVQ4, EVA, EVK, EVF, ↓reduceIte, Nat.reduceEqDiff, Nat.reduceAdd, Nat.reduceSub, Nat.reduceMul, Nat.reduceLT, Nat.reduceLeDiff, reduceCtorEq, Int.reduceToNat, Int.reduceLT, Int.reduceLE, Int.reduceAdd, Int.reduceSub, Int.reduceMul, Int.reduceNeg, Int.reduceEq, Nat.reduceMod, forall_eq_or_imp, forall_eq, forall_const, cond_true, cond_false, decide_true, decide_false, true_imp_iff, implies_true, Int.cast_ofNat_Int, forall_eq']
  exact ⟨⟨h1, h2⟩, rfl⟩
theorem ev_posI (x : Int) : Ev Try.prog 52 [.sc (.int .i64 x)] (.sc (.bool (decide (0 < x)))) := by
  refine ev_fn Try.func52 comp52 (show 1 ≤ Try.f52.ntmps by decide) ?_; unfold cf52 rf52; simp only [↓EVP0, EVQ0, EVQ1, EVQ2, EVQ3, EVQ4, EVA, EVK, EVF, ↓reduceIte, Nat.reduceEqDiff, Nat.reduceAdd, Nat.reduceSub, Nat.reduceMul, Nat.reduceLT, Nat.reduceLeDiff, reduceCtorEq, Int.reduceToNat, Int.reduceLT, Int.reduceLE, Int.reduceAdd, Int.reduceSub, Int.reduceMul, Int.reduceNeg, Int.reduceEq, Nat.reduceMod, forall_eq_or_imp, forall_eq, forall_const, cond_true, cond_false, decide_true, decide_false, true_imp_iff, implies_true, Int.cast_ofNat_Int, forall_eq']
theorem ev_indexI (q : List Int) (hl : q.length ≤ 1000) (x : Int) : Ev Try.prog 55 [intsV q, .sc (.int .i64 x)] (.sc (.int .i64 (fidx (fun y => decide (x = y)) q 0))) := by
  unfold intsV
  refine ev_fn Try.func55 comp55 (show 2 ≤ Try.f55.ntmps by decide) ?_; unfold cf55 rf55; simp only [↓EVP0, EVQ0, EVQ1, EVQ2, EVQ3, EVQ4, EVA, EVK, EVF, ↓reduceIte, Nat.reduceEqDiff, Nat.reduceAdd, Nat.reduceSub, Nat.reduceMul, Nat.reduceLT, Nat.reduceLeDiff, reduceCtorEq, Int.reduceToNat, Int.reduceLT, Int.reduceLE, Int.reduceAdd, Int.reduceSub, Int.reduceMul, Int.reduceNeg, Int.reduceEq, Nat.reduceMod, forall_eq_or_imp, forall_eq, forall_const, cond_true, cond_false, decide_true, decide_false, true_imp_iff, implies_true, Int.cast_ofNat_Int, forall_eq']
  intro _
  refine lwp_for (α := Unit) q.length (fun i _ => fidx (fun y => decide (x = y)) q 0 = fidx (fun y => decide (x = y)) (q.drop i) i) (fun i _ => [(0, .rsl 1 q.length (intsF q)), (1, .sc (.int .i64 x)), (7, .sc (.int .i64 q.length)), (8, .sc (.int .i64 i))]) (fun _ _ => []) () rfl ?_ (fun _ _ => Nat.zero_le _) ?_
  · simp only [↓EVP0, EVQ0, EVQ1, EVQ2, EVQ3, EVQ4, EVA, EVK, EVF, ↓reduceIte, Nat.reduceEqDiff, Nat.reduceAdd, Nat.reduceSub, Nat.reduceMul, Nat.reduceLT, Nat.reduceLeDiff, reduceCtorEq, Int.reduceToNat, Int.reduceLT, Int.reduceLE, Int.reduceAdd, Int.reduceSub, Int.reduceMul, Int.reduceNeg, Int.reduceEq, Nat.reduceMod, forall_eq_or_imp, forall_eq, forall_const, cond_true, cond_false, decide_true, decide_false, true_imp_iff, implies_true, Int.cast_ofNat_Int, forall_eq']
  intro i _ hi hx
  unfold lb55_0
  simp only [↓EVP0, EVQ0, EVQ1, EVQ2, EVQ3, EVQ4, EVA, EVK, EVF, ↓reduceIte, Nat.reduceEqDiff, Nat.reduceAdd, Nat.reduceSub, Nat.reduceMul, Nat.reduceLT, Nat.reduceLeDiff, reduceCtorEq, Int.reduceToNat, Int.reduceLT, Int.reduceLE, Int.reduceAdd, Int.reduceSub, Int.reduceMul, Int.reduceNeg, Int.reduceEq, Nat.reduceMod, forall_eq_or_imp, forall_eq, forall_const, cond_true, cond_false, decide_true, decide_false, true_imp_iff, implies_true, Int.cast_ofNat_Int, forall_eq']
  refine ⟨fun hg => ?_, fun hg => ?_⟩
  · have hi2 : i < q.length := by have := of_decide_eq_true hg; omega
    rw [drop_getG 0 hi2, fidx_cons] at hx
    refine ⟨⟨by omega, by omega⟩, fun h => ?_, fun h => ⟨by unfold In64; omega, hi2, (), ?_⟩⟩
    · rw [if_pos h] at hx; rw [hx]
    · rw [if_neg (by rw [h]; simp)] at hx; rw [hx]
  · have hii : i = q.length := by have := of_decide_eq_false hg; omega
    rw [hx, hii, List.drop_length]; rfl
def cyH (U : List Dp) (n : Nat) (M P : List Int) (a : Int) : List (Nat × LO) :=
  [(0, .box [.rsl 1 n (bfF U)]), (0, .box [.rsl 1 M.length (intsF M)]), (0, .box [.fn 50 [.ptr 1 0 0 0 0]]), (0, .box [.sc (.int .i64 a)]), (0, .box [if P = [] then .nsl else .sl 8 (P.length - 1) 1 0 P.length]), (0, .map (setM keyI P)), (0, .box [.mp 5 0])] ++ if P = [] then [] else [(0, .ints [P.getD 0 0]), (P.length - 1, .ints P)]
theorem mput_new {P : List Int} {a : Int} (h : a ∉ P) : mput (setM keyI P) (.int .i64 a) (.sc (.bool true)) = setM keyI (P ++ [a]) := mput_setM keyI_inj _ _ h
theorem mfind_P (P : List Int) (a : Int) : mfind (setM keyI P) (.int .i64 a) = if a ∈ P then some (.sc (.bool true)) else none := (mfind_setM keyI_inj P a).trans (by by_cases h : a ∈ P <;> simp [h])
theorem bfF_at {U : List Dp} {a : Int} (h : 0 ≤ a) : bfF U a.toNat = [.rsl 1 (befL U a).length (intsF (befL U a))] := by
  unfold bfF
  rw [Int.toNat_of_nonneg h]
section
variable {n : Nat} {U : List Dp} {M P : List Int} {a : Int} (hU : ∀ d, d ∈ U → inD n d) (hl : U.length ≤ 1000) (hn : n ≤ 1000) (hM : M.length = n) (hw : ∀ v, inN n v → 0 < lvl M v → ∃ x, x ∈ befL U v ∧ inN n x ∧ 0 < lvl M x)
include hU hl hn hM in
theorem ev_first : Ev Try.prog 51 [intsV (befL U a), .fn 50 [.rptr [intsV M]]] (.sc (.int .i64 (fidx (wtB M) (befL U a) 0))) := by
  have hbl := bef_len U a
  exact ev_indexF (befL U a) (by omega) 50 [.rptr [intsV M]] (by kernel_rfl) ⟨trivial, trivial⟩ (wtB M) (fun x hx => by
    obtain ⟨d, hd, _, hdf⟩ := mem_bef.1 hx
    exact ev_waits M x (by rw [hM, ← hdf]; exact (hU d hd).1))
include hU hl hn hM hw in
theorem lc_follow0 (ha : inN n a) (hp : 0 < lvl M a) :
    LCall Try.prog 53 [.ptr 6 0 0 0 0, .ptr 3 0 0 0 0, .ptr 4 0 0 0 0, .ptr 0 0 0 0 0, .ptr 2 0 0 0 0] (mkH (cyH U n M [] a)) (.sc (.bool true)) (mkH (cyH U n M [a] (prvE U M a))) := by
  obtain ⟨p1, p2, p3, p4⟩ := prv_spec hw ha hp
  have ha2 := ha
  unfold inN at ha2
  have hI := ev_first (a := a) hU hl hn hM
  have hB := bfF_at (U := U) ha2.1
  unfold cyH
  refine lcall_of_lwp Try.func53 comp53 (show 5 ≤ Try.f53.ntmps by decide) (by simp [mkH]) ?_
  unfold cf53 rf53
  simp only [if_true]
  simp only [↓EVP0, EVQ0, EVQ1, EVQ2, EVQ3, EVQ4, EVA, EVK, EVF, ↓reduceIte, Nat.reduceEqDiff, Nat.reduceAdd, Nat.reduceSub, Nat.reduceMul, Nat.reduceLT, Nat.reduceLeDiff, reduceCtorEq, Int.reduceToNat, Int.reduceLT, Int.reduceLE, Int.reduceAdd, Int.reduceSub, Int.reduceMul, Int.reduceNeg, Int.reduceEq, Nat.reduceMod, forall_eq_or_imp, forall_eq, forall_const, cond_true, cond_false, decide_true, decide_false, true_imp_iff, implies_true, Int.cast_ofNat_Int, forall_eq']
  rw [mfind_P, mput_new (by simp), hB]
  simp only [List.not_mem_nil, if_false, Option.getD_none]
  have hk := keysI_ok (l := []) (x := a) (fun y hy => by simp at hy) (by unfold In64; omega)
  simp only [↓EVP0, EVQ0, EVQ1, EVQ2, EVQ3, EVQ4, EVA, EVK, EVF, ↓reduceIte, Nat.reduceEqDiff, Nat.reduceAdd, Nat.reduceSub, Nat.reduceMul, Nat.reduceLT, Nat.reduceLeDiff, reduceCtorEq, Int.reduceToNat, Int.reduceLT, Int.reduceLE, Int.reduceAdd, Int.reduceSub, Int.reduceMul, Int.reduceNeg, Int.reduceEq, Nat.reduceMod, forall_eq_or_imp, forall_eq, forall_const, cond_true, cond_false, decide_true, decide_false, true_imp_iff, implies_true, Int.cast_ofNat_Int, forall_eq']
  refine ⟨hk, hk, by unfold appRoom; omega, ha2, ha2, ?_⟩
  refine qCallK_frzF (al' := [intsV (befL U a), .fn 50 [.rptr [intsV M]]]) hI ⟨roToF_self trivial, ⟨rfl, roTo2_box (by simp [mkH]) rfl ⟨⟨rfl, trivial⟩, trivial⟩, trivial⟩, trivial⟩ trivial ?_
  simp only [hB, ↓EVP0, EVQ0, EVQ1, EVQ2, EVQ3, EVQ4, EVA, EVK, EVF, ↓reduceIte, Nat.reduceEqDiff, Nat.reduceAdd, Nat.reduceSub, Nat.reduceMul, Nat.reduceLT, Nat.reduceLeDiff, reduceCtorEq, Int.reduceToNat, Int.reduceLT, Int.reduceLE, Int.reduceAdd, Int.reduceSub, Int.reduceMul, Int.reduceNeg, Int.reduceEq, Nat.reduceMod, forall_eq_or_imp, forall_eq, forall_const, cond_true, cond_false, decide_true, decide_false, true_imp_iff, implies_true, Int.cast_ofNat_Int, forall_eq']
  unfold fin2
  simp only [↓EVP0, EVQ0, EVQ1, EVQ2, EVQ3, EVQ4, EVA, EVK, EVF, ↓reduceIte, Nat.reduceEqDiff, Nat.reduceAdd, Nat.reduceSub, Nat.reduceMul, Nat.reduceLT, Nat.reduceLeDiff, reduceCtorEq, Int.reduceToNat, Int.reduceLT, Int.reduceLE, Int.reduceAdd, Int.reduceSub, Int.reduceMul, Int.reduceNeg, Int.reduceEq, Nat.reduceMod, forall_eq_or_imp, forall_eq, forall_const, cond_true, cond_false, decide_true, decide_false, true_imp_iff, implies_true, Int.cast_ofNat_Int, forall_eq']
  exact ⟨⟨p1, p2⟩, rfl, allC_setM _ _⟩
include hU hl hn hM hw in
theorem lc_follow1 (hP0 : P ≠ []) (h : WK n U M P a) (haP : a ∉ P) :
    LCall Try.prog 53 [.ptr 6 0 0 0 0, .ptr 3 0 0 0 0, .ptr 4 0 0 0 0, .ptr 0 0 0 0 0, .ptr 2 0 0 0 0] (mkH (cyH U n M P a)) (.sc (.bool true)) (mkH (cyH U n M (P ++ [a]) (prvE U M a))) := by
  have ha := h.ain
  obtain ⟨p1, p2, p3, p4⟩ := prv_spec hw ha h.pos
  have ha2 := ha
  unfold inN at ha2
  have hI := ev_first (a := a) hU hl hn hM
  have hB := bfF_at (U := U) ha2.1
  have hlP := nodup_le h.nd h.pin
  have hl0 : 0 < P.length := List.length_pos_iff.2 hP0
  have hPin : ∀ y, y ∈ P → In64 y := fun y hy => by have := h.pin y hy; unfold inN at this; unfold In64; omega
  have hl1 : (P ++ [a]).length = P.length + 1 := by simp
  have hg0 : (P ++ [a]).getD 0 0 = P.getD 0 0 := getD_appL hl0
  have hne : P ++ [a] ≠ [] := by simp
  unfold cyH
  rw [if_neg hP0, if_neg hP0, if_neg hne, if_neg hne, hl1, hg0, Nat.add_sub_cancel]
  refine lcall_of_lwp Try.func53 comp53 (show 5 ≤ Try.f53.ntmps by decide) (by simp [mkH]) ?_
  unfold cf53 rf53
  simp only [↓EVP0, EVQ0, EVQ1, EVQ2, EVQ3, EVQ4, EVA, EVK, EVF, ↓reduceIte, Nat.reduceEqDiff, Nat.reduceAdd, Nat.reduceSub, Nat.reduceMul, Nat.reduceLT, Nat.reduceLeDiff, reduceCtorEq, Int.reduceToNat, Int.reduceLT, Int.reduceLE, Int.reduceAdd, Int.reduceSub, Int.reduceMul, Int.reduceNeg, Int.reduceEq, Nat.reduceMod, forall_eq_or_imp, forall_eq, forall_const, cond_true, cond_false, decide_true, decide_false, true_imp_iff, implies_true, Int.cast_ofNat_Int, forall_eq']
  rw [mfind_P, mput_new haP, hB, if_neg haP]
  simp only [Option.getD_none]
  have hk := keysI_ok (l := P) (x := a) hPin (by unfold In64; omega)
  simp only [↓EVP0, EVQ0, EVQ1, EVQ2, EVQ3, EVQ4, EVA, EVK, EVF, ↓reduceIte, Nat.reduceEqDiff, Nat.reduceAdd, Nat.reduceSub, Nat.reduceMul, Nat.reduceLT, Nat.reduceLeDiff, reduceCtorEq, Int.reduceToNat, Int.reduceLT, Int.reduceLE, Int.reduceAdd, Int.reduceSub, Int.reduceMul, Int.reduceNeg, Int.reduceEq, Nat.reduceMod, forall_eq_or_imp, forall_eq, forall_const, cond_true, cond_false, decide_true, decide_false, true_imp_iff, implies_true, Int.cast_ofNat_Int, forall_eq']
  refine ⟨hk, hk, by simp, by unfold appRoom; omega, ha2, ha2, ?_⟩
  refine qCallK_frzF (al' := [intsV (befL U a), .fn 50 [.rptr [intsV M]]]) hI ⟨roToF_self trivial, ⟨rfl, roTo2_box (by simp [mkH]) rfl ⟨⟨rfl, trivial⟩, trivial⟩, trivial⟩, trivial⟩ trivial ?_
  simp only [hB, ↓EVP0, EVQ0, EVQ1, EVQ2, EVQ3, EVQ4, EVA, EVK, EVF, ↓reduceIte, Nat.reduceEqDiff, Nat.reduceAdd, Nat.reduceSub, Nat.reduceMul, Nat.reduceLT, Nat.reduceLeDiff, reduceCtorEq, Int.reduceToNat, Int.reduceLT, Int.reduceLE, Int.reduceAdd, Int.reduceSub, Int.reduceMul, Int.reduceNeg, Int.reduceEq, Nat.reduceMod, forall_eq_or_imp, forall_eq, forall_const, cond_true, cond_false, decide_true, decide_false, true_imp_iff, implies_true, Int.cast_ofNat_Int, forall_eq']
  unfold fin2
  simp only [↓EVP0, EVQ0, EVQ1, EVQ2, EVQ3, EVQ4, EVA, EVK, EVF, ↓reduceIte, Nat.reduceEqDiff, Nat.reduceAdd, Nat.reduceSub, Nat.reduceMul, Nat.reduceLT, Nat.reduceLeDiff, reduceCtorEq, Int.reduceToNat, Int.reduceLT, Int.reduceLE, Int.reduceAdd, Int.reduceSub, Int.reduceMul, Int.reduceNeg, Int.reduceEq, Nat.reduceMod, forall_eq_or_imp, forall_eq, forall_const, cond_true, cond_false, decide_true, decide_false, true_imp_iff, implies_true, Int.cast_ofNat_Int, forall_eq']
  rw [List.take_length]
  have e1 : P.length - 1 + 1 = P.length := by omega
  exact ⟨⟨p1, p2⟩, rfl, by rw [e1], allC_setM _ _, e1, rfl⟩
include hn in
theorem lc_follow2 (h : WK n U M P a) (haP : a ∈ P) :
    LCall Try.prog 53 [.ptr 6 0 0 0 0, .ptr 3 0 0 0 0, .ptr 4 0 0 0 0, .ptr 0 0 0 0 0, .ptr 2 0 0 0 0] (mkH (cyH U n M P a)) (.sc (.bool false)) (mkH (cyH U n M P a)) := by
  have ha2 := h.ain
  unfold inN at ha2
  have hP0 : P ≠ [] := List.ne_nil_of_mem haP
  have hPin : ∀ y, y ∈ P → In64 y := fun y hy => by have := h.pin y hy; unfold inN at this; unfold In64; omega
  unfold cyH
  rw [if_neg hP0, if_neg hP0]
  refine lcall_of_lwp Try.func53 comp53 (show 5 ≤ Try.f53.ntmps by decide) (by simp [mkH]) ?_
  unfold cf53 rf53
  simp only [↓EVP0, EVQ0, EVQ1, EVQ2, EVQ3, EVQ4, EVA, EVK, EVF, ↓reduceIte, Nat.reduceEqDiff, Nat.reduceAdd, Nat.reduceSub, Nat.reduceMul, Nat.reduceLT, Nat.reduceLeDiff, reduceCtorEq, Int.reduceToNat, Int.reduceLT, Int.reduceLE, Int.reduceAdd, Int.reduceSub, Int.reduceMul, Int.reduceNeg, Int.reduceEq, Nat.reduceMod, forall_eq_or_imp, forall_eq, forall_const, cond_true, cond_false, decide_true, decide_false, true_imp_iff, implies_true, Int.cast_ofNat_Int, forall_eq']
  rw [mfind_P, if_pos haP]
  simp only [Option.getD_some]
  have hk := keysI_ok (l := P) (x := a) hPin (by unfold In64; omega)
  simp only [↓EVP0, EVQ0, EVQ1, EVQ2, EVQ3, EVQ4, EVA, EVK, EVF, ↓reduceIte, Nat.reduceEqDiff, Nat.reduceAdd, Nat.reduceSub, Nat.reduceMul, Nat.reduceLT, Nat.reduceLeDiff, reduceCtorEq, Int.reduceToNat, Int.reduceLT, Int.reduceLE, Int.reduceAdd, Int.reduceSub, Int.reduceMul, Int.reduceNeg, Int.reduceEq, Nat.reduceMod, forall_eq_or_imp, forall_eq, forall_const, cond_true, cond_false, decide_true, decide_false, true_imp_iff, implies_true, Int.cast_ofNat_Int, forall_eq']
  unfold fin2
  simp only [↓EVP0, EVQ0, EVQ1, EVQ2, EVQ3, EVQ4, EVA, EVK, EVF, ↓reduceIte, Nat.reduceEqDiff, Nat.reduceAdd, Nat.reduceSub, Nat.reduceMul, Nat.reduceLT, Nat.reduceLeDiff, reduceCtorEq, Int.reduceToNat, Int.reduceLT, Int.reduceLE, Int.reduceAdd, Int.reduceSub, Int.reduceMul, Int.reduceNeg, Int.reduceEq, Nat.reduceMod, forall_eq_or_imp, forall_eq, forall_const, cond_true, cond_false, decide_true, decide_false, true_imp_iff, implies_true, Int.cast_ofNat_Int, forall_eq']
  exact ⟨hk, allC_setM _ _⟩
end
end Go.Proofs.Yteblljpbnpaplaa
namespace Go.Proofs.Yteblljpbnpaplaa
set_option linter.unusedSectionVars false
variable [DrawFlag]
set_option linter.unusedSimpArgs false
set_option linter.unusedVariables false
open Go.RowKit
set_option maxRecDepth 20000

theorem lc_clone9 (xs : List Int) (k ver off len : Nat) (h0 : 0 < len) (hl : xs.length ≤ 1000) (hol : off + len ≤ xs.length) (a0 a1 a2 a3 a4 a5 a6 a7 : Nat × LO)
    (b0 : belowO 10 a0.2) (b1 : belowO 10 a1.2) (b2 : belowO 10 a2.2) (b3 : belowO 10 a3.2) (b4 : belowO 10 a4.2) (b5 : belowO 10 a5.2) (b6 : belowO 10 a6.2) (b7 : belowO 10 a7.2) :
    LCall Try.prog 54 [.sl 8 ver 1 off len] (mkH [a0, a1, a2, a3, a4, a5, a6, a7, (ver, .ints xs)]) (.sl 9 1 1 0 len) (mkH [a0, a1, a2, a3, a4, a5, a6, a7, (ver, .ints xs), (1, .ints ((xs.drop off).take len))]) := by
  refine lcall_of_lwp Try.func54 comp54 (show 1 ≤ Try.f54.ntmps by decide) (by simp [mkH]) ?_
  unfold cf54 rf54
  simp only [↓EVP0, EVQ0, EVQ1, EVQ2, EVQ3, EVQ4, EVA, EVK, EVF, ↓reduceIte, Nat.reduceEqDiff, Nat.reduceAdd, Nat.reduceSub, Nat.reduceMul, Nat.reduceLT, Nat.reduceLeDiff, reduceCtorEq, Int.reduceToNat, Int.reduceLT, Int.reduceLE, Int.reduceAdd, Int.reduceSub, Int.reduceMul, Int.reduceNeg, Int.reduceEq, Nat.reduceMod, forall_eq_or_imp, forall_eq, forall_const, cond_true, cond_false, decide_true, decide_false, true_imp_iff, implies_true, Int.cast_ofNat_Int, forall_eq']
  refine ⟨h0, hol, by unfold appRoom; omega, ?_⟩
  unfold fin2
  simp only [↓EVP0, EVQ0, EVQ1, EVQ2, EVQ3, EVQ4, EVA, EVK, EVF, ↓reduceIte, Nat.reduceEqDiff, Nat.reduceAdd, Nat.reduceSub, Nat.reduceMul, Nat.reduceLT, Nat.reduceLeDiff, reduceCtorEq, Int.reduceToNat, Int.reduceLT, Int.reduceLE, Int.reduceAdd, Int.reduceSub, Int.reduceMul, Int.reduceNeg, Int.reduceEq, Nat.reduceMod, forall_eq_or_imp, forall_eq, forall_const, cond_true, cond_false, decide_true, decide_false, true_imp_iff, implies_true, Int.cast_ofNat_Int, forall_eq']
  exact ⟨b0, b1, b2, b3, b4, b5, b6, b7⟩
theorem lc_reverse9 (xs : List Int) (hl : xs.length ≤ 1000) (a0 a1 a2 a3 a4 a5 a6 a7 a8 : Nat × LO)
    (b0 : belowO 10 a0.2) (b1 : belowO 10 a1.2) (b2 : belowO 10 a2.2) (b3 : belowO 10 a3.2) (b4 : belowO 10 a4.2) (b5 : belowO 10 a5.2) (b6 : belowO 10 a6.2) (b7 : belowO 10 a7.2) (b8 : belowO 10 a8.2) :
    LCall Try.prog 56 [.sl 9 1 1 0 xs.length] (mkH [a0, a1, a2, a3, a4, a5, a6, a7, a8, (1, .ints xs)]) (.tup []) (mkH [a0, a1, a2, a3, a4, a5, a6, a7, a8, (1, .ints xs.reverse)]) := by
  refine lcall_of_lwp Try.func56 comp56 (show 1 ≤ Try.f56.ntmps by decide) (by simp [mkH]) ?_
  unfold cf56 rf56
  simp only [↓EVP0, EVQ0, EVQ1, EVQ2, EVQ3, EVQ4, EVA, EVK, EVF, ↓reduceIte, Nat.reduceEqDiff, Nat.reduceAdd, Nat.reduceSub, Nat.reduceMul, Nat.reduceLT, Nat.reduceLeDiff, reduceCtorEq, Int.reduceToNat, Int.reduceLT, Int.reduceLE, Int.reduceAdd, Int.reduceSub, Int.reduceMul, Int.reduceNeg, Int.reduceEq, Nat.reduceMod, forall_eq_or_imp, forall_eq, forall_const, cond_true, cond_false, decide_true, decide_false, true_imp_iff, implies_true, Int.cast_ofNat_Int, forall_eq']
  intro _
  refine ⟨by unfold In64; omega, ?_⟩
  refine lwp_for (α := Unit) xs.length (fun _ _ => True) (fun i _ => [(0, .sl 9 1 1 0 xs.length), (2, .sc (.int .i64 i)), (3, .sc (.int .i64 ((xs.length : Int) - 1 - (i : Nat))))]) (fun i _ => [a0, a1, a2, a3, a4, a5, a6, a7, a8, (1, .ints (revI xs i))]) () trivial ?_ (fun _ _ => by simp [mkH]) ?_
  · rw [revI_zero]
    simp only [↓EVP0, EVQ0, EVQ1, EVQ2, EVQ3, EVQ4, EVA, EVK, EVF, ↓reduceIte, Nat.reduceEqDiff, Nat.reduceAdd, Nat.reduceSub, Nat.reduceMul, Nat.reduceLT, Nat.reduceLeDiff, reduceCtorEq, Int.reduceToNat, Int.reduceLT, Int.reduceLE, Int.reduceAdd, Int.reduceSub, Int.reduceMul, Int.reduceNeg, Int.reduceEq, Nat.reduceMod, forall_eq_or_imp, forall_eq, forall_const, cond_true, cond_false, decide_true, decide_false, true_imp_iff, implies_true, Int.cast_ofNat_Int, forall_eq']
    refine ⟨by simp, b0, b1, b2, b3, b4, b5, b6, b7, b8⟩
  intro i _ hi _
  unfold lb56_0
  simp only [↓EVP0, EVQ0, EVQ1, EVQ2, EVQ3, EVQ4, EVA, EVK, EVF, ↓reduceIte, Nat.reduceEqDiff, Nat.reduceAdd, Nat.reduceSub, Nat.reduceMul, Nat.reduceLT, Nat.reduceLeDiff, reduceCtorEq, Int.reduceToNat, Int.reduceLT, Int.reduceLE, Int.reduceAdd, Int.reduceSub, Int.reduceMul, Int.reduceNeg, Int.reduceEq, Nat.reduceMod, forall_eq_or_imp, forall_eq, forall_const, cond_true, cond_false, decide_true, decide_false, true_imp_iff, implies_true, Int.cast_ofNat_Int, forall_eq']
  have hlen := revI_len xs i
  refine ⟨fun hg => ?_, fun hg => ?_⟩
  · have h1 : (i : Int) < xs.length - 1 - i := of_decide_eq_true hg
    rw [show ((xs.length : Int) - 1 - i).toNat = xs.length - 1 - i by omega]
    refine ⟨⟨by omega, by omega⟩, by omega, ⟨by omega, by omega⟩, by omega, ⟨by omega, by omega⟩, by omega, ⟨by omega, by omega⟩, by rw [List.length_set]; omega, by unfold In64; omega, by unfold In64; omega, by omega, (), by omega, b0, b1, b2, b3, b4, b5, b6, b7, b8, ?_⟩
    rw [← revI_step (by omega), revI_get (by omega), if_neg (by omega), revI_get (by omega), if_neg (by omega)]
  · have h1 : ¬ (i : Int) < xs.length - 1 - i := of_decide_eq_false hg
    rw [revI_done (by omega)]
    unfold fin2
    simp only [↓EVP0, EVQ0, EVQ1, EVQ2, EVQ3, EVQ4, EVA, EVK, EVF, ↓reduceIte, Nat.reduceEqDiff, Nat.reduceAdd, Nat.reduceSub, Nat.reduceMul, Nat.reduceLT, Nat.reduceLeDiff, reduceCtorEq, Int.reduceToNat, Int.reduceLT, Int.reduceLE, Int.reduceAdd, Int.reduceSub, Int.reduceMul, Int.reduceNeg, Int.reduceEq, Nat.reduceMod, forall_eq_or_imp, forall_eq, forall_const, cond_true, cond_false, decide_true, decide_false, true_imp_iff, implies_true, Int.cast_ofNat_Int, forall_eq']
    exact ⟨b0, b1, b2, b3, b4, b5, b6, b7, b8⟩
def wlS (U : List Dp) (M : List Int) (a0 : Int) : Nat → List Int × Int
  | 0 => ([], a0)
  | k + 1 => ((wlS U M a0 k).1 ++ [(wlS U M a0 k).2], prvE U M (wlS U M a0 k).2)
theorem wl_end {n : Nat} {U : List Dp} {M : List Int} {a0 : Int} (hU : ∀ d, d ∈ U → inD n d) (hw : ∀ v, inN n v → 0 < lvl M v → ∃ x, x ∈ befL U v ∧ inN n x ∧ 0 < lvl M x) (h0 : WK n U M [] a0) :
    ∃ K, (∀ k, k ≤ K → WK n U M (wlS U M a0 k).1 (wlS U M a0 k).2) ∧ (wlS U M a0 K).2 ∈ (wlS U M a0 K).1 ∧ ∀ k, k < K → (wlS U M a0 k).2 ∉ (wlS U M a0 k).1 := by
  have step : ∀ m, (∃ K, (∀ k, k ≤ K → WK n U M (wlS U M a0 k).1 (wlS U M a0 k).2) ∧ (wlS U M a0 K).2 ∈ (wlS U M a0 K).1 ∧ ∀ k, k < K → (wlS U M a0 k).2 ∉ (wlS U M a0 k).1) ∨
      (∀ k, k ≤ m → WK n U M (wlS U M a0 k).1 (wlS U M a0 k).2 ∧ (wlS U M a0 k).1.length = k ∧ ∀ j, j < k → (wlS U M a0 j).2 ∉ (wlS U M a0 j).1) := by
    intro m
    induction m with
    | zero =>
      refine .inr fun k hk => ?_
      obtain rfl : k = 0 := by omega
      exact ⟨h0, rfl, fun j hj => by omega⟩
    | succ m ih =>
      rcases ih with h | h
      · exact .inl h
      · obtain ⟨g1, g2, g3⟩ := h m (Nat.le_refl _)
        by_cases hm : (wlS U M a0 m).2 ∈ (wlS U M a0 m).1
        · exact .inl ⟨m, fun k hk => (h k hk).1, hm, g3⟩
        · refine .inr fun k hk => ?_
          by_cases e : k = m + 1
          · subst e
            refine ⟨wk_step hU hw g1 hm, by simp [wlS, g2], fun j hj => ?_⟩
            by_cases e2 : j = m
            · rw [e2]; exact hm
            · exact g3 j (by omega)
          · exact h k (by omega)
  rcases step (n + 1) with h | h
  · exact h
  · obtain ⟨g1, g2, _⟩ := h (n + 1) (Nat.le_refl _)
    have := nodup_le g1.nd g1.pin
    omega
theorem fidx_at {P : List Int} {a : Int} (h : a ∈ P) : 0 ≤ fidx (fun y => decide (a = y)) P 0 ∧ (fidx (fun y => decide (a = y)) P 0).toNat < P.length ∧ P.getD (fidx (fun y => decide (a = y)) P 0).toNat 0 = a := by
  obtain ⟨g1, g2, g3, _⟩ := fidx_spec (fun y => decide (a = y)) P 0 ⟨a, h, decide_eq_true rfl⟩
  rw [Int.sub_zero] at g3
  exact ⟨g1, by omega, (of_decide_eq_true g3).symm⟩
theorem cy_len (U : List Dp) (n : Nat) (M P : List Int) (a : Int) : 7 ≤ (cyH U n M P a).length := by
  unfold cyH
  rw [List.length_append]
  exact Nat.le_add_right _ _
theorem cy_weak (U : List Dp) (n : Nat) (M P : List Int) (a : Int) : weakH (cyH U n M P a).length (mkH (cyH U n M P a)) 0 (cyH U n M P a) := by
  by_cases h : P = []
  · unfold cyH
    rw [if_pos h, if_pos h]
    simp only [↓EVP0, EVQ0, EVQ1, EVQ2, EVQ3, EVQ4, EVA, EVK, EVF, ↓reduceIte, Nat.reduceEqDiff, Nat.reduceAdd, Nat.reduceSub, Nat.reduceMul, Nat.reduceLT, Nat.reduceLeDiff, reduceCtorEq, Int.reduceToNat, Int.reduceLT, Int.reduceLE, Int.reduceAdd, Int.reduceSub, Int.reduceMul, Int.reduceNeg, Int.reduceEq, Nat.reduceMod, forall_eq_or_imp, forall_eq, forall_const, cond_true, cond_false, decide_true, decide_false, true_imp_iff, implies_true, Int.cast_ofNat_Int, forall_eq']
    exact allC_setM _ _
  · unfold cyH
    rw [if_neg h, if_neg h]
    simp only [↓EVP0, EVQ0, EVQ1, EVQ2, EVQ3, EVQ4, EVA, EVK, EVF, ↓reduceIte, Nat.reduceEqDiff, Nat.reduceAdd, Nat.reduceSub, Nat.reduceMul, Nat.reduceLT, Nat.reduceLeDiff, reduceCtorEq, Int.reduceToNat, Int.reduceLT, Int.reduceLE, Int.reduceAdd, Int.reduceSub, Int.reduceMul, Int.reduceNeg, Int.reduceEq, Nat.reduceMod, forall_eq_or_imp, forall_eq, forall_const, cond_true, cond_false, decide_true, decide_false, true_imp_iff, implies_true, Int.cast_ofNat_Int, forall_eq']
    exact allC_setM _ _
theorem roTo1_int {h : LH} {k ver n : Nat} {xs : List Int} (hk : k < h.n) (hv : h.f k = (ver, .ints xs)) (hn : n = xs.length) : roTo1 h (.sl k ver 1 0 n) (.rsl 1 xs.length (intsF xs)) := by
  subst hn
  refine ⟨rfl, rfl, hk, by rw [hv], by rw [hv]; exact ⟨rfl, by omega⟩, fun i hi => ?_⟩
  rw [hv, Nat.zero_add]
  exact ⟨rfl, trivial, trivial⟩
theorem ev_cycle {n : Nat} {U : List Dp} {M : List Int} (hU : ∀ d, d ∈ U → inD n d) (hl : U.length ≤ 1000) (hn : n ≤ 1000) (hM : M.length = n) (hw : ∀ v, inN n v → 0 < lvl M v → ∃ x, x ∈ befL U v ∧ inN n x ∧ 0 < lvl M x) (hex : ∃ v, inN n v ∧ 0 < lvl M v) :
    ∃ c, cycOk U c ∧ Ev Try.prog 33 [.rsl 1 n (bfF U), intsV M] (intsV c) := by
  have h1 := fun x => ev_posI x
  have h2 := ev_indexF M (by omega) 52 [] (by kernel_rfl) trivial (fun x => decide (0 < x)) (fun x _ => ev_posI x)
  -- the first that waits
  have hx : ∃ x, x ∈ M ∧ decide (0 < x) = true := by
    obtain ⟨v, hv, hp⟩ := hex
    unfold inN at hv
    refine ⟨lvl M v, getD_mem 0 (by omega), decide_eq_true hp⟩
  obtain ⟨g1, g2, g3, g4⟩ := fidx_spec (fun x => decide (0 < x)) M 0 hx
  rw [Int.sub_zero] at g3
  rw [Int.zero_add, hM] at g2
  generalize fidx (fun x => decide (0 < x)) M 0 = a0 at *
  have hw0 : WK n U M [] a0 := ⟨fun x hx => by simp at hx, ⟨g1, g2⟩, of_decide_eq_true g3, List.nodup_nil, fun j hj => by simp at hj, fun h => by simp at h⟩
  obtain ⟨K, hK1, hK2, hK3⟩ := wl_end hU hw hw0
  have hKn := nodup_le (hK1 K (Nat.le_refl _)).nd (hK1 K (Nat.le_refl _)).pin
  obtain ⟨i1, i2, i3⟩ := fidx_at hK2
  have hix := ev_indexI (wlS U M a0 K).1 (by omega) (wlS U M a0 K).2
  refine ⟨((wlS U M a0 K).1.drop (fidx (fun y => decide ((wlS U M a0 K).2 = y)) (wlS U M a0 K).1 0).toNat).reverse, wk_cyc (hK1 K (Nat.le_refl _)) i2 i3, ?_⟩
  unfold intsV at *
  refine ev_fn Try.func33 comp33 (show 2 ≤ Try.f33.ntmps by decide) ?_; unfold cf33 rf33; simp only [↓EVP0, EVQ0, EVQ1, EVQ2, EVQ3, EVQ4, EVA, EVK, EVF, ↓reduceIte, Nat.reduceEqDiff, Nat.reduceAdd, Nat.reduceSub, Nat.reduceMul, Nat.reduceLT, Nat.reduceLeDiff, reduceCtorEq, Int.reduceToNat, Int.reduceLT, Int.reduceLE, Int.reduceAdd, Int.reduceSub, Int.reduceMul, Int.reduceNeg, Int.reduceEq, Nat.reduceMod, forall_eq_or_imp, forall_eq, forall_const, cond_true, cond_false, decide_true, decide_false, true_imp_iff, implies_true, Int.cast_ofNat_Int, forall_eq']
  refine callK_ro (h2) ?_ ?_
  · simp only [↓EVP0, EVQ0, EVQ1, EVQ2, EVQ3, EVQ4, EVA, EVK, EVF, ↓reduceIte, Nat.reduceEqDiff, Nat.reduceAdd, Nat.reduceSub, Nat.reduceMul, Nat.reduceLT, Nat.reduceLeDiff, reduceCtorEq, Int.reduceToNat, Int.reduceLT, Int.reduceLE, Int.reduceAdd, Int.reduceSub, Int.reduceMul, Int.reduceNeg, Int.reduceEq, Nat.reduceMod, forall_eq_or_imp, forall_eq, forall_const, cond_true, cond_false, decide_true, decide_false, true_imp_iff, implies_true, Int.cast_ofNat_Int, forall_eq']
  simp only [↓EVP0, EVQ0, EVQ1, EVQ2, EVQ3, EVQ4, EVA, EVK, EVF, ↓reduceIte, Nat.reduceEqDiff, Nat.reduceAdd, Nat.reduceSub, Nat.reduceMul, Nat.reduceLT, Nat.reduceLeDiff, reduceCtorEq, Int.reduceToNat, Int.reduceLT, Int.reduceLE, Int.reduceAdd, Int.reduceSub, Int.reduceMul, Int.reduceNeg, Int.reduceEq, Nat.reduceMod, forall_eq_or_imp, forall_eq, forall_const, cond_true, cond_false, decide_true, decide_false, true_imp_iff, implies_true, Int.cast_ofNat_Int, forall_eq']
  refine lwp_loop (α := Nat) (fun k => k ≤ K) (fun _ => [(6, .ptr 3 0 0 0 0), (7, .ptr 4 0 0 0 0), (9, .fn 53 [.ptr 6 0 0 0 0, .ptr 3 0 0 0 0, .ptr 4 0 0 0 0, .ptr 0 0 0 0 0, .ptr 2 0 0 0 0])])
    (fun k => cyH U n M (wlS U M a0 k).1 (wlS U M a0 k).2) (fun k => K - k) 0 (Nat.zero_le _) ?_ (fun _ => Nat.zero_le _) ?_
  · unfold cyH
    simp only [wlS, if_true]
    simp only [↓EVP0, EVQ0, EVQ1, EVQ2, EVQ3, EVQ4, EVA, EVK, EVF, ↓reduceIte, Nat.reduceEqDiff, Nat.reduceAdd, Nat.reduceSub, Nat.reduceMul, Nat.reduceLT, Nat.reduceLeDiff, reduceCtorEq, Int.reduceToNat, Int.reduceLT, Int.reduceLE, Int.reduceAdd, Int.reduceSub, Int.reduceMul, Int.reduceNeg, Int.reduceEq, Nat.reduceMod, forall_eq_or_imp, forall_eq, forall_const, cond_true, cond_false, decide_true, decide_false, true_imp_iff, implies_true, Int.cast_ofNat_Int, forall_eq']
    exact ⟨rfl, allC_setM _ _⟩
  intro k hk
  have hwk := hK1 k hk
  unfold lb33_0
  simp only [↓EVP0, EVQ0, EVQ1, EVQ2, EVQ3, EVQ4, EVA, EVK, EVF, ↓reduceIte, Nat.reduceEqDiff, Nat.reduceAdd, Nat.reduceSub, Nat.reduceMul, Nat.reduceLT, Nat.reduceLeDiff, reduceCtorEq, Int.reduceToNat, Int.reduceLT, Int.reduceLE, Int.reduceAdd, Int.reduceSub, Int.reduceMul, Int.reduceNeg, Int.reduceEq, Nat.reduceMod, forall_eq_or_imp, forall_eq, forall_const, cond_true, cond_false, decide_true, decide_false, true_imp_iff, implies_true, Int.cast_ofNat_Int, forall_eq']
  refine ⟨by kernel_rfl, ?_⟩
  by_cases hm : (wlS U M a0 k).2 ∈ (wlS U M a0 k).1
  · have hkK : k = K := Classical.byContradiction fun h => hK3 k (by omega) hm
    subst hkK
    refine callK_mut (lc_follow2 hn hwk hm) ?_
    simp only [↓EVP0, EVQ0, EVQ1, EVQ2, EVQ3, EVQ4, EVA, EVK, EVF, ↓reduceIte, Nat.reduceEqDiff, Nat.reduceAdd, Nat.reduceSub, Nat.reduceMul, Nat.reduceLT, Nat.reduceLeDiff, reduceCtorEq, Int.reduceToNat, Int.reduceLT, Int.reduceLE, Int.reduceAdd, Int.reduceSub, Int.reduceMul, Int.reduceNeg, Int.reduceEq, Nat.reduceMod, forall_eq_or_imp, forall_eq, forall_const, cond_true, cond_false, decide_true, decide_false, true_imp_iff, implies_true, Int.cast_ofNat_Int, forall_eq']
    have hP0 : (wlS U M a0 k).1 ≠ [] := List.ne_nil_of_mem hm
    generalize (wlS U M a0 k).1 = P at *
    generalize (wlS U M a0 k).2 = a at *
    unfold cyH
    rw [if_neg hP0, if_neg hP0]
    simp only [↓EVP0, EVQ0, EVQ1, EVQ2, EVQ3, EVQ4, EVA, EVK, EVF, ↓reduceIte, Nat.reduceEqDiff, Nat.reduceAdd, Nat.reduceSub, Nat.reduceMul, Nat.reduceLT, Nat.reduceLeDiff, reduceCtorEq, Int.reduceToNat, Int.reduceLT, Int.reduceLE, Int.reduceAdd, Int.reduceSub, Int.reduceMul, Int.reduceNeg, Int.reduceEq, Nat.reduceMod, forall_eq_or_imp, forall_eq, forall_const, cond_true, cond_false, decide_true, decide_false, true_imp_iff, implies_true, Int.cast_ofNat_Int, forall_eq']
    refine qCallK_frz (al' := [.rsl 1 P.length (intsF P), .sc (.int .i64 a)]) hix ⟨roTo1_int (by simp [mkH]) rfl rfl, ⟨rfl, trivial⟩, trivial⟩ trivial ?_
    simp only [↓EVP0, EVQ0, EVQ1, EVQ2, EVQ3, EVQ4, EVA, EVK, EVF, ↓reduceIte, Nat.reduceEqDiff, Nat.reduceAdd, Nat.reduceSub, Nat.reduceMul, Nat.reduceLT, Nat.reduceLeDiff, reduceCtorEq, Int.reduceToNat, Int.reduceLT, Int.reduceLE, Int.reduceAdd, Int.reduceSub, Int.reduceMul, Int.reduceNeg, Int.reduceEq, Nat.reduceMod, forall_eq_or_imp, forall_eq, forall_const, cond_true, cond_false, decide_true, decide_false, true_imp_iff, implies_true, Int.cast_ofNat_Int, forall_eq']
    have hi1 : ((fidx (fun y => decide (a = y)) P 0).toNat : Int) = fidx (fun y => decide (a = y)) P 0 := Int.toNat_of_nonneg i1
    generalize (fidx (fun y => decide (a = y)) P 0).toNat = ix at *
    have hdl : (P.drop ix).take (P.length - ix) = P.drop ix := List.take_of_length_le (by rw [List.length_drop]; exact Nat.le_refl _)
    have hdl2 : (P.drop ix).length = P.length - ix := List.length_drop
    refine ⟨⟨by omega, by omega, Int.le_refl _⟩, ?_⟩
    refine callK_mut (lc_clone9 P 8 (P.length - 1) ix (P.length - ix) (by omega) (by omega) (by omega) _ _ _ _ _ _ _ _ ?_ ?_ ?_ ?_ ?_ ?_ ?_ ?_) ?_
    iterate 8 (first | exact allC_setM _ _ | (· simp only [↓EVP0, EVQ0, EVQ1, EVQ2, EVQ3, EVQ4, EVA, EVK, EVF, ↓reduceIte, Nat.reduceEqDiff, Nat.reduceAdd, Nat.reduceSub, Nat.reduceMul, Nat.reduceLT, Nat.reduceLeDiff, reduceCtorEq, Int.reduceToNat, Int.reduceLT, Int.reduceLE, Int.reduceAdd, Int.reduceSub, Int.reduceMul, Int.reduceNeg, Int.reduceEq, Nat.reduceMod, forall_eq_or_imp, forall_eq, forall_const, cond_true, cond_false, decide_true, decide_false, true_imp_iff, implies_true, Int.cast_ofNat_Int, forall_eq']))
    rw [hdl, ← hdl2]
    simp only [↓EVP0, EVQ0, EVQ1, EVQ2, EVQ3, EVQ4, EVA, EVK, EVF, ↓reduceIte, Nat.reduceEqDiff, Nat.reduceAdd, Nat.reduceSub, Nat.reduceMul, Nat.reduceLT, Nat.reduceLeDiff, reduceCtorEq, Int.reduceToNat, Int.reduceLT, Int.reduceLE, Int.reduceAdd, Int.reduceSub, Int.reduceMul, Int.reduceNeg, Int.reduceEq, Nat.reduceMod, forall_eq_or_imp, forall_eq, forall_const, cond_true, cond_false, decide_true, decide_false, true_imp_iff, implies_true, Int.cast_ofNat_Int, forall_eq']
    refine callK_mut (lc_reverse9 (P.drop ix) (by omega) _ _ _ _ _ _ _ _ _ ?_ ?_ ?_ ?_ ?_ ?_ ?_ ?_ ?_) ?_
    iterate 9 (first | exact allC_setM _ _ | (· simp only [↓EVP0, EVQ0, EVQ1, EVQ2, EVQ3, EVQ4, EVA, EVK, EVF, ↓reduceIte, Nat.reduceEqDiff, Nat.reduceAdd, Nat.reduceSub, Nat.reduceMul, Nat.reduceLT, Nat.reduceLeDiff, reduceCtorEq, Int.reduceToNat, Int.reduceLT, Int.reduceLE, Int.reduceAdd, Int.reduceSub, Int.reduceMul, Int.reduceNeg, Int.reduceEq, Nat.reduceMod, forall_eq_or_imp, forall_eq, forall_const, cond_true, cond_false, decide_true, decide_false, true_imp_iff, implies_true, Int.cast_ofNat_Int, forall_eq']))
    simp only [↓EVP0, EVQ0, EVQ1, EVQ2, EVQ3, EVQ4, EVA, EVK, EVF, ↓reduceIte, Nat.reduceEqDiff, Nat.reduceAdd, Nat.reduceSub, Nat.reduceMul, Nat.reduceLT, Nat.reduceLeDiff, reduceCtorEq, Int.reduceToNat, Int.reduceLT, Int.reduceLE, Int.reduceAdd, Int.reduceSub, Int.reduceMul, Int.reduceNeg, Int.reduceEq, Nat.reduceMod, forall_eq_or_imp, forall_eq, forall_const, cond_true, cond_false, decide_true, decide_false, true_imp_iff, implies_true, Int.cast_ofNat_Int, forall_eq']
    exact ⟨by simp, by simp⟩
  · have hkK : k ≠ K := fun h => hm (h ▸ hK2)
    have hst : LCall Try.prog 53 [.ptr 6 0 0 0 0, .ptr 3 0 0 0 0, .ptr 4 0 0 0 0, .ptr 0 0 0 0 0, .ptr 2 0 0 0 0] (mkH (cyH U n M (wlS U M a0 k).1 (wlS U M a0 k).2)) (.sc (.bool true)) (mkH (cyH U n M (wlS U M a0 (k + 1)).1 (wlS U M a0 (k + 1)).2)) := by
      by_cases e : (wlS U M a0 k).1 = []
      · have := lc_follow0 hU hl hn hM hw hwk.ain hwk.pos
        show LCall Try.prog _ _ _ _ (mkH (cyH U n M ((wlS U M a0 k).1 ++ [(wlS U M a0 k).2]) (prvE U M (wlS U M a0 k).2)))
        rw [e]; exact this
      · exact lc_follow1 hU hl hn hM hw e hwk hm
    refine callK_mut hst ?_
    simp only [↓EVP0, EVQ0, EVQ1, EVQ2, EVQ3, EVQ4, EVA, EVK, EVF, ↓reduceIte, Nat.reduceEqDiff, Nat.reduceAdd, Nat.reduceSub, Nat.reduceMul, Nat.reduceLT, Nat.reduceLeDiff, reduceCtorEq, Int.reduceToNat, Int.reduceLT, Int.reduceLE, Int.reduceAdd, Int.reduceSub, Int.reduceMul, Int.reduceNeg, Int.reduceEq, Nat.reduceMod, forall_eq_or_imp, forall_eq, forall_const, cond_true, cond_false, decide_true, decide_false, true_imp_iff, implies_true, Int.cast_ofNat_Int, forall_eq']
    have hl7 := cy_len U n M (wlS U M a0 (k + 1)).1 (wlS U M a0 (k + 1)).2
    exact ⟨k + 1, by omega, ⟨Nat.le_refl _, ⟨by omega, by omega, by omega, by omega, by omega, by omega, by omega⟩, cy_weak _ _ _ _ _⟩, by omega⟩
end Go.Proofs.Yteblljpbnpaplaa
namespace Go.Proofs.Yteblljpbnpaplaa
set_option linter.unusedSectionVars false
variable [DrawFlag]
set_option linter.unusedSimpArgs false
set_option linter.unusedVariables false
open Go.RowKit
set_option maxRecDepth 20000

theorem lcall_killD {P : Program} {h : LH} {f : FuncId} {args args' : List LV} {r : LV} (he : Ev P f args' r) (ha : roToL2d h args args') : LCall P f args h r (killH h (List.range h.n)) := by
  intro B R ι w vs hB hr hsz hargs
  obtain ⟨g1, g2⟩ := roToL2d_get ha
  obtain ⟨R', hle, hfz, hT⟩ := trans_kill hB hr (List.range h.n)
  refine (he R' w vs hT.rep.ro hT.rep.gl (by omega) (fun i a hi => ?_)).mono ?_
  · obtain ⟨x, hx, hx2⟩ := g2 i a hi
    exact roTo2d_ok hr hle (fun k hk => hfz k (List.mem_range.2 hk) hk) (hargs i x hx) hx2
  · intro e w' hx
    obtain ⟨v, R2, rfl, h1, h2, h3, h4, h5⟩ := hx
    exact ⟨v, R2, ι, rfl, hT.trans (trans_call hB hT.rep h3 h4 h1 h2 rfl), .ro h5⟩
theorem callK_killD {P : Program} {al al' : List LV} {f : FuncId} {h : LH} {k : LV → LH → Prop} {r : LV} (he : Ev P f al' r) (ha : roToL2d h al al') (hk : k r (killH h (List.range h.n))) : @callK _ P f al h ⟨k⟩ := ⟨r, _, lcall_killD he ha, hk⟩
def famN (F : Nat → Nat × LO) (N : Nat) : List (Nat × LO) := (List.range N).map F
def updF (F : Nat → Nat × LO) (i : Nat) (x : Nat × LO) (j : Nat) : Nat × LO := if j = i then x else F j
theorem famN_len (F : Nat → Nat × LO) (N : Nat) : (famN F N).length = N := by simp [famN]
theorem famN_get (F : Nat → Nat × LO) {N i : Nat} (hi : i < N) (d : Nat × LO) : (famN F N).getD i d = F i := by
  unfold famN
  rw [List.getD_eq_getElem?_getD, List.getElem?_map, List.getElem?_range hi]; rfl
theorem updF_same (F : Nat → Nat × LO) (i : Nat) (x : Nat × LO) : updF F i x i = x := if_pos rfl
theorem updF_ne (F : Nat → Nat × LO) {i j : Nat} (x : Nat × LO) (h : j ≠ i) : updF F i x j = F j := if_neg h
theorem updF_updF (F : Nat → Nat × LO) (i : Nat) (x y : Nat × LO) : updF (updF F i x) i y = updF F i y := by
  funext j
  unfold updF
  split <;> rfl
theorem famN_push (F : Nat → Nat × LO) (N : Nat) (x : Nat × LO) : famN F N ++ [x] = famN (updF F N x) (N + 1) := by
  unfold famN
  rw [List.range_succ, List.map_append]
  congr 1
  · apply List.map_congr_left
    intro j hj
    have := List.mem_range.1 hj
    exact (updF_ne F x (by omega)).symm
  · simp [updF_same]
theorem famN_set (F : Nat → Nat × LO) {N i : Nat} (hi : i < N) (x : Nat × LO) : (famN F N).set i x = famN (updF F i x) N := by
  unfold famN
  apply List.ext_getElem?
  intro j
  by_cases e : i = j
  · subst e
    rw [List.getElem?_set_self (by simp; exact hi), List.getElem?_map, List.getElem?_range hi]
    simp [updF_same]
  · rw [List.getElem?_set_ne e, List.getElem?_map, List.getElem?_map]
    by_cases hj : j < N
    · rw [List.getElem?_range hj]; simp [updF_ne F x (fun h => e h.symm)]
    · rw [List.getElem?_eq_none (by simp; omega)]; rfl
theorem mkH4_set (a b c d : Nat × LO) (F : Nat → Nat × LO) {N o : Nat} (ho : o < N) (x : Nat × LO) : (mkH (a :: b :: c :: d :: famN F N)).set (o + 1 + 1 + 1 + 1) x = mkH (a :: b :: c :: d :: famN (updF F o x) N) := by
  rw [mkH_set _ _ _ (by simp [famN_len]; omega)]
  show mkH (a :: b :: c :: d :: (famN F N).set o x) = _
  rw [famN_set F ho]
theorem mkH4_s0 (a b c d x : Nat × LO) (l : List (Nat × LO)) : (mkH (a :: b :: c :: d :: l)).set 0 x = mkH (x :: b :: c :: d :: l) := mkH_set _ 0 _ (by simp)
theorem mkH4_s1 (a b c d x : Nat × LO) (l : List (Nat × LO)) : (mkH (a :: b :: c :: d :: l)).set 1 x = mkH (a :: x :: c :: d :: l) := mkH_set _ 1 _ (by simp)
theorem mkH4_s2 (a b c d x : Nat × LO) (l : List (Nat × LO)) : (mkH (a :: b :: c :: d :: l)).set 2 x = mkH (a :: b :: x :: d :: l) := mkH_set _ 2 _ (by simp)
theorem mkH4_s3 (a b c d x : Nat × LO) (l : List (Nat × LO)) : (mkH (a :: b :: c :: d :: l)).set 3 x = mkH (a :: b :: c :: x :: l) := mkH_set _ 3 _ (by simp)
theorem weakH_app {n : Nat} {h : LH} : ∀ {A B : List (Nat × LO)} {k : Nat}, (∀ i, i < A.length → h.f (k + i) = A.getD i (0, .dead) ∧ belowO n (A.getD i (0, .dead)).2) → weakH n h (k + A.length) B → weakH n h k (A ++ B)
  | [], B, k, _, h2 => h2
  | x :: A, B, k, h1, h2 => by
    refine ⟨(h1 0 (by simp)).1, (h1 0 (by simp)).2, weakH_app (A := A) (fun i hi => ?_) ?_⟩
    · have := h1 (i + 1) (by simpa using hi)
      rw [show k + (i + 1) = k + 1 + i by omega] at this
      simpa using this
    · rw [show k + 1 + A.length = k + (x :: A).length by simp; omega]; exact h2
theorem weakH_fam {n k N : Nat} {h : LH} {F : Nat → Nat × LO} (h1 : ∀ i, i < N → h.f (k + i) = F i ∧ belowO n (F i).2) : weakH n h k (famN F N) := by
  have := weakH_app (n := n) (h := h) (A := famN F N) (B := []) (k := k) (fun i hi => by rw [famN_len] at hi; rw [famN_get F hi]; exact h1 i hi) trivial
  rw [List.append_nil] at this; exact this

structure LI (ct : Bool → Int → List Int) (N : Nat) (F : Nat → Nat × LO) (o : Bool → Int → Nat) : Prop where
  bl : ∀ j, j < N → ∀ q, belowO q (F j).2
  at_ : ∀ q v, ct q v ≠ [] → o q v < N ∧ F (o q v) = ((ct q v).length - 1, .ints (ct q v))
  inj : ∀ q v q' v', ct q v ≠ [] → ct q' v' ≠ [] → o q v = o q' v' → q = q' ∧ v = v'
def updC (ct : Bool → Int → List Int) (q : Bool) (v : Int) (x : List Int) (q' : Bool) (v' : Int) : List Int := if q' = q ∧ v' = v then x else ct q' v'
def updJ (o : Bool → Int → Nat) (q : Bool) (v : Int) (i : Nat) (q' : Bool) (v' : Int) : Nat := if q' = q ∧ v' = v then i else o q' v'
theorem updC_same (ct : Bool → Int → List Int) (q : Bool) (v : Int) (x : List Int) : updC ct q v x q v = x := if_pos ⟨rfl, rfl⟩
theorem updC_ne {ct : Bool → Int → List Int} {q : Bool} {v : Int} {x : List Int} {q' : Bool} {v' : Int} (h : ¬ (q' = q ∧ v' = v)) : updC ct q v x q' v' = ct q' v' := if_neg h
theorem updJ_same (ct : Bool → Int → Nat) (q : Bool) (v : Int) (x : Nat) : updJ ct q v x q v = x := if_pos ⟨rfl, rfl⟩
theorem updJ_ne {ct : Bool → Int → Nat} {q : Bool} {v : Int} {x : Nat} {q' : Bool} {v' : Int} (h : ¬ (q' = q ∧ v' = v)) : updJ ct q v x q' v' = ct q' v' := if_neg h
theorem li_start (N : Nat) (F : Nat → Nat × LO) (o : Bool → Int → Nat) (h : ∀ j, j < N → ∀ q, belowO q (F j).2) : LI (fun _ _ => []) N F o :=
  ⟨h, fun _ _ h => absurd rfl h, fun _ _ _ _ h => absurd rfl h⟩
theorem li_junk {ct : Bool → Int → List Int} {N : Nat} {F : Nat → Nat × LO} {o : Bool → Int → Nat} (h : LI ct N F o) {x : Nat × LO} (hx : ∀ q, belowO q x.2) : LI ct (N + 1) (updF F N x) o := by
  refine ⟨fun j hj q => ?_, fun q v hq => ?_, h.inj⟩
  · by_cases e : j = N
    · rw [e, updF_same]; exact hx q
    · rw [updF_ne F x e]; exact h.bl j (by omega) q
  · obtain ⟨h1, h2⟩ := h.at_ q v hq
    exact ⟨by omega, by rw [updF_ne F x (by omega)]; exact h2⟩
theorem li_new {ct : Bool → Int → List Int} {N : Nat} {F : Nat → Nat × LO} {o : Bool → Int → Nat} (h : LI ct N F o) {q : Bool} {v x : Int} (h0 : ct q v = []) : LI (updC ct q v [x]) (N + 1) (updF F N (0, .ints [x])) (updJ o q v N) := by
  refine ⟨fun j hj q => ?_, fun q' v' hq => ?_, fun q' v' q2 v2 h1 h2 he => ?_⟩
  · by_cases e : j = N
    · rw [e, updF_same]; trivial
    · rw [updF_ne F _ e]; exact h.bl j (by omega) q
  · by_cases e : q' = q ∧ v' = v
    · obtain ⟨rfl, rfl⟩ := e
      rw [updC_same, updJ_same, updF_same]
      exact ⟨by omega, rfl⟩
    · rw [updC_ne e] at hq ⊢
      rw [updJ_ne e]
      obtain ⟨h1, h2⟩ := h.at_ q' v' hq
      exact ⟨by omega, by rw [updF_ne F _ (by omega)]; exact h2⟩
  · by_cases e : q' = q ∧ v' = v
    · by_cases e2 : q2 = q ∧ v2 = v
      · exact ⟨e.1.trans e2.1.symm, e.2.trans e2.2.symm⟩
      · rw [updJ_ne e2] at he
        rw [updC_ne e2] at h2
        obtain ⟨rfl, rfl⟩ := e
        rw [updJ_same] at he
        have := (h.at_ q2 v2 h2).1
        omega
    · rw [updJ_ne e] at he
      rw [updC_ne e] at h1
      by_cases e2 : q2 = q ∧ v2 = v
      · obtain ⟨rfl, rfl⟩ := e2
        rw [updJ_same] at he
        have := (h.at_ q' v' h1).1
        omega
      · rw [updJ_ne e2] at he
        rw [updC_ne e2] at h2
        exact h.inj _ _ _ _ h1 h2 he
theorem li_more {ct : Bool → Int → List Int} {N : Nat} {F : Nat → Nat × LO} {o : Bool → Int → Nat} (h : LI ct N F o) {q : Bool} {v x : Int} (h0 : ct q v ≠ []) : LI (updC ct q v (ct q v ++ [x])) N (updF F (o q v) ((ct q v).length, .ints (ct q v ++ [x]))) o := by
  have hne : ∀ q' v', updC ct q v (ct q v ++ [x]) q' v' ≠ [] → ct q' v' ≠ [] := fun q' v' hq => by
    by_cases e : q' = q ∧ v' = v
    · obtain ⟨rfl, rfl⟩ := e; exact h0
    · rw [updC_ne e] at hq; exact hq
  refine ⟨fun j hj p => ?_, fun q' v' hq => ?_, fun q' v' q2 v2 h1 h2 he => h.inj _ _ _ _ (hne _ _ h1) (hne _ _ h2) he⟩
  · by_cases e : j = o q v
    · rw [e, updF_same]; trivial
    · rw [updF_ne F _ e]; exact h.bl j hj p
  · by_cases e : q' = q ∧ v' = v
    · obtain ⟨rfl, rfl⟩ := e
      rw [updC_same, updF_same]
      exact ⟨(h.at_ q' v' h0).1, by simp⟩
    · have h1 := hne _ _ hq
      rw [updC_ne e]
      obtain ⟨h2, h3⟩ := h.at_ q' v' h1
      refine ⟨h2, by rw [updF_ne F _ fun h4 => e (h.inj _ _ _ _ h1 h0 h4)]; exact h3⟩
def rwF (o : Bool → Int → Nat) (ct : Bool → Int → List Int) (q : Bool) (i : Nat) : List LV := [if ct q i = [] then .nsl else .sl (o q i + 1 + 1 + 1 + 1) ((ct q i).length - 1) 1 0 (ct q i).length]
theorem rw_set {o : Bool → Int → Nat} {ct : Bool → Int → List Int} {q : Bool} {n v i : Nat} {x : List Int} (hx : x ≠ []) {y : LV} (hy : y = .sl (i + 1 + 1 + 1 + 1) (x.length - 1) 1 0 x.length) :
    (LO.row 1 n fun j => if j = v then [y] else rwF o ct q j) = LO.row 1 n (rwF (updJ o q v i) (updC ct q v x) q) := by
  congr 1
  funext j
  by_cases e : j = v
  · subst e
    rw [if_pos rfl, hy]
    unfold rwF
    rw [updC_same, updJ_same, if_neg hx]
  · rw [if_neg e]
    unfold rwF
    have hne : ¬ (q = q ∧ (j : Int) = (v : Int)) := fun h => e (by have := h.2; omega)
    rw [updC_ne hne, updJ_ne hne]
theorem rw_all {ct : Bool → Int → List Int} {N : Nat} {F : Nat → Nat × LO} {o : Bool → Int → Nat} (h : LI ct N F o) (q : Bool) (m : Nat) : ∀ i, i < m → allC (N + 1 + 1 + 1 + 1) (List.take 1 (rwF o ct q i)) := by
  intro i _
  unfold rwF
  split
  · exact ⟨trivial, trivial⟩
  · rename_i h0
    have := (h.at_ q i h0).1
    exact ⟨show _ < _ by omega, trivial⟩
theorem rw_allM {ct : Bool → Int → List Int} {N M : Nat} {F : Nat → Nat × LO} {o : Bool → Int → Nat} (h : LI ct N F o) (hM : N + 4 ≤ M) (q : Bool) (m : Nat) : ∀ i, i < m → allC M (List.take 1 (rwF o ct q i)) := by
  intro i _
  unfold rwF
  split
  · exact ⟨trivial, trivial⟩
  · rename_i h0
    have := (h.at_ q i h0).1
    exact ⟨show _ < _ by omega, trivial⟩
theorem wk4 {ct : Bool → Int → List Int} {N : Nat} {F : Nat → Nat × LO} {o : Bool → Int → Nat} (h : LI ct N F o) (a b c d : Nat × LO) : weakH (N + 1 + 1 + 1 + 1) (mkH (a :: b :: c :: d :: famN F N)) 4 (famN F N) := by
  refine weakH_fam fun i hi => ⟨?_, h.bl i hi _⟩
  rw [Nat.add_comm]; exact famN_get F hi _
theorem rw_other {o : Bool → Int → Nat} {ct : Bool → Int → List Int} {q q' : Bool} {v : Int} {i : Nat} {x : List Int} (h : q' ≠ q) : rwF (updJ o q v i) (updC ct q v x) q' = rwF o ct q' := by
  funext j
  unfold rwF
  rw [updC_ne (fun e => h e.1), updJ_ne (fun e => h e.1)]
theorem updJ_self (o : Bool → Int → Nat) (q : Bool) (v : Int) : updJ o q v (o q v) = o := by
  funext q' v'
  unfold updJ
  split
  · rename_i h; rw [h.1, h.2]
  · rfl
theorem famA_len (F : Nat → Nat × LO) (N : Nat) (r : Nat × LO) (t : List (Nat × LO)) : (famN F N ++ r :: t).length = (famN F N ++ t).length + 1 := by rw [List.length_append, List.length_append, List.length_cons]; omega
theorem famA_nil (F : Nat → Nat × LO) (N : Nat) : famN F N ++ [] = famN F N := List.append_nil _
theorem famA_push (F : Nat → Nat × LO) (N : Nat) (r : Nat × LO) (t : List (Nat × LO)) (x : Nat × LO) : (famN F N ++ r :: t) ++ [x] = famN F N ++ (r :: (t ++ [x])) := by rw [List.append_assoc]; rfl
theorem famA_get (F : Nat → Nat × LO) {N i : Nat} (hi : i < N) (t : List (Nat × LO)) (d : Nat × LO) : (famN F N ++ t).getD i d = F i := by
  rw [List.getD_eq_getElem?_getD, List.getElem?_append_left (by rw [famN_len]; exact hi), ← List.getD_eq_getElem?_getD, famN_get F hi]
theorem famA_get0 (F : Nat → Nat × LO) (N : Nat) (r : Nat × LO) (t : List (Nat × LO)) (d : Nat × LO) : (famN F N ++ r :: t).getD N d = r := by
  rw [List.getD_eq_getElem?_getD, List.getElem?_append_right (by rw [famN_len]; exact Nat.le_refl _), famN_len, Nat.sub_self]; rfl
theorem famA_get1 (F : Nat → Nat × LO) (N : Nat) (r s : Nat × LO) (t : List (Nat × LO)) (d : Nat × LO) : (famN F N ++ r :: s :: t).getD (N + 1) d = s := by
  rw [List.getD_eq_getElem?_getD, List.getElem?_append_right (by rw [famN_len]; omega), famN_len, show N + 1 - N = 1 by omega]; rfl
theorem famA_get2 (F : Nat → Nat × LO) (N : Nat) (r s u : Nat × LO) (t : List (Nat × LO)) (d : Nat × LO) : (famN F N ++ r :: s :: u :: t).getD (N + 1 + 1) d = u := by
  rw [List.getD_eq_getElem?_getD, List.getElem?_append_right (by rw [famN_len]; omega), famN_len, show N + 1 + 1 - N = 2 by omega]; rfl
theorem famA_get3 (F : Nat → Nat × LO) (N : Nat) (r s u v : Nat × LO) (t : List (Nat × LO)) (d : Nat × LO) : (famN F N ++ r :: s :: u :: v :: t).getD (N + 3) d = v := by
  rw [List.getD_eq_getElem?_getD, List.getElem?_append_right (by rw [famN_len]; omega), famN_len, show N + 3 - N = 3 by omega]; rfl
theorem famA_set0 (a b c d : Nat × LO) (F : Nat → Nat × LO) (N : Nat) (r : Nat × LO) (t : List (Nat × LO)) (x : Nat × LO) : (mkH (a :: b :: c :: d :: (famN F N ++ r :: t))).set (N + 1 + 1 + 1 + 1) x = mkH (a :: b :: c :: d :: (famN F N ++ x :: t)) := by
  rw [mkH_set _ _ _ (by simp [famN_len])]
  show mkH (a :: b :: c :: d :: (famN F N ++ r :: t).set N x) = _
  rw [List.set_append_right _ _ (by rw [famN_len]; exact Nat.le_refl _), famN_len, Nat.sub_self]; rfl
theorem famA_set2 (a b c d : Nat × LO) (F : Nat → Nat × LO) (N : Nat) (r s u : Nat × LO) (t : List (Nat × LO)) (x : Nat × LO) : (mkH (a :: b :: c :: d :: (famN F N ++ r :: s :: u :: t))).set (N + 1 + 1 + 1 + 1 + 1 + 1) x = mkH (a :: b :: c :: d :: (famN F N ++ r :: s :: x :: t)) := by
  rw [mkH_set _ _ _ (by simp [famN_len]; omega)]
  show mkH (a :: b :: c :: d :: (famN F N ++ r :: s :: u :: t).set (N + 1 + 1) x) = _
  rw [List.set_append_right _ _ (by rw [famN_len]; omega), famN_len, show N + 1 + 1 - N = 2 by omega]; rfl
theorem wkA {ct : Bool → Int → List Int} {N n : Nat} {F : Nat → Nat × LO} {o : Bool → Int → Nat} (h : LI ct N F o) (a b c d : Nat × LO) (t u : List (Nat × LO)) (hw : weakH n (mkH (a :: b :: c :: d :: (famN F N ++ t))) (4 + N) u) : weakH n (mkH (a :: b :: c :: d :: (famN F N ++ t))) 4 (famN F N ++ u) := by
  refine weakH_app (A := famN F N) (fun i hi => ?_) (by rw [famN_len]; exact hw)
  rw [famN_len] at hi
  rw [famN_get F hi]
  refine ⟨?_, h.bl i hi _⟩
  rw [Nat.add_comm]; exact famA_get F hi _ _
theorem famA_f (a b c d : Nat × LO) (F : Nat → Nat × LO) (N i : Nat) (t : List (Nat × LO)) : (mkH (a :: b :: c :: d :: (famN F N ++ t))).f (4 + N + i) = t.getD i (0, .dead) := by
  show (a :: b :: c :: d :: (famN F N ++ t)).getD (4 + N + i) (0, .dead) = _
  rw [show 4 + N + i = N + i + 4 by omega]
  show (famN F N ++ t).getD (N + i) (0, .dead) = _
  rw [List.getD_eq_getElem?_getD, List.getElem?_append_right (by rw [famN_len]; omega), famN_len, show N + i - N = i by omega, ← List.getD_eq_getElem?_getD]
def nums : List (Nat × LO) → Prop
  | [] => True
  | (_, .ints _) :: r => nums r
  | _ :: _ => False
theorem weak_nums {n k : Nat} {h : LH} : ∀ {u : List (Nat × LO)}, nums u → (∀ i, i < u.length → h.f (k + i) = u.getD i (0, .dead)) → weakH n h k u
  | [], _, _ => trivial
  | (v, .ints xs) :: r, hn, hf => by
    refine ⟨hf 0 (by simp), trivial, weak_nums (u := r) hn fun i hi => ?_⟩
    have := hf (i + 1) (by simpa using hi)
    rw [show k + (i + 1) = k + 1 + i by omega] at this
    simpa using this
theorem wkN {ct : Bool → Int → List Int} {N n : Nat} {F : Nat → Nat × LO} {o : Bool → Int → Nat} (h : LI ct N F o) (a b c d : Nat × LO) (t : List (Nat × LO)) (u : List (Nat × LO)) (hu : nums u) (hp : ∀ i, i < u.length → t.getD i (0, .dead) = u.getD i (0, .dead)) : weakH n (mkH (a :: b :: c :: d :: (famN F N ++ t))) 4 (famN F N ++ u) :=
  wkA h a b c d t u (weak_nums hu fun i hi => by rw [famA_f]; exact hp i hi)
theorem roTo2d_int {h : LH} {k ver n : Nat} {xs : List Int} (hk : k < h.n) (hv : h.f k = (ver, .ints xs)) (hn : n = xs.length) : roTo2d h (.sl k ver 1 0 n) (.rsl 1 xs.length (intsF xs)) := by
  subst hn
  refine ⟨rfl, rfl, hk, by rw [hv], by rw [hv]; exact ⟨rfl, by omega⟩, fun i hi => ?_⟩
  rw [hv, Nat.zero_add]
  exact ⟨⟨rfl, trivial⟩, trivial⟩
theorem ro_rows {ct : Bool → Int → List Int} {N m : Nat} {F : Nat → Nat × LO} {o : Bool → Int → Nat} (h : LI ct N F o) (a c d : Nat × LO) (t : List (Nat × LO)) (q : Bool) (f : Nat → List LV) (hf : ∀ i, i < m → f i = [.rsl 1 (ct q i).length (intsF (ct q i))]) :
    roTo1d (mkH (a :: (0, .row 1 m (rwF o ct q)) :: c :: d :: (famN F N ++ t))) (.sl 1 0 1 0 m) (.rsl 1 m f) := by
  refine ⟨rfl, rfl, by simp [mkH], rfl, ⟨rfl, by omega, fun i _ => rfl⟩, fun i hi => ?_⟩
  rw [Nat.zero_add]
  show roToL _ (rwF o ct q i) (f i)
  rw [hf i hi]
  unfold rwF
  split
  · rename_i h0
    rw [h0]
    exact ⟨rfl, trivial⟩
  · rename_i h0
    obtain ⟨h1, h2⟩ := h.at_ q i h0
    refine ⟨roTo1_int ?_ (ver := (ct q i).length - 1) ?_ rfl, trivial⟩
    · simp [mkH, famN_len]; omega
    · show (famN F N ++ t).getD (o q i) (0, .dead) = _
      rw [famA_get F h1, h2]
end Go.Proofs.Yteblljpbnpaplaa
namespace Go.Proofs.Yteblljpbnpaplaa
set_option linter.unusedSectionVars false
variable [DrawFlag]
set_option linter.unusedSimpArgs false
set_option linter.unusedVariables false
open Go.RowKit
set_option maxRecDepth 20000

abbrev KS := List Int × List Int × List Int
def stS (c t : Int) (s : KS) : KS :=
  (if lvl s.2.1 t - 1 = 0 then s.1 ++ [t] else s.1, s.2.1.set t.toNat (lvl s.2.1 t - 1), s.2.2.set t.toNat (if lvl s.2.2 t < lvl s.2.2 c + 1 then lvl s.2.2 c + 1 else lvl s.2.2 t))
def inS (U : List Dp) (c : Int) (s : KS) : Nat → KS
  | 0 => s
  | k + 1 => stS c ((aftL U c).getD k 0) (inS U c s k)
def ouS (U : List Dp) (s : KS) : Nat → KS
  | 0 => s
  | i + 1 => inS U ((ouS U s i).1.getD i 0) (ouS U s i) (aftL U ((ouS U s i).1.getD i 0)).length
def KJn (n b : Nat) (U : List Dp) (P : List Int) (c : Int) (k : Nat) (s : KS) : Prop := KI n b U P c k s.1 s.2.1 s.2.2
theorem in_ok {n b : Nat} {U : List Dp} {P : List Int} {c : Int} {s : KS} (hU : ∀ d, d ∈ U → inD n d) (h : KJn n b U P c 0 s) (hc : c ∈ s.1) (hcP : c ∉ P) (hPQ : ∀ x, x ∈ P → x ∈ s.1) (hb : lvl s.2.2 c + 1 ≤ b) :
    ∀ k, k ≤ (aftL U c).length → KJn n b U P c k (inS U c s k) ∧ lvl (inS U c s k).2.2 c = lvl s.2.2 c ∧ ∃ X, (inS U c s k).1 = s.1 ++ X := by
  intro k
  induction k with
  | zero => intro _; exact ⟨h, rfl, [], by simp [inS]⟩
  | succ k ih =>
    intro hk
    obtain ⟨g1, g2, X, g3⟩ := ih (by omega)
    have hc2 : c ∈ (inS U c s k).1 := by rw [g3]; exact List.mem_append_left _ hc
    have hP2 : ∀ x, x ∈ P → x ∈ (inS U c s k).1 := fun x hx => by rw [g3]; exact List.mem_append_left _ (hPQ x hx)
    have hst := ki_step g1 hU hc2 hcP hP2 (by omega) rfl (by rw [g2]; exact hb) rfl
    obtain ⟨m1, _, m3⟩ := ki_more g1 hU hcP (show k < (aftL U c).length by omega)
    refine ⟨hst, ?_, ?_⟩
    · show lvl ((inS U c s k).2.2.set _ _) c = _
      rw [lvl_setE (by rw [g1.rlen]; exact m1) (h.qin c hc).1, if_neg (fun e => m3 (by rw [← e]; exact hc2)), g2]
    · unfold inS stS
      simp only
      split
      · exact ⟨X ++ [(aftL U c).getD k 0], by rw [g3, List.append_assoc]⟩
      · exact ⟨X, g3⟩
def OuOk (n : Nat) (U : List Dp) (s : KS) (i : Nat) : Prop := i ≤ s.1.length ∧ ∀ c, KJn n i U (s.1.take i) c 0 s
theorem ou_in {n : Nat} {U : List Dp} {s : KS} {i : Nat} (h : OuOk n U s i) (hi : i < s.1.length) :
    s.1.getD i 0 ∈ s.1 ∧ s.1.getD i 0 ∉ s.1.take i ∧ (∀ x, x ∈ s.1.take i → x ∈ s.1) ∧ inN n (s.1.getD i 0) ∧ lvl s.2.2 (s.1.getD i 0) ≤ i := by
  have hk := h.2 0
  have hg : s.1.getD i 0 = s.1[i] := by rw [List.getD_eq_getElem?_getD, List.getElem?_eq_getElem hi]; rfl
  have hm : s.1.getD i 0 ∈ s.1 := by rw [hg]; exact List.getElem_mem hi
  refine ⟨hm, fun hx => ?_, fun x hx => List.mem_of_mem_take hx, hk.qin _ hm, (hk.rge _ (hk.qin _ hm)).2⟩
  rw [hg] at hx
  obtain ⟨j, hj, e⟩ := List.getElem_of_mem hx
  rw [List.length_take] at hj
  rw [List.getElem_take] at e
  have := (List.getElem_inj hk.qnd).1 e
  omega
theorem ou_step {n : Nat} {U : List Dp} {s : KS} {i : Nat} (hU : ∀ d, d ∈ U → inD n d) (h : OuOk n U s i) (hi : i < s.1.length) : OuOk n U (inS U (s.1.getD i 0) s (aftL U (s.1.getD i 0)).length) (i + 1) := by
  obtain ⟨h1, h2, h3, h4, h5⟩ := ou_in h hi
  have hg : s.1.getD i 0 = s.1[i] := by rw [List.getD_eq_getElem?_getD, List.getElem?_eq_getElem hi]; rfl
  obtain ⟨g1, g2, X, g3⟩ := in_ok hU (ki_le (h.2 (s.1.getD i 0)) (Nat.le_succ i)) h1 h2 h3 (by omega) _ (Nat.le_refl _)
  refine ⟨by rw [g3, List.length_append]; omega, fun c => ?_⟩
  have := ki_done g1 h2 rfl c
  have ht : (inS U (s.1.getD i 0) s (aftL U (s.1.getD i 0)).length).1.take (i + 1) = s.1.take i ++ [s.1.getD i 0] := by
    rw [g3, List.take_append_of_le_length (by omega), List.take_succ_eq_append_getElem hi, hg]
  unfold KJn
  rw [ht]; exact this
theorem ou_end {n : Nat} {U : List Dp} {s0 : KS} (hU : ∀ d, d ∈ U → inD n d) (h0 : OuOk n U s0 0) :
    ∃ K, K ≤ n ∧ (∀ i, i ≤ K → OuOk n U (ouS U s0 i) i) ∧ (ouS U s0 K).1.length = K ∧ ∀ i, i < K → i < (ouS U s0 i).1.length := by
  have step : ∀ m, (∃ K, K ≤ n ∧ (∀ i, i ≤ K → OuOk n U (ouS U s0 i) i) ∧ (ouS U s0 K).1.length = K ∧ ∀ i, i < K → i < (ouS U s0 i).1.length) ∨ (∀ i, i ≤ m → OuOk n U (ouS U s0 i) i ∧ ∀ j, j < i → j < (ouS U s0 j).1.length) := by
    intro m
    induction m with
    | zero =>
      refine .inr fun i hi => ?_
      obtain rfl : i = 0 := by omega
      exact ⟨h0, fun j hj => by omega⟩
    | succ m ih =>
      rcases ih with h | h
      · exact .inl h
      · obtain ⟨g1, g2⟩ := h m (Nat.le_refl _)
        have hle := nodup_le (g1.2 0).qnd (g1.2 0).qin
        by_cases hm : m < (ouS U s0 m).1.length
        · refine .inr fun i hi => ?_
          by_cases e : i = m + 1
          · subst e
            refine ⟨ou_step hU g1 hm, fun j hj => ?_⟩
            by_cases e2 : j = m
            · rw [e2]; exact hm
            · exact g2 j (by omega)
          · exact h i (by omega)
        · have := g1.1
          exact .inl ⟨m, by omega, fun i hi => (h i hi).1, by omega, g2⟩
  rcases step (n + 1) with h | h
  · exact h
  · obtain ⟨g1, _⟩ := h (n + 1) (Nat.le_refl _)
    have hle := nodup_le (g1.2 0).qnd (g1.2 0).qin
    have := g1.1
    omega
end Go.Proofs.Yteblljpbnpaplaa
namespace Go.Proofs.Yteblljpbnpaplaa
set_option linter.unusedSectionVars false
variable [DrawFlag]
set_option linter.unusedSimpArgs false
set_option linter.unusedVariables false
open Go.RowKit
set_option maxRecDepth 20000

theorem dpsF_e (l : List Dp) (i : Nat) : dpsF l i = [.sc (.int .i64 (l.getD i default).f), .sc (.int .i64 (l.getD i default).t), .sc (.int .i64 (l.getD i default).n)] := rfl
theorem EVFE : (∀ (l : List Dp) (i : Nat), dpsF l i = [.sc (.int .i64 (l.getD i default).f), .sc (.int .i64 (l.getD i default).t), .sc (.int .i64 (l.getD i default).n)]) ∧ True := ⟨dpsF_e, trivial⟩
def hasM (n c : Int) : Bool := bif decide (0 ≤ c) then decide (c < n) else false
theorem ev_hasM (n c : Int) : Ev Try.prog 31 [.sc (.int .i64 c), .rptr [.sc (.int .i64 n)]] (.sc (.bool (hasM n c))) := by
  refine ev_fn Try.func31 comp31 (show 2 ≤ Try.f31.ntmps by decide) ?_; unfold cf31 rf31; simp only [↓EVP0, EVQ0, EVQ1, EVQ2, EVQ3, EVQ4, EVA, EVK, EVF,EVFE, ↓reduceIte, Nat.reduceEqDiff, Nat.reduceAdd, Nat.reduceSub, Nat.reduceMul, Nat.reduceLT, Nat.reduceLeDiff, reduceCtorEq, Int.reduceToNat, Int.reduceLT, Int.reduceLE, Int.reduceAdd, Int.reduceSub, Int.reduceMul, Int.reduceNeg, Int.reduceEq, Nat.reduceMod, forall_eq_or_imp, forall_eq, forall_const, cond_true, cond_false, decide_true, decide_false, true_imp_iff, implies_true, Int.cast_ofNat_Int, forall_eq']
  rfl
theorem hasM_iff {n : Nat} {c : Int} : hasM n c = true ↔ inN n c := by
  unfold hasM inN
  by_cases h : 0 ≤ c
  · rw [decide_eq_true h]; simp [h]
  · rw [decide_eq_false h]; simp [h]
def ctL (U : List Dp) (q : Bool) (v : Int) : List Int := bif q then aftL U v else befL U v
def misL (U : List Dp) (n : Nat) : List Int := (List.range n).map fun v : Nat => ((befL U v).length : Int)
theorem mis_len (U : List Dp) (n : Nat) : (misL U n).length = n := by simp [misL]
theorem mis_get {U : List Dp} {n : Nat} {v : Int} (h : inN n v) : lvl (misL U n) v = (befL U v).length := by
  unfold inN at h
  unfold lvl misL
  rw [List.getD_eq_getElem?_getD, List.getElem?_map, List.getElem?_range (by omega)]
  simp only [Option.map_some, Option.getD_some]
  rw [Int.toNat_of_nonneg h.1]
theorem mis_snoc {U : List Dp} {n b : Nat} {d : Dp} (hb : d.t = (b : Nat)) (hbn : b < n) : (misL U n).set b ((misL U n).getD b 0 + 1) = misL (U ++ [d]) n := by
  have hg : (misL U n).getD b 0 = ((befL U b).length : Int) := by
    have := mis_get (U := U) (n := n) (v := (b : Int)) ⟨by omega, by omega⟩
    unfold lvl at this
    rw [Int.toNat_natCast] at this; exact this
  rw [hg]
  apply List.ext_getElem?
  intro i
  rw [List.getElem?_set, mis_len]
  unfold misL
  simp only [List.getElem?_map]
  by_cases hi : i < n
  · rw [List.getElem?_range hi]
    simp only [Option.map_some]
    rw [bef_snoc, hb]
    by_cases e : b = i
    · subst e
      rw [if_pos rfl, if_pos hbn, if_pos rfl]; simp
    · rw [if_neg e, if_neg (by omega)]
  · rw [List.getElem?_eq_none (by simp; omega), if_neg (by omega)]; rfl
theorem ct_snoc {U : List Dp} {d : Dp} : ctL (U ++ [d]) = updC (updC (ctL U) false d.t (befL U d.t ++ [d.f])) true d.f (aftL U d.f ++ [d.t]) := by
  funext q v
  unfold updC ctL
  cases q
  · simp only [cond_false, Bool.false_eq_true, false_and, if_false, true_and]
    rw [bef_snoc]
    by_cases e : d.t = v
    · rw [if_pos e, if_pos e.symm, e]
    · rw [if_neg e, if_neg (fun h => e h.symm)]
  · simp only [cond_true, true_and, Bool.true_eq_false, false_and, if_false]
    rw [aft_snoc]
    by_cases e : d.f = v
    · rw [if_pos e, if_pos e.symm, e]
    · rw [if_neg e, if_neg (fun h => e h.symm)]
def qzL (M : List Int) : Nat → List Int
  | 0 => []
  | j + 1 => if M.getD j 0 = 0 then qzL M j ++ [(j : Int)] else qzL M j
theorem qz_mem {M : List Int} {j : Nat} {x : Int} : x ∈ qzL M j ↔ inN j x ∧ lvl M x = 0 := by
  unfold inN lvl
  induction j with
  | zero => simp [qzL]; omega
  | succ j ih =>
    unfold qzL
    split
    · rename_i h
      rw [List.mem_append, ih, List.mem_singleton]
      constructor
      · rintro (⟨h1, h2⟩ | rfl)
        · exact ⟨by omega, h2⟩
        · exact ⟨by omega, by rw [Int.toNat_natCast]; exact h⟩
      · rintro ⟨h1, h2⟩
        by_cases e : x = j
        · exact .inr e
        · exact .inl ⟨by omega, h2⟩
    · rename_i h
      rw [ih]
      constructor
      · rintro ⟨h1, h2⟩; exact ⟨by omega, h2⟩
      · rintro ⟨h1, h2⟩
        refine ⟨?_, h2⟩
        have : x ≠ j := fun e => by rw [e, Int.toNat_natCast] at h2; exact h h2
        omega
theorem qz_nodup (M : List Int) (j : Nat) : (qzL M j).Nodup := by
  induction j with
  | zero => exact List.nodup_nil
  | succ j ih =>
    unfold qzL
    split
    · refine List.nodup_append.2 ⟨ih, by simp, fun a ha b hb e => ?_⟩
      simp at hb
      subst hb; subst e
      have := (qz_mem.1 ha).1
      unfold inN at this; omega
    · exact ih
theorem qz_len (M : List Int) (j : Nat) : (qzL M j).length ≤ j := by
  induction j with
  | zero => exact Nat.le_refl _
  | succ j ih =>
    unfold qzL
    split
    · rw [List.length_append, List.length_singleton]; omega
    · omega
def qS (N : Nat) (Q : List Int) : LV := if Q = [] then .nsl else .sl (N + 1 + 1 + 1 + 1 + 1 + 1) (Q.length - 1) 1 0 Q.length
def qT (Q : List Int) : List (Nat × LO) := if Q = [] then [] else [(0, .ints [Q.getD 0 0]), (Q.length - 1, .ints Q)]
theorem qS_nil (N : Nat) : qS N [] = .nsl := rfl
theorem qT_nil : qT [] = [] := rfl
theorem qS_ne (N : Nat) {Q : List Int} (h : Q ≠ []) : qS N Q = .sl (N + 1 + 1 + 1 + 1 + 1 + 1) (Q.length - 1) 1 0 Q.length := if_neg h
theorem qT_ne {Q : List Int} (h : Q ≠ []) : qT Q = [(0, .ints [Q.getD 0 0]), (Q.length - 1, .ints Q)] := if_neg h
theorem qS_one (N : Nat) (x : Int) : qS N [x] = .sl (N + 1 + 1 + 1 + 1 + 1 + 1) 0 1 0 1 := rfl
theorem qT_one (x : Int) : qT [x] = [(0, .ints [x]), (0, .ints [x])] := rfl
theorem qT_snoc {Q : List Int} (h : Q ≠ []) (x : Int) : qT (Q ++ [x]) = [(0, .ints [Q.getD 0 0]), (Q.length, .ints (Q ++ [x]))] := by
  rw [qT_ne (by simp), getD_appL (List.length_pos_iff.2 h)]; simp
theorem qS_snoc (N : Nat) (Q : List Int) (x : Int) : qS N (Q ++ [x]) = .sl (N + 1 + 1 + 1 + 1 + 1 + 1) Q.length 1 0 (Q.length + 1) := by
  rw [qS_ne N (by simp)]; simp
theorem qS_below {F : Nat → Nat × LO} {N : Nat} {Q : List Int} (h : N ≤ (famN F N ++ qT Q).length) : belowV ((famN F N ++ qT Q).length + 1 + 1 + 1 + 1 + 1) (qS N Q) := by
  by_cases e : Q = []
  · rw [e]; trivial
  · rw [qS_ne N e, qT_ne e, List.length_append, famN_len]
    show _ < _
    simp only [List.length_cons, List.length_nil]
    omega
theorem qT_nums (Q : List Int) (v : Nat) (R : List Int) : nums ((v, .ints R) :: qT Q) := by
  unfold qT
  split <;> trivial
theorem getD_cons4 (a b c x : Nat × LO) (t : List (Nat × LO)) {i : Nat} (hi : i < [a, b, c].length) : (a :: b :: c :: x :: t).getD i (0, .dead) = [a, b, c].getD i (0, .dead) := by
  match i, hi with
  | 0, _ => rfl
  | 1, _ => rfl
  | 2, _ => rfl
  | i + 3, hi => simp at hi; omega
def kh0 (U : List Dp) (m : Nat) : KS := (qzL (misL U m) m, misL U m, List.replicate m 0)
theorem kh0_ok {U : List Dp} {m : Nat} : OuOk m U (kh0 U m) 0 := by
  refine ⟨Nat.zero_le _, fun c => ?_⟩
  exact ki_start c (mis_len U m) (fun v hv => mis_get hv) (fun x hx => (qz_mem.1 hx).1) (qz_nodup _ _) (fun v hv => by
    show v ∈ qzL (misL U m) m ↔ _
    rw [qz_mem]; exact ⟨fun h => h.2, fun h => ⟨hv, h⟩⟩)
def MkOk (l : List Dp) (n : Int) (R C : List Int) (e : Int) : Prop :=
  (e = 1 ∧ R = [] ∧ C = [] ∧ (n < 0 ∨ 512 < n ∨ ∃ d, d ∈ l ∧ ¬ inD n.toNat d)) ∨
  (0 ≤ n ∧ n ≤ 512 ∧ (∀ d, d ∈ l → inD n.toNat d) ∧ ((e = 0 ∧ C = [] ∧ RankOk n.toNat l R) ∨ (e = 11 ∧ R = [] ∧ cycOk l C)))
theorem ev_make {l U : List Dp} {n : Int} (hll : l.length ≤ 1000) (hUn : Ev Try.prog 32 [dpsV l, .nsl] (dpsV U)) (hUm : ∀ d, d ∈ U ↔ d ∈ l) (hUl : U.length ≤ 1000) (hn : In64 n) :
    ∃ R C e, MkOk l n R C e ∧ Ev Try.prog 14 [dpsV l, .sc (.int .i64 n)] (.tup [intsV R, intsV C, .sc (.int .i64 e)]) := by
  have hhas := fun c => ev_hasM n c
  unfold dpsV intsV at *
  by_cases hb : n < 0 ∨ 512 < n
  · refine ⟨[], [], 1, .inl ⟨rfl, rfl, rfl, by omega⟩, ?_⟩
    refine ev_fn Try.func14 comp14 (show 2 ≤ Try.f14.ntmps by decide) ?_; unfold cf14 rf14; simp only [↓EVP0, EVQ0, EVQ1, EVQ2, EVQ3, EVQ4, EVA, EVK, EVF,EVFE, ↓reduceIte, Nat.reduceEqDiff, Nat.reduceAdd, Nat.reduceSub, Nat.reduceMul, Nat.reduceLT, Nat.reduceLeDiff, reduceCtorEq, Int.reduceToNat, Int.reduceLT, Int.reduceLE, Int.reduceAdd, Int.reduceSub, Int.reduceMul, Int.reduceNeg, Int.reduceEq, Nat.reduceMod, forall_eq_or_imp, forall_eq, forall_const, cond_true, cond_false, decide_true, decide_false, true_imp_iff, implies_true, Int.cast_ofNat_Int, forall_eq']
    have e : (bif decide (n < 0) then true else decide (512 < n)) = true := by
      rcases hb with h | h
      · rw [decide_eq_true h]; rfl
      · rw [decide_eq_true h]; cases decide (n < 0) <;> rfl
    rw [e]
    simp only [↓EVP0, EVQ0, EVQ1, EVQ2, EVQ3, EVQ4, EVA, EVK, EVF,EVFE, ↓reduceIte, Nat.reduceEqDiff, Nat.reduceAdd, Nat.reduceSub, Nat.reduceMul, Nat.reduceLT, Nat.reduceLeDiff, reduceCtorEq, Int.reduceToNat, Int.reduceLT, Int.reduceLE, Int.reduceAdd, Int.reduceSub, Int.reduceMul, Int.reduceNeg, Int.reduceEq, Nat.reduceMod, forall_eq_or_imp, forall_eq, forall_const, cond_true, cond_false, decide_true, decide_false, true_imp_iff, implies_true, Int.cast_ofNat_Int, forall_eq']
  have hb0 : 0 ≤ n := by omega
  obtain ⟨m, rfl⟩ := Int.eq_ofNat_of_zero_le hb0
  have hm : m ≤ 512 := by omega
  have e : (bif decide ((m : Int) < 0) then true else decide (512 < (m : Int))) = false := by
    rw [decide_eq_false (show ¬ (m : Int) < 0 by omega), decide_eq_false (show ¬ 512 < (m : Int) by omega)]; rfl
  have hmem : ∀ i, i < l.length → l.getD i default ∈ l := fun i hi => getD_mem default hi
  -- the check of the ends
  by_cases hall : ∀ d, d ∈ l → inD m d
  · have hU : ∀ d, d ∈ U → inD m d := fun d hd => hall d ((hUm d).1 hd)
    obtain ⟨K, hKm, hK1, hK2, hK3⟩ := ou_end hU (kh0_ok (U := U) (m := m))
    have hKI := (hK1 K (Nat.le_refl _)).2
    have htk : (ouS U (kh0 U m) K).1.take K = (ouS U (kh0 U m) K).1 := List.take_of_length_le (by rw [hK2]; exact Nat.le_refl _)
    rw [htk] at hKI
    obtain ⟨w1, w2, w3⟩ := ki_waits (hKI 0) hU
    obtain ⟨R, C, ec, hOk, hres⟩ : ∃ R C e, MkOk l m R C e ∧ ((K = m ∧ e = 0 ∧ C = [] ∧ R = (ouS U (kh0 U m) K).2.2) ∨ (K < m ∧ e = 11 ∧ R = [] ∧ Ev Try.prog 33 [.rsl 1 m (bfF U), intsV (ouS U (kh0 U m) K).2.1] (intsV C))) := by
      have hall2 : ∀ d, d ∈ l → inD (m : Int).toNat d := hall
      by_cases hKe : K = m
      · have hr := ki_ranks (hKI 0) hU (by omega) hKm
        exact ⟨(ouS U (kh0 U m) K).2.2, [], 0, .inr ⟨by omega, by omega, hall2, .inl ⟨rfl, rfl, ⟨hr.len, hr.ge, fun d hd => hr.lt d ((hUm d).2 hd), fun v hv h => by
          obtain ⟨d, g1, g2⟩ := hr.fr v hv h
          exact ⟨d, (hUm d).1 g1, g2⟩⟩⟩⟩, .inl ⟨hKe, rfl, rfl, rfl⟩⟩
      · obtain ⟨c, g1, g2⟩ := ev_cycle hU hUl (by omega) (hKI 0).mlen w2 (w3 (by omega))
        exact ⟨[], c, 11, .inr ⟨by omega, by omega, hall2, .inr ⟨rfl, rfl, cyc_mem g1 fun d hd => (hUm d).1 hd⟩⟩, .inr ⟨by omega, rfl, rfl, g2⟩⟩
    refine ⟨R, C, ec, hOk, ?_⟩
    unfold intsV at hres
    refine ev_fn Try.func14 comp14 (show 2 ≤ Try.f14.ntmps by decide) ?_; unfold cf14 rf14; simp only [↓EVP0, EVQ0, EVQ1, EVQ2, EVQ3, EVQ4, EVA, EVK, EVF,EVFE, ↓reduceIte, Nat.reduceEqDiff, Nat.reduceAdd, Nat.reduceSub, Nat.reduceMul, Nat.reduceLT, Nat.reduceLeDiff, reduceCtorEq, Int.reduceToNat, Int.reduceLT, Int.reduceLE, Int.reduceAdd, Int.reduceSub, Int.reduceMul, Int.reduceNeg, Int.reduceEq, Nat.reduceMod, forall_eq_or_imp, forall_eq, forall_const, cond_true, cond_false, decide_true, decide_false, true_imp_iff, implies_true, Int.cast_ofNat_Int, forall_eq']
    rw [e]
    simp only [↓EVP0, EVQ0, EVQ1, EVQ2, EVQ3, EVQ4, EVA, EVK, EVF,EVFE, ↓reduceIte, Nat.reduceEqDiff, Nat.reduceAdd, Nat.reduceSub, Nat.reduceMul, Nat.reduceLT, Nat.reduceLeDiff, reduceCtorEq, Int.reduceToNat, Int.reduceLT, Int.reduceLE, Int.reduceAdd, Int.reduceSub, Int.reduceMul, Int.reduceNeg, Int.reduceEq, Nat.reduceMod, forall_eq_or_imp, forall_eq, forall_const, cond_true, cond_false, decide_true, decide_false, true_imp_iff, implies_true, Int.cast_ofNat_Int, forall_eq']
    intro _
    refine lwp_for (α := Unit) l.length (fun i _ => ∀ d, d ∈ l.take i → inD m d) (fun i _ => [(0, .rsl 3 l.length (dpsF l)), (3, .ptr 0 0 0 0 0), (7, .fn 31 [.ptr 0 0 0 0 0]), (30, .rsl 3 l.length (dpsF l)), (31, .sc (.int .i64 l.length)), (32, .sc (.int .i64 i))])
      (fun _ _ => [(0, .box [.sc (.int .i64 m)])]) () (fun d hd => by simp at hd) ?_ (fun _ _ => Nat.zero_le _) ?_
    · simp only [↓EVP0, EVQ0, EVQ1, EVQ2, EVQ3, EVQ4, EVA, EVK, EVF,EVFE, ↓reduceIte, Nat.reduceEqDiff, Nat.reduceAdd, Nat.reduceSub, Nat.reduceMul, Nat.reduceLT, Nat.reduceLeDiff, reduceCtorEq, Int.reduceToNat, Int.reduceLT, Int.reduceLE, Int.reduceAdd, Int.reduceSub, Int.reduceMul, Int.reduceNeg, Int.reduceEq, Nat.reduceMod, forall_eq_or_imp, forall_eq, forall_const, cond_true, cond_false, decide_true, decide_false, true_imp_iff, implies_true, Int.cast_ofNat_Int, forall_eq']
    intro i _ hi hx
    unfold lb14_4
    simp only [↓EVP0, EVQ0, EVQ1, EVQ2, EVQ3, EVQ4, EVA, EVK, EVF,EVFE, ↓reduceIte, Nat.reduceEqDiff, Nat.reduceAdd, Nat.reduceSub, Nat.reduceMul, Nat.reduceLT, Nat.reduceLeDiff, reduceCtorEq, Int.reduceToNat, Int.reduceLT, Int.reduceLE, Int.reduceAdd, Int.reduceSub, Int.reduceMul, Int.reduceNeg, Int.reduceEq, Nat.reduceMod, forall_eq_or_imp, forall_eq, forall_const, cond_true, cond_false, decide_true, decide_false, true_imp_iff, implies_true, Int.cast_ofNat_Int, forall_eq']
    refine ⟨fun hg => ?_, fun hg => ?_⟩
    · have hi2 : i < l.length := by have := of_decide_eq_true hg; omega
      refine ⟨⟨by omega, by omega⟩, by kernel_rfl, ?_⟩
      refine callK_frzF (hhas _) ⟨roToF_self trivial, roTo2_box (by simp [mkH]) rfl ⟨⟨rfl, trivial⟩, trivial⟩, trivial⟩ trivial ?_
      simp only [↓EVP0, EVQ0, EVQ1, EVQ2, EVQ3, EVQ4, EVA, EVK, EVF,EVFE, ↓reduceIte, Nat.reduceEqDiff, Nat.reduceAdd, Nat.reduceSub, Nat.reduceMul, Nat.reduceLT, Nat.reduceLeDiff, reduceCtorEq, Int.reduceToNat, Int.reduceLT, Int.reduceLE, Int.reduceAdd, Int.reduceSub, Int.reduceMul, Int.reduceNeg, Int.reduceEq, Nat.reduceMod, forall_eq_or_imp, forall_eq, forall_const, cond_true, cond_false, decide_true, decide_false, true_imp_iff, implies_true, Int.cast_ofNat_Int, forall_eq']
      (refine lops_ge_imp ?_; simp only [↓EVP0, EVQ0, EVQ1, EVQ2, EVQ3, EVQ4, EVA, EVK, EVF,EVFE, ↓reduceIte, Nat.reduceEqDiff, Nat.reduceAdd, Nat.reduceSub, Nat.reduceMul, Nat.reduceLT, Nat.reduceLeDiff, reduceCtorEq, Int.reduceToNat, Int.reduceLT, Int.reduceLE, Int.reduceAdd, Int.reduceSub, Int.reduceMul, Int.reduceNeg, Int.reduceEq, Nat.reduceMod, forall_eq_or_imp, forall_eq, forall_const, cond_true, cond_false, decide_true, decide_false, true_imp_iff, implies_true, Int.cast_ofNat_Int, forall_eq'])
      refine ⟨fun h => ⟨h, h, by kernel_rfl⟩, ?_⟩
      refine gCallK_frzF _ (fun _ => hhas _) (fun _ => ⟨roToF_self trivial, roTo2_box (by simp [mkH]) rfl ⟨⟨rfl, trivial⟩, trivial⟩, trivial⟩) trivial ?_
      simp only [↓EVP0, EVQ0, EVQ1, EVQ2, EVQ3, EVQ4, EVA, EVK, EVF,EVFE, ↓reduceIte, Nat.reduceEqDiff, Nat.reduceAdd, Nat.reduceSub, Nat.reduceMul, Nat.reduceLT, Nat.reduceLeDiff, reduceCtorEq, Int.reduceToNat, Int.reduceLT, Int.reduceLE, Int.reduceAdd, Int.reduceSub, Int.reduceMul, Int.reduceNeg, Int.reduceEq, Nat.reduceMod, forall_eq_or_imp, forall_eq, forall_const, cond_true, cond_false, decide_true, decide_false, true_imp_iff, implies_true, Int.cast_ofNat_Int, forall_eq']
      have hd := hall _ (hmem i hi2)
      rw [hasM_iff.2 hd.1, hasM_iff.2 hd.2]
      simp only [↓EVP0, EVQ0, EVQ1, EVQ2, EVQ3, EVQ4, EVA, EVK, EVF,EVFE, ↓reduceIte, Nat.reduceEqDiff, Nat.reduceAdd, Nat.reduceSub, Nat.reduceMul, Nat.reduceLT, Nat.reduceLeDiff, reduceCtorEq, Int.reduceToNat, Int.reduceLT, Int.reduceLE, Int.reduceAdd, Int.reduceSub, Int.reduceMul, Int.reduceNeg, Int.reduceEq, Nat.reduceMod, forall_eq_or_imp, forall_eq, forall_const, cond_true, cond_false, decide_true, decide_false, true_imp_iff, implies_true, Int.cast_ofNat_Int, forall_eq']
      refine ⟨by unfold In64; omega, hi2, (), fun d hd => hall d (List.mem_of_mem_take hd)⟩
    refine ⟨by unfold mksC; omega, by unfold mksC; omega, by unfold mksC; omega, ?_⟩
    refine callK_ro (hUn) ?_ ?_
    · simp only [↓EVP0, EVQ0, EVQ1, EVQ2, EVQ3, EVQ4, EVA, EVK, EVF,EVFE, ↓reduceIte, Nat.reduceEqDiff, Nat.reduceAdd, Nat.reduceSub, Nat.reduceMul, Nat.reduceLT, Nat.reduceLeDiff, reduceCtorEq, Int.reduceToNat, Int.reduceLT, Int.reduceLE, Int.reduceAdd, Int.reduceSub, Int.reduceMul, Int.reduceNeg, Int.reduceEq, Nat.reduceMod, forall_eq_or_imp, forall_eq, forall_const, cond_true, cond_false, decide_true, decide_false, true_imp_iff, implies_true, Int.cast_ofNat_Int, forall_eq']
    simp only [↓EVP0, EVQ0, EVQ1, EVQ2, EVQ3, EVQ4, EVA, EVK, EVF,EVFE, ↓reduceIte, Nat.reduceEqDiff, Nat.reduceAdd, Nat.reduceSub, Nat.reduceMul, Nat.reduceLT, Nat.reduceLeDiff, reduceCtorEq, Int.reduceToNat, Int.reduceLT, Int.reduceLE, Int.reduceAdd, Int.reduceSub, Int.reduceMul, Int.reduceNeg, Int.reduceEq, Nat.reduceMod, forall_eq_or_imp, forall_eq, forall_const, cond_true, cond_false, decide_true, decide_false, true_imp_iff, implies_true, Int.cast_ofNat_Int, forall_eq']
    intro _
    refine lwp_for (α := Nat × (Nat → Nat × LO) × (Bool → Int → Nat)) U.length (fun k st => LI (ctL (U.take k)) st.1 st.2.1 st.2.2) (fun k _ => [(3, .ptr 0 0 0 0 0), (10, .sl 1 0 1 0 m), (11, .sl 2 0 1 0 m), (12, .sl 3 0 1 0 m), (56, .rsl 3 U.length (dpsF U)), (57, .sc (.int .i64 U.length)), (58, .sc (.int .i64 k))])
      (fun k st => (0, .box [.sc (.int .i64 m)]) :: (0, .row 1 m (rwF st.2.2 (ctL (U.take k)) false)) :: (0, .row 1 m (rwF st.2.2 (ctL (U.take k)) true)) :: (0, .ints (misL (U.take k) m)) :: famN st.2.1 st.1) (0, (fun _ => (0, .dead)), fun _ _ => 0) ?_ ?_ (fun _ _ => Nat.zero_le _) ?_
    · have h0 : ctL (U.take 0) = fun _ _ => [] := by funext q v; cases q <;> rfl
      rw [h0]
      exact li_start 0 _ _ fun j hj => absurd hj (Nat.not_lt_zero _)
    · have hm0 : misL (U.take 0) m = List.replicate m 0 := by
        unfold misL
        rw [show (fun v : Nat => ((befL (U.take 0) (v : Int)).length : Int)) = fun _ => 0 from funext fun v => rfl, List.map_const', List.length_range]
      rw [hm0]
      simp only [show (famN (fun _ : Nat => ((0, .dead) : Nat × LO)) 0) = [] from rfl, ↓EVP0, EVQ0, EVQ1, EVQ2, EVQ3, EVQ4, EVA, EVK, EVF,EVFE, ↓reduceIte, Nat.reduceEqDiff, Nat.reduceAdd, Nat.reduceSub, Nat.reduceMul, Nat.reduceLT, Nat.reduceLeDiff, reduceCtorEq, Int.reduceToNat, Int.reduceLT, Int.reduceLE, Int.reduceAdd, Int.reduceSub, Int.reduceMul, Int.reduceNeg, Int.reduceEq, Nat.reduceMod, forall_eq_or_imp, forall_eq, forall_const, cond_true, cond_false, decide_true, decide_false, true_imp_iff, implies_true, Int.cast_ofNat_Int, forall_eq']
      have hr : ∀ q, rwF (fun _ _ => 0) (ctL []) q = fun _ => [LV.nsl] := fun q => by
        funext i; unfold rwF; rw [if_pos (by cases q <;> rfl)]
      rw [hr, hr]
      exact ⟨rfl, fun _ _ => ⟨trivial, trivial⟩, rfl, fun _ _ => ⟨trivial, trivial⟩⟩
    rintro k ⟨N, F, o⟩ hk hLI
    simp only at hLI
    by_cases hk2 : k < U.length
    · have hd := hU _ (show U.getD k default ∈ U from getD_mem default hk2)
      have hsn : U.take (k + 1) = U.take k ++ [U.getD k default] := take_succ_getD default _ _ hk2
      generalize hdd : U.getD k default = d at *
      obtain ⟨⟨f0, f1⟩, t0, t1⟩ := hd
      obtain ⟨a, ha⟩ := Int.eq_ofNat_of_zero_le f0
      obtain ⟨b, hb⟩ := Int.eq_ofNat_of_zero_le t0
      have hJ := li_junk hLI (x := (0, .box [.sc (.int .i64 a), .sc (.int .i64 b), .sc (.int .i64 d.n)])) (fun q => ⟨trivial, trivial, trivial, trivial⟩)
      have c1 : N < N + 1 := by omega
      have c2 : N < N + 1 + 1 := by omega
      have c4 : N + 1 < N + 1 + 1 := by omega
      have n1 : N ≠ N + 1 := by omega
      unfold lb14_3
      simp only [hdd, ha, hb, famN_push, famN_len, mkH4_s0, mkH4_s1, mkH4_s2, mkH4_s3, famN_get, mkH4_set, updF_same, updF_ne, updF_updF, c1, c2, ne_eq, not_false_eq_true, ↓EVP0, EVQ0, EVQ1, EVQ2, EVQ3, EVQ4, EVA, EVK, EVF,EVFE, ↓reduceIte, Nat.reduceEqDiff, Nat.reduceAdd, Nat.reduceSub, Nat.reduceMul, Nat.reduceLT, Nat.reduceLeDiff, reduceCtorEq, Int.reduceToNat, Int.reduceLT, Int.reduceLE, Int.reduceAdd, Int.reduceSub, Int.reduceMul, Int.reduceNeg, Int.reduceEq, Nat.reduceMod, forall_eq_or_imp, forall_eq, forall_const, cond_true, cond_false, decide_true, decide_false, true_imp_iff, implies_true, Int.cast_ofNat_Int, forall_eq']
      refine ⟨fun _ => ?_, fun h => by have := of_decide_eq_false h; omega⟩
      refine ⟨⟨by omega, by omega⟩, by omega, ?_⟩
      refine lwp_join (α := Nat × (Nat → Nat × LO) × (Bool → Int → Nat)) (fun st => LI (updC (ctL (U.take k)) false d.t (befL (U.take k) d.t ++ [d.f])) st.1 st.2.1 st.2.2 ∧ N < st.1 ∧ st.2.1 N = (0, .box [.sc (.int .i64 a), .sc (.int .i64 b), .sc (.int .i64 d.n)]))
        (fun _ => [(3, .ptr 0 0 0 0 0), (10, .sl 1 0 1 0 m), (11, .sl 2 0 1 0 m), (12, .sl 3 0 1 0 m), (14, .ptr (N + 1 + 1 + 1 + 1) 0 0 0 0), (56, .rsl 3 U.length (dpsF U)), (57, .sc (.int .i64 U.length)), (58, .sc (.int .i64 k))])
        (fun st => (0, .box [.sc (.int .i64 m)]) :: (0, .row 1 m (rwF st.2.2 (updC (ctL (U.take k)) false d.t (befL (U.take k) d.t ++ [d.f])) false)) :: (0, .row 1 m (rwF st.2.2 (updC (ctL (U.take k)) false d.t (befL (U.take k) d.t ++ [d.f])) true)) :: (0, .ints (misL (U.take k) m)) :: famN st.2.1 st.1) (fun _ => Nat.zero_le _) ?_ ?_
      · by_cases hB : befL (U.take k) d.t = []
        · have rB : rwF o (ctL (U.take k)) false b = [.nsl] := by unfold rwF ctL; rw [cond_false, ← hb, if_pos hB]
          simp only [hdd, ha, hb, rB, famN_push, famN_len, mkH4_s0, mkH4_s1, mkH4_s2, mkH4_s3, famN_get, mkH4_set, updF_same, updF_ne, updF_updF, c1, c2, c4, n1, ne_eq, not_false_eq_true, ↓EVP0, EVQ0, EVQ1, EVQ2, EVQ3, EVQ4, EVA, EVK, EVF,EVFE, ↓reduceIte, Nat.reduceEqDiff, Nat.reduceAdd, Nat.reduceSub, Nat.reduceMul, Nat.reduceLT, Nat.reduceLeDiff, reduceCtorEq, Int.reduceToNat, Int.reduceLT, Int.reduceLE, Int.reduceAdd, Int.reduceSub, Int.reduceMul, Int.reduceNeg, Int.reduceEq, Nat.reduceMod, forall_eq_or_imp, forall_eq, forall_const, cond_true, cond_false, decide_true, decide_false, true_imp_iff, implies_true, Int.cast_ofNat_Int, forall_eq']
          have hN4 : N + 1 + 1 + 1 + 1 < N + 1 + 1 + 1 + 1 + 1 := by omega
          have hN5 : N + 1 + 1 + 1 + 1 < N + 1 + 1 + 1 + 1 + 1 + 1 := by omega
          have hL2 := li_new (x := d.f) hJ (q := false) (v := d.t) (by exact hB)
          rw [ha, hb] at hL2
          rw [hb] at hB
          rw [hB, List.nil_append]
          have bm : 0 ≤ (b : Int) ∧ (b : Int) < m := by omega
          have bm2 : b < m := by omega
          have room : appRoom 8 1 := by unfold appRoom; omega
          refine ⟨hN4, ⟨by omega, bm⟩, ⟨by omega, by decide, bm2⟩, hN4, intsF [(a : Int)], fun i hi => ?_, ⟨hN4, fun _ _ => trivial, room, ⟨by omega, bm⟩, by omega, bm2, ?_⟩, ⟨fun _ _ => trivial, room, hN5, ⟨by omega, bm⟩, by omega, bm2, ?_⟩⟩
          · obtain rfl : i = 0 := by omega
            rfl
          all_goals
            refine ⟨(N + 1 + 1, updF (updF F N (0, .box [.sc (.int .i64 a), .sc (.int .i64 b), .sc (.int .i64 d.n)])) (N + 1) (0, .ints [(a : Int)]), updJ o false b (N + 1)), ⟨hL2, by omega, ?_⟩, Nat.le_refl _, ⟨by omega, by omega, by omega, by omega, by omega⟩, rw_set (x := [(a : Int)]) (by simp) rfl, rw_all hL2 false m, by rw [rw_other (by decide)], rw_all hL2 true m, wk4 hL2 _ _ _ _⟩
            show updF (updF _ _ _) _ _ N = _
            rw [updF_ne _ _ n1, updF_same]
        · have hL2 := li_more (x := d.f) hJ (q := false) (v := d.t) (by exact hB)
          obtain ⟨hoN, hoF⟩ := hLI.at_ false d.t (by exact hB)
          have rB : rwF o (ctL (U.take k)) false b = [.sl (o false b + 1 + 1 + 1 + 1) ((befL (U.take k) b).length - 1) 1 0 (befL (U.take k) b).length] := by unfold rwF ctL; rw [cond_false, ← hb, if_neg hB]
          have hBl : (befL (U.take k) d.t).length ≤ 1000 := Nat.le_trans (bef_len _ _) (by rw [List.length_take]; omega)
          rw [ha, hb] at hL2
          rw [hb] at hB hoN hoF hBl
          have hct : ctL (U.take k) false b = befL (U.take k) b := rfl
          rw [hct] at hoF hL2
          generalize hQ : befL (U.take k) (b : Int) = Q at *
          have hQ0 : 0 < Q.length := List.length_pos_iff.2 hB
          have o1 : o false b < N + 1 := by omega
          have o2 : o false b ≠ N := by omega
          have o3 : N ≠ o false b := by omega
          simp only [hdd, ha, hb, rB, hQ, hoF, o1, o2, o3, famN_push, famN_len, mkH4_s0, mkH4_s1, mkH4_s2, mkH4_s3, famN_get, mkH4_set, updF_same, updF_ne, updF_updF, c1, c2, c4, n1, ne_eq, not_false_eq_true, ↓EVP0, EVQ0, EVQ1, EVQ2, EVQ3, EVQ4, EVA, EVK, EVF,EVFE, ↓reduceIte, Nat.reduceEqDiff, Nat.reduceAdd, Nat.reduceSub, Nat.reduceMul, Nat.reduceLT, Nat.reduceLeDiff, reduceCtorEq, Int.reduceToNat, Int.reduceLT, Int.reduceLE, Int.reduceAdd, Int.reduceSub, Int.reduceMul, Int.reduceNeg, Int.reduceEq, Nat.reduceMod, forall_eq_or_imp, forall_eq, forall_const, cond_true, cond_false, decide_true, decide_false, true_imp_iff, implies_true, Int.cast_ofNat_Int, forall_eq']
          have hN4 : N + 1 + 1 + 1 + 1 < N + 1 + 1 + 1 + 1 + 1 := by omega
          have bm : 0 ≤ (b : Int) ∧ (b : Int) < m := by omega
          have bm2 : b < m := by omega
          have room : appRoom 8 (Q.length + 1) := by unfold appRoom; omega
          have q1 : Q.length - 1 + 1 = Q.length := by omega
          have hoN4 : o false b + 1 + 1 + 1 + 1 < N + 1 + 1 + 1 + 1 + 1 := by omega
          refine ⟨hN4, ⟨by omega, bm⟩, ⟨by omega, by decide, bm2⟩, hN4, intsF [(a : Int)], fun i hi => ?_, ⟨hN4, fun _ _ => trivial, hoN4, Nat.le_refl _, room, ⟨by omega, bm⟩, by omega, bm2, ?_⟩, ⟨fun _ _ => trivial, hoN4, Nat.le_refl _, room, hN4, ⟨by omega, bm⟩, by omega, bm2, ?_⟩⟩
          · obtain rfl : i = 0 := by omega
            rfl
          all_goals
            rw [List.take_length, q1]
            refine ⟨(N + 1, updF (updF F N (0, .box [.sc (.int .i64 a), .sc (.int .i64 b), .sc (.int .i64 d.n)])) (o false b) (Q.length, .ints (Q ++ [(a : Int)])), updJ o false b (o false b)), ⟨by rw [updJ_self]; exact hL2, by omega, ?_⟩, Nat.le_refl _, ⟨by omega, by omega, by omega, by omega, by omega⟩, rw_set (x := Q ++ [(a : Int)]) (by simp) (by simp), ?_, by rw [rw_other (by decide)], ?_, wk4 hL2 _ _ _ _⟩
            · show updF (updF _ _ _) _ _ N = _
              rw [updF_ne _ _ o3, updF_same]
            · rw [updJ_self]; exact rw_all hL2 false m
            · rw [updJ_self]; exact rw_all hL2 true m
      · rintro ⟨M2, G, p⟩ ⟨hL, hNM, hbx⟩
        simp only at hL hNM hbx
        have hts := ct_snoc (U := U.take k) (d := d)
        rw [← hsn] at hts
        have hms := mis_snoc (U := U.take k) (n := m) (d := d) hb (by omega)
        rw [← hsn] at hms
        have hml := mis_len (U.take k) m
        have hca : updC (ctL (U.take k)) false d.t (befL (U.take k) d.t ++ [d.f]) true (a : Int) = aftL (U.take k) a := updC_ne (fun h => by simp at h)
        have hbm : 0 ≤ (misL (U.take k) m).getD b 0 ∧ (misL (U.take k) m).getD b 0 ≤ 1000 := by
          have h1 := mis_get (U := U.take k) (n := m) (v := (b : Int)) ⟨by omega, by omega⟩
          unfold lvl at h1
          rw [Int.toNat_natCast] at h1
          have h2 := bef_len (U.take k) b
          rw [List.length_take] at h2
          omega
        have am : 0 ≤ (a : Int) ∧ (a : Int) < m := by omega
        have am2 : a < m := by omega
        have bm : 0 ≤ (b : Int) ∧ (b : Int) < m := by omega
        have bm2 : b < m := by omega
        generalize hct2 : updC (ctL (U.take k)) false d.t (befL (U.take k) d.t ++ [d.f]) = ct2 at *
        have ik : In64 ((k : Int) + 1) := by unfold In64; omega
        have d1 : M2 < M2 + 1 := by omega
        have e1 : N < M2 + 1 := by omega
        have e2 : N ≠ M2 := by omega
        by_cases hA : aftL (U.take k) a = []
        · have rA : rwF p ct2 true a = [.nsl] := by unfold rwF; rw [hca, if_pos hA]
          simp only [hdd, ha, hb, rA, hbx, hNM, e1, e2, famN_push, famN_len, mkH4_s0, mkH4_s1, mkH4_s2, mkH4_s3, famN_get, mkH4_set, updF_same, updF_ne, updF_updF, d1, ne_eq, not_false_eq_true, ↓EVP0, EVQ0, EVQ1, EVQ2, EVQ3, EVQ4, EVA, EVK, EVF,EVFE, ↓reduceIte, Nat.reduceEqDiff, Nat.reduceAdd, Nat.reduceSub, Nat.reduceMul, Nat.reduceLT, Nat.reduceLeDiff, reduceCtorEq, Int.reduceToNat, Int.reduceLT, Int.reduceLE, Int.reduceAdd, Int.reduceSub, Int.reduceMul, Int.reduceNeg, Int.reduceEq, Nat.reduceMod, forall_eq_or_imp, forall_eq, forall_const, cond_true, cond_false, decide_true, decide_false, true_imp_iff, implies_true, Int.cast_ofNat_Int, forall_eq']
          have room : appRoom 8 1 := by unfold appRoom; omega
          have in64 : In64 ((misL (U.take k) m).getD b 0 + 1) := by unfold In64; omega
          have bml : b < (misL (U.take k) m).length := by omega
          have hL2 := li_new (x := (b : Int)) hL (q := true) (v := (a : Int)) (by rw [hca]; exact hA)
          rw [ha, hA, hb, List.nil_append] at hts
          refine ⟨by omega, ⟨by omega, am⟩, ⟨by omega, by decide, am2⟩, by omega, intsF [(b : Int)], fun i hi => ?_, ⟨by omega, fun _ _ => trivial, room, ⟨by omega, am⟩, by omega, am2, by omega, ⟨by omega, bm⟩, ⟨by omega, bml⟩, in64, ⟨by omega, bm⟩, by omega, ?_⟩, ⟨fun _ _ => trivial, room, by omega, ⟨by omega, am⟩, by omega, am2, by omega, ⟨by omega, bm⟩, ⟨by omega, bml⟩, in64, ⟨by omega, bm⟩, by omega, ?_⟩⟩
          · obtain rfl : i = 0 := by omega
            rfl
          all_goals
            rw [hts, hms]
            refine ⟨bml, ik, hk2, (M2 + 1, updF G M2 (0, .ints [(b : Int)]), updJ p true a M2), hL2, Nat.le_refl _, ⟨by omega, by omega, by omega, by omega⟩, by rw [rw_other (by decide)], rw_all hL2 false m, rw_set (x := [(b : Int)]) (by simp) rfl, rw_all hL2 true m, rfl, wk4 hL2 _ _ _ _⟩
        · obtain ⟨hoN, hoF⟩ := hL.at_ true a (by rw [hca]; exact hA)
          have hL2 := li_more (x := (b : Int)) hL (q := true) (v := (a : Int)) (by rw [hca]; exact hA)
          rw [hca] at hoF hL2
          have hAl : (aftL (U.take k) a).length ≤ 1000 := Nat.le_trans (aft_len _ _) (by rw [List.length_take]; omega)
          have rA : rwF p ct2 true a = [.sl (p true a + 1 + 1 + 1 + 1) ((aftL (U.take k) a).length - 1) 1 0 (aftL (U.take k) a).length] := by unfold rwF; rw [hca, if_neg hA]
          rw [ha, hb] at hts
          generalize hQ : aftL (U.take k) (a : Int) = Q at *
          have hQ0 : 0 < Q.length := List.length_pos_iff.2 hA
          have o2 : p true a ≠ N := fun h => by rw [← h, hoF] at hbx; simp at hbx
          have o3 : N ≠ p true a := fun h => o2 h.symm
          simp only [hdd, ha, hb, rA, hQ, hoF, hoN, o2, o3, hbx, hNM, famN_push, famN_len, mkH4_s0, mkH4_s1, mkH4_s2, mkH4_s3, famN_get, mkH4_set, updF_same, updF_ne, updF_updF, ne_eq, not_false_eq_true, ↓EVP0, EVQ0, EVQ1, EVQ2, EVQ3, EVQ4, EVA, EVK, EVF,EVFE, ↓reduceIte, Nat.reduceEqDiff, Nat.reduceAdd, Nat.reduceSub, Nat.reduceMul, Nat.reduceLT, Nat.reduceLeDiff, reduceCtorEq, Int.reduceToNat, Int.reduceLT, Int.reduceLE, Int.reduceAdd, Int.reduceSub, Int.reduceMul, Int.reduceNeg, Int.reduceEq, Nat.reduceMod, forall_eq_or_imp, forall_eq, forall_const, cond_true, cond_false, decide_true, decide_false, true_imp_iff, implies_true, Int.cast_ofNat_Int, forall_eq']
          have room : appRoom 8 (Q.length + 1) := by unfold appRoom; omega
          have in64 : In64 ((misL (U.take k) m).getD b 0 + 1) := by unfold In64; omega
          have bml : b < (misL (U.take k) m).length := by omega
          have q1 : Q.length - 1 + 1 = Q.length := by omega
          refine ⟨by omega, ⟨by omega, am⟩, ⟨by omega, by decide, am2⟩, by omega, intsF [(b : Int)], fun i hi => ?_, ⟨by omega, fun _ _ => trivial, by omega, Nat.le_refl _, room, ⟨by omega, am⟩, by omega, am2, by omega, ⟨by omega, bm⟩, ⟨by omega, bml⟩, in64, ⟨by omega, bm⟩, by omega, ?_⟩, ⟨fun _ _ => trivial, by omega, Nat.le_refl _, room, by omega, ⟨by omega, am⟩, by omega, am2, by omega, ⟨by omega, bm⟩, ⟨by omega, bml⟩, in64, ⟨by omega, bm⟩, by omega, ?_⟩⟩
          · obtain rfl : i = 0 := by omega
            rfl
          all_goals
            rw [List.take_length, q1, hts, hms]
            refine ⟨bml, ik, hk2, (M2, updF G (p true a) (Q.length, .ints (Q ++ [(b : Int)])), updJ p true a (p true a)), by rw [updJ_self]; exact hL2, Nat.le_refl _, ⟨by omega, by omega, by omega, by omega⟩, by rw [rw_other (by decide)], ?_, rw_set (x := Q ++ [(b : Int)]) (by simp) (by simp), ?_, rfl, wk4 hL2 _ _ _ _⟩
            · rw [updJ_self]; exact rw_all hL2 false m
            · rw [updJ_self]; exact rw_all hL2 true m
    · have hkk : k = U.length := by omega
      subst hkk
      rw [List.take_length] at hLI ⊢
      have hml := mis_len U m
      unfold lb14_3
      simp only [famN_len, famA_len, famA_nil, famA_push, ↓EVP0, EVQ0, EVQ1, EVQ2, EVQ3, EVQ4, EVA, EVK, EVF,EVFE, ↓reduceIte, Nat.reduceEqDiff, Nat.reduceAdd, Nat.reduceSub, Nat.reduceMul, Nat.reduceLT, Nat.reduceLeDiff, reduceCtorEq, Int.reduceToNat, Int.reduceLT, Int.reduceLE, Int.reduceAdd, Int.reduceSub, Int.reduceMul, Int.reduceNeg, Int.reduceEq, Nat.reduceMod, forall_eq_or_imp, forall_eq, forall_const, cond_true, cond_false, decide_true, decide_false, true_imp_iff, implies_true, Int.cast_ofNat_Int, forall_eq']
      refine ⟨fun h => absurd (of_decide_eq_true h) (by omega), fun _ => ?_⟩
      refine ⟨by omega, by unfold mksC; omega, fun _ => ?_⟩
      refine lwp_for (α := Unit) m (fun _ _ => True) (fun j _ => [(3, .ptr 0 0 0 0 0), (10, .sl 1 0 1 0 m), (11, .sl 2 0 1 0 m), (12, .sl 3 0 1 0 m), (15, .sl (N + 1 + 1 + 1 + 1) 0 1 0 m), (16, qS N (qzL (misL U m) j)), (98, .sl 3 0 1 0 m), (99, .sc (.int .i64 m)), (100, .sc (.int .i64 j))])
        (fun j _ => (0, .box [.sc (.int .i64 m)]) :: (0, .row 1 m (rwF o (ctL U) false)) :: (0, .row 1 m (rwF o (ctL U) true)) :: (0, .ints (misL U m)) :: (famN F N ++ (0, .ints (List.replicate m 0)) :: qT (qzL (misL U m) j))) () trivial ?_ (fun _ _ => Nat.zero_le _) ?_
      · rw [show qzL (misL U m) 0 = [] from rfl, qS_nil, qT_nil]
        simp only [famN_len, famA_len, famA_nil, famA_push, ↓EVP0, EVQ0, EVQ1, EVQ2, EVQ3, EVQ4, EVA, EVK, EVF,EVFE, ↓reduceIte, Nat.reduceEqDiff, Nat.reduceAdd, Nat.reduceSub, Nat.reduceMul, Nat.reduceLT, Nat.reduceLeDiff, reduceCtorEq, Int.reduceToNat, Int.reduceLT, Int.reduceLE, Int.reduceAdd, Int.reduceSub, Int.reduceMul, Int.reduceNeg, Int.reduceEq, Nat.reduceMod, forall_eq_or_imp, forall_eq, forall_const, cond_true, cond_false, decide_true, decide_false, true_imp_iff, implies_true, Int.cast_ofNat_Int, forall_eq']
        exact ⟨Nat.le_refl _, ⟨by omega, by omega, by omega, by omega, by omega, by omega⟩, rw_allM hLI (by omega) false m, rw_allM hLI (by omega) true m, wkN hLI _ _ _ _ _ _ trivial fun _ _ => rfl⟩
      intro j _ hj _
      have hQl := qz_len (misL U m) j
      by_cases hjm : j < m
      · have hjd : decide ((j : Int) < m) = true := decide_eq_true (by omega)
        have j1 : 0 ≤ (j : Int) ∧ (j : Int) < m := by omega
        have j2 : j < (misL U m).length := by omega
        have j3 : In64 ((j : Int) + 1) := by unfold In64; omega
        by_cases hz : (misL U m).getD j 0 = 0
        · have hq1 : qzL (misL U m) (j + 1) = qzL (misL U m) j ++ [(j : Int)] := if_pos hz
          have hzd : decide ((misL U m).getD j 0 = 0) = true := decide_eq_true hz
          rw [hq1]
          by_cases hq : qzL (misL U m) j = []
          · rw [hq, qS_nil, qT_nil, List.nil_append, qS_one, qT_one]
            unfold lb14_2
            simp only [hzd, hjd, famN_len, famA_len, famA_nil, famA_push, famA_set2, famA_get1, famA_get2, ↓EVP0, EVQ0, EVQ1, EVQ2, EVQ3, EVQ4, EVA, EVK, EVF,EVFE, ↓reduceIte, Nat.reduceEqDiff, Nat.reduceAdd, Nat.reduceSub, Nat.reduceMul, Nat.reduceLT, Nat.reduceLeDiff, reduceCtorEq, Int.reduceToNat, Int.reduceLT, Int.reduceLE, Int.reduceAdd, Int.reduceSub, Int.reduceMul, Int.reduceNeg, Int.reduceEq, Nat.reduceMod, forall_eq_or_imp, forall_eq, forall_const, cond_true, cond_false, decide_true, decide_false, true_imp_iff, implies_true, Int.cast_ofNat_Int, forall_eq']
            exact ⟨⟨by omega, j1⟩, ⟨by omega, j2⟩, by omega, by unfold appRoom; omega, j3, hjm, (), Nat.le_refl _, ⟨by omega, by omega, by omega, by omega, by omega, by omega, by omega⟩, rw_allM hLI (by omega) false m, rw_allM hLI (by omega) true m, wkN hLI _ _ _ _ _ _ trivial fun _ _ => rfl⟩
          · generalize qzL (misL U m) j = Q at *
            have hQ0 : 0 < Q.length := List.length_pos_iff.2 hq
            have q1 : Q.length - 1 + 1 = Q.length := by omega
            rw [qS_ne N hq, qT_ne hq, qS_snoc, qT_snoc hq]
            unfold lb14_2
            simp only [hzd, hjd, q1, famN_len, famA_len, famA_nil, famA_push, famA_set2, famA_get1, famA_get2, famA_get3, List.take_length, ↓EVP0, EVQ0, EVQ1, EVQ2, EVQ3, EVQ4, EVA, EVK, EVF,EVFE, ↓reduceIte, Nat.reduceEqDiff, Nat.reduceAdd, Nat.reduceSub, Nat.reduceMul, Nat.reduceLT, Nat.reduceLeDiff, reduceCtorEq, Int.reduceToNat, Int.reduceLT, Int.reduceLE, Int.reduceAdd, Int.reduceSub, Int.reduceMul, Int.reduceNeg, Int.reduceEq, Nat.reduceMod, forall_eq_or_imp, forall_eq, forall_const, cond_true, cond_false, decide_true, decide_false, true_imp_iff, implies_true, Int.cast_ofNat_Int, forall_eq']
            exact ⟨⟨by omega, j1⟩, ⟨by omega, j2⟩, by omega, by omega, Nat.le_refl _, by unfold appRoom; omega, j3, hjm, (), Nat.le_succ _, ⟨by omega, by omega, by omega, by omega, by omega, by omega, by omega⟩, rw_allM hLI (by omega) false m, rw_allM hLI (by omega) true m, wkN hLI _ _ _ _ _ _ trivial fun i hi => getD_cons4 _ _ _ _ _ hi⟩
        · have hq1 : qzL (misL U m) (j + 1) = qzL (misL U m) j := if_neg hz
          have hzd : decide ((misL U m).getD j 0 = 0) = false := decide_eq_false hz
          rw [hq1]
          generalize qzL (misL U m) j = Q at *
          have hFl : N ≤ (famN F N ++ qT Q).length := by rw [List.length_append, famN_len]; omega
          unfold lb14_2
          simp only [hzd, hjd, famN_len, famA_len, famA_nil, famA_push, ↓EVP0, EVQ0, EVQ1, EVQ2, EVQ3, EVQ4, EVA, EVK, EVF,EVFE, ↓reduceIte, Nat.reduceEqDiff, Nat.reduceAdd, Nat.reduceSub, Nat.reduceMul, Nat.reduceLT, Nat.reduceLeDiff, reduceCtorEq, Int.reduceToNat, Int.reduceLT, Int.reduceLE, Int.reduceAdd, Int.reduceSub, Int.reduceMul, Int.reduceNeg, Int.reduceEq, Nat.reduceMod, forall_eq_or_imp, forall_eq, forall_const, cond_true, cond_false, decide_true, decide_false, true_imp_iff, implies_true, Int.cast_ofNat_Int, forall_eq']
          exact ⟨⟨by omega, j1⟩, ⟨by omega, j2⟩, j3, hjm, (), Nat.le_refl _, ⟨by omega, by omega, by omega, by omega, by omega, qS_below hFl, by omega⟩, rw_allM hLI (by omega) false m, rw_allM hLI (by omega) true m, wkN hLI _ _ _ _ _ _ (qT_nums _ _ _) fun _ _ => rfl⟩
      · have hjd : decide ((j : Int) < m) = false := decide_eq_false (by omega)
        obtain rfl : j = m := by omega
        unfold lb14_2
        simp only [hjd, famN_len, famA_len, famA_nil, famA_push, ↓EVP0, EVQ0, EVQ1, EVQ2, EVQ3, EVQ4, EVA, EVK, EVF,EVFE, ↓reduceIte, Nat.reduceEqDiff, Nat.reduceAdd, Nat.reduceSub, Nat.reduceMul, Nat.reduceLT, Nat.reduceLeDiff, reduceCtorEq, Int.reduceToNat, Int.reduceLT, Int.reduceLE, Int.reduceAdd, Int.reduceSub, Int.reduceMul, Int.reduceNeg, Int.reduceEq, Nat.reduceMod, forall_eq_or_imp, forall_eq, forall_const, cond_true, cond_false, decide_true, decide_false, true_imp_iff, implies_true, Int.cast_ofNat_Int, forall_eq']
        refine lwp_loop (α := Nat) (fun i => i ≤ K) (fun i => [(3, .ptr 0 0 0 0 0), (10, .sl 1 0 1 0 j), (11, .sl 2 0 1 0 j), (12, .sl 3 0 1 0 j), (15, .sl (N + 1 + 1 + 1 + 1) 0 1 0 j), (16, qS N (ouS U (kh0 U j) i).1), (19, .sc (.int .i64 i))])
          (fun i => (0, .box [.sc (.int .i64 j)]) :: (0, .row 1 j (rwF o (ctL U) false)) :: (0, .row 1 j (rwF o (ctL U) true)) :: (0, .ints (ouS U (kh0 U j) i).2.1) :: (famN F N ++ (0, .ints (ouS U (kh0 U j) i).2.2) :: qT (ouS U (kh0 U j) i).1)) (fun i => K - i) 0 (Nat.zero_le _) ?_ (fun _ => Nat.zero_le _) ?_
        · show weakTo _ _ _ ((0, .box [.sc (.int .i64 j)]) :: (0, .row 1 j (rwF o (ctL U) false)) :: (0, .row 1 j (rwF o (ctL U) true)) :: (0, .ints (misL U j)) :: (famN F N ++ (0, .ints (List.replicate j 0)) :: qT (qzL (misL U j) j)))
          have hFl : N ≤ (famN F N ++ qT (qzL (misL U j) j)).length := by rw [List.length_append, famN_len]; omega
          simp only [famN_len, famA_len, famA_nil, famA_push, ↓EVP0, EVQ0, EVQ1, EVQ2, EVQ3, EVQ4, EVA, EVK, EVF,EVFE, ↓reduceIte, Nat.reduceEqDiff, Nat.reduceAdd, Nat.reduceSub, Nat.reduceMul, Nat.reduceLT, Nat.reduceLeDiff, reduceCtorEq, Int.reduceToNat, Int.reduceLT, Int.reduceLE, Int.reduceAdd, Int.reduceSub, Int.reduceMul, Int.reduceNeg, Int.reduceEq, Nat.reduceMod, forall_eq_or_imp, forall_eq, forall_const, cond_true, cond_false, decide_true, decide_false, true_imp_iff, implies_true, Int.cast_ofNat_Int, forall_eq']
          exact ⟨Nat.le_refl _, ⟨by omega, by omega, by omega, by omega, by omega, rfl, qS_below hFl⟩, rw_allM hLI (by omega) false j, rw_allM hLI (by omega) true j, wkN hLI _ _ _ _ _ _ (qT_nums _ _ _) fun _ _ => rfl⟩
        intro i hi
        have hOu := hK1 i hi
        have hKQ := (hOu.2 0).qin
        have hndQ := nodup_le (hOu.2 0).qnd hKQ
        by_cases hiQ : i < (ouS U (kh0 U j) i).1.length
        · have hiK : i < K := Classical.byContradiction fun h => by
            obtain rfl : i = K := by omega
            omega
          obtain ⟨x1, x2, x3, x4, x5⟩ := ou_in hOu hiQ
          have hin := fun k hk => in_ok hU (ki_le (hOu.2 ((ouS U (kh0 U j) i).1.getD i 0)) (Nat.le_succ i)) x1 x2 x3 (by omega) k hk
          have hnx : ouS U (kh0 U j) (i + 1) = inS U ((ouS U (kh0 U j) i).1.getD i 0) (ouS U (kh0 U j) i) (aftL U ((ouS U (kh0 U j) i).1.getD i 0)).length := rfl
          have hQne : (ouS U (kh0 U j) i).1 ≠ [] := List.ne_nil_of_length_pos (by omega)
          have hid : decide ((i : Int) < (ouS U (kh0 U j) i).1.length) = true := decide_eq_true (by omega)
          generalize ouS U (kh0 U j) i = s at *
          generalize hc : s.1.getD i 0 = c at *
          obtain ⟨cn, rfl⟩ := Int.eq_ofNat_of_zero_le x4.1
          have hcn : (cn : Int) < j := x4.2
          have hca : ctL U true (cn : Int) = aftL U cn := rfl
          rw [qS_ne N hQne, qT_ne hQne]
          by_cases hA : aftL U (cn : Int) = []
          · have rA : rwF o (ctL U) true cn = [.nsl] := by unfold rwF; rw [hca, if_pos hA]
            unfold lb14_1
            simp only [hid, hc, rA, famN_len, famA_len, famA_nil, famA_push, famA_set0, famA_set2, famA_get0, famA_get1, famA_get2, famA_get3, ↓EVP0, EVQ0, EVQ1, EVQ2, EVQ3, EVQ4, EVA, EVK, EVF,EVFE, ↓reduceIte, Nat.reduceEqDiff, Nat.reduceAdd, Nat.reduceSub, Nat.reduceMul, Nat.reduceLT, Nat.reduceLeDiff, reduceCtorEq, Int.reduceToNat, Int.reduceLT, Int.reduceLE, Int.reduceAdd, Int.reduceSub, Int.reduceMul, Int.reduceNeg, Int.reduceEq, Nat.reduceMod, forall_eq_or_imp, forall_eq, forall_const, cond_true, cond_false, decide_true, decide_false, true_imp_iff, implies_true, Int.cast_ofNat_Int, forall_eq']
            intro _
            refine ⟨⟨by omega, by omega, by omega⟩, ⟨by omega, hiQ⟩, ⟨by omega, by omega, hcn⟩, ⟨by omega, by decide, by omega⟩, ?_⟩
            have hnx2 : ouS U (kh0 U j) (i + 1) = s := by rw [hnx, hA]; rfl
            refine lwp_for (α := Unit) 0 (fun _ _ => True) (fun _ _ => [(3, .ptr 0 0 0 0 0), (10, .sl 1 0 1 0 j), (11, .sl 2 0 1 0 j), (12, .sl 3 0 1 0 j), (15, .sl (N + 1 + 1 + 1 + 1) 0 1 0 j), (16, qS N s.1), (19, .sc (.int .i64 i)), (20, .sc (.int .i64 cn)), (126, .sc (.int .i64 0)), (127, .sc (.int .i64 0))])
              (fun _ _ => (0, .box [.sc (.int .i64 j)]) :: (0, .row 1 j (rwF o (ctL U) false)) :: (0, .row 1 j (rwF o (ctL U) true)) :: (0, .ints s.2.1) :: (famN F N ++ (0, .ints s.2.2) :: qT s.1)) () trivial ?_ (fun _ _ => Nat.zero_le _) ?_
            · have hFl : N ≤ (famN F N ++ qT s.1).length := by rw [List.length_append, famN_len]; omega
              rw [qS_ne N hQne, qT_ne hQne]
              simp only [famN_len, famA_len, famA_nil, famA_push, ↓EVP0, EVQ0, EVQ1, EVQ2, EVQ3, EVQ4, EVA, EVK, EVF,EVFE, ↓reduceIte, Nat.reduceEqDiff, Nat.reduceAdd, Nat.reduceSub, Nat.reduceMul, Nat.reduceLT, Nat.reduceLeDiff, reduceCtorEq, Int.reduceToNat, Int.reduceLT, Int.reduceLE, Int.reduceAdd, Int.reduceSub, Int.reduceMul, Int.reduceNeg, Int.reduceEq, Nat.reduceMod, forall_eq_or_imp, forall_eq, forall_const, cond_true, cond_false, decide_true, decide_false, true_imp_iff, implies_true, Int.cast_ofNat_Int, forall_eq']
              exact ⟨Nat.le_refl _, ⟨by omega, by omega, by omega, by omega, by omega, by omega⟩, rw_allM hLI (by omega) false j, rw_allM hLI (by omega) true j, wkN hLI _ _ _ _ _ _ trivial fun _ _ => rfl⟩
            intro z _ hz _
            obtain rfl : z = 0 := by omega
            unfold lb14_0
            simp only [famN_len, famA_len, famA_nil, famA_push, ↓EVP0, EVQ0, EVQ1, EVQ2, EVQ3, EVQ4, EVA, EVK, EVF,EVFE, ↓reduceIte, Nat.reduceEqDiff, Nat.reduceAdd, Nat.reduceSub, Nat.reduceMul, Nat.reduceLT, Nat.reduceLeDiff, reduceCtorEq, Int.reduceToNat, Int.reduceLT, Int.reduceLE, Int.reduceAdd, Int.reduceSub, Int.reduceMul, Int.reduceNeg, Int.reduceEq, Nat.reduceMod, forall_eq_or_imp, forall_eq, forall_const, cond_true, cond_false, decide_true, decide_false, true_imp_iff, implies_true, Int.cast_ofNat_Int, forall_eq']
            have hFl : N ≤ (famN F N ++ qT s.1).length := by rw [List.length_append, famN_len]; omega
            refine ⟨by unfold In64; omega, i + 1, hiK, ?_, by omega⟩
            rw [hnx2]
            exact ⟨Nat.le_refl _, ⟨by omega, by omega, by omega, by omega, by omega, rfl, qS_below hFl, rfl⟩, rw_allM hLI (by omega) false j, rw_allM hLI (by omega) true j, rfl, wkN hLI _ _ _ _ _ _ (qT_nums _ _ _) fun _ _ => rfl⟩
          · obtain ⟨hoN, hoF⟩ := hLI.at_ true cn (by rw [hca]; exact hA)
            rw [hca] at hoF
            have hAl := aft_len U (cn : Int)
            have rA : rwF o (ctL U) true cn = [.sl (o true cn + 1 + 1 + 1 + 1) ((aftL U cn).length - 1) 1 0 (aftL U cn).length] := by unfold rwF; rw [hca, if_neg hA]
            have hoN1 : o true cn < N + 1 := by omega
            unfold lb14_1
            simp only [hid, hc, rA, hoN, hoF, famN_len, famA_len, famA_nil, famA_push, famA_set0, famA_set2, famA_get, famA_get0, famA_get1, famA_get2, famA_get3, ↓EVP0, EVQ0, EVQ1, EVQ2, EVQ3, EVQ4, EVA, EVK, EVF,EVFE, ↓reduceIte, Nat.reduceEqDiff, Nat.reduceAdd, Nat.reduceSub, Nat.reduceMul, Nat.reduceLT, Nat.reduceLeDiff, reduceCtorEq, Int.reduceToNat, Int.reduceLT, Int.reduceLE, Int.reduceAdd, Int.reduceSub, Int.reduceMul, Int.reduceNeg, Int.reduceEq, Nat.reduceMod, forall_eq_or_imp, forall_eq, forall_const, cond_true, cond_false, decide_true, decide_false, true_imp_iff, implies_true, Int.cast_ofNat_Int, forall_eq']
            intro _
            refine ⟨⟨by omega, by omega, by omega⟩, ⟨by omega, hiQ⟩, ⟨by omega, by omega, hcn⟩, ⟨by omega, by decide, by omega⟩, fun _ => ?_⟩
            refine lwp_for (α := Unit) (aftL U (cn : Int)).length (fun _ _ => True) (fun k _ => [(3, .ptr 0 0 0 0 0), (10, .sl 1 0 1 0 j), (11, .sl 2 0 1 0 j), (12, .sl 3 0 1 0 j), (15, .sl (N + 1 + 1 + 1 + 1) 0 1 0 j), (16, qS N (inS U cn s k).1), (19, .sc (.int .i64 i)), (20, .sc (.int .i64 cn)), (125, .sl (o true cn + 1 + 1 + 1 + 1) ((aftL U cn).length - 1) 1 0 (aftL U cn).length), (126, .sc (.int .i64 (aftL U cn).length)), (127, .sc (.int .i64 k))])
              (fun k _ => (0, .box [.sc (.int .i64 j)]) :: (0, .row 1 j (rwF o (ctL U) false)) :: (0, .row 1 j (rwF o (ctL U) true)) :: (0, .ints (inS U cn s k).2.1) :: (famN F N ++ (0, .ints (inS U cn s k).2.2) :: qT (inS U cn s k).1)) () trivial ?_ (fun _ _ => Nat.zero_le _) ?_
            · rw [show inS U cn s 0 = s from rfl, qS_ne N hQne, qT_ne hQne]
              simp only [famN_len, famA_len, famA_nil, famA_push, ↓EVP0, EVQ0, EVQ1, EVQ2, EVQ3, EVQ4, EVA, EVK, EVF,EVFE, ↓reduceIte, Nat.reduceEqDiff, Nat.reduceAdd, Nat.reduceSub, Nat.reduceMul, Nat.reduceLT, Nat.reduceLeDiff, reduceCtorEq, Int.reduceToNat, Int.reduceLT, Int.reduceLE, Int.reduceAdd, Int.reduceSub, Int.reduceMul, Int.reduceNeg, Int.reduceEq, Nat.reduceMod, forall_eq_or_imp, forall_eq, forall_const, cond_true, cond_false, decide_true, decide_false, true_imp_iff, implies_true, Int.cast_ofNat_Int, forall_eq']
              exact ⟨Nat.le_refl _, ⟨by omega, by omega, by omega, by omega, by omega, by omega, by omega⟩, rw_allM hLI (by omega) false j, rw_allM hLI (by omega) true j, wkN hLI _ _ _ _ _ _ trivial fun _ _ => rfl⟩
            intro k _ hk _
            by_cases hk2 : k < (aftL U (cn : Int)).length
            · obtain ⟨k1, k2, X, k3⟩ := hin k hk
              have hQk : (inS U cn s k).1 ≠ [] := fun h => hQne (by rw [h] at k3; exact (List.append_eq_nil_iff.1 k3.symm).1)
              obtain ⟨m1, m2, m3⟩ := ki_more k1 hU x2 hk2
              obtain ⟨r1, r2⟩ := k1.rge _ m1
              have r3 := (k1.rge _ x4).1
              have hmm := k1.mis _ m1
              have hcl := cnt_le U (s.1.take i) ((aftL U (cn : Int)).getD k 0)
              have hle := k1.mlen
              have hlr := k1.rlen
              have hQn := nodup_le k1.qnd k1.qin
              have hst : inS U cn s (k + 1) = stS cn ((aftL U (cn : Int)).getD k 0) (inS U cn s k) := rfl
              have hkd : decide ((k : Int) < (aftL U (cn : Int)).length) = true := decide_eq_true (by omega)
              rw [hst]
              unfold stS
              clear hst k1 k3 hin
              generalize inS U cn s k = s2 at *
              obtain ⟨Q, M, R'⟩ := s2
              generalize ht : (aftL U (cn : Int)).getD k 0 = t at *
              obtain ⟨tn, rfl⟩ := Int.eq_ofNat_of_zero_le m1.1
              simp only at hQk m2 m3 r1 r2 r3 hmm hle hlr hQn k2
              unfold lvl at k2 m2 r1 r2 r3 hmm x5
              unfold lvl
              rw [Int.toNat_natCast] at k2 m2 r1 r2 r3 hmm x5
              simp only [Int.toNat_natCast]
              have hgs : (M.set tn (M.getD tn 0 - 1)).getD tn 0 = M.getD tn 0 - 1 := by
                rw [List.getD_eq_getElem?_getD, List.getElem?_set_self (by have := m1.2; omega)]; rfl
              have kk : 0 ≤ (k : Int) ∧ (k : Int) < (aftL U (cn : Int)).length := by omega
              have tj : 0 ≤ (tn : Int) ∧ (tn : Int) < j := m1
              have cj : 0 ≤ (cn : Int) ∧ (cn : Int) < j := by omega
              have tR : tn < R'.length := by omega
              have cR : cn < R'.length := by omega
              have tM : tn < M.length := by omega
              have i1 : In64 (R'.getD cn 0 + 1) := by unfold In64; omega
              have i2 : In64 (M.getD tn 0 - 1) := by unfold In64; omega
              have i3 : In64 ((k : Int) + 1) := by unfold In64; omega
              rw [qS_ne N hQk, qT_ne hQk]
              by_cases hz : M.getD tn 0 - 1 = 0
              · have hzd : decide (M.getD tn 0 - 1 = 0) = true := decide_eq_true hz
                have q1 : Q.length - 1 + 1 = Q.length := by have := List.length_pos_iff.2 hQk; omega
                rw [if_pos hz, qS_snoc, qT_snoc hQk]
                unfold lb14_0
                simp only [q1, hkd, ht, hoN, hoF, hgs, hzd, famN_len, famA_len, famA_nil, famA_push, famA_set0, famA_set2, famA_get, famA_get0, famA_get1, famA_get2, famA_get3, mkH4_s3, List.length_set, List.take_length, ↓EVP0, EVQ0, EVQ1, EVQ2, EVQ3, EVQ4, EVA, EVK, EVF,EVFE, ↓reduceIte, Nat.reduceEqDiff, Nat.reduceAdd, Nat.reduceSub, Nat.reduceMul, Nat.reduceLT, Nat.reduceLeDiff, reduceCtorEq, Int.reduceToNat, Int.reduceLT, Int.reduceLE, Int.reduceAdd, Int.reduceSub, Int.reduceMul, Int.reduceNeg, Int.reduceEq, Nat.reduceMod, forall_eq_or_imp, forall_eq, forall_const, cond_true, cond_false, decide_true, decide_false, true_imp_iff, implies_true, Int.cast_ofNat_Int, forall_eq']
                refine ⟨⟨by omega, kk⟩, ⟨by omega, hk2⟩, ⟨by omega, tj⟩, ⟨by omega, tR⟩, ⟨by omega, cj⟩, ⟨by omega, cR⟩, i1, ⟨by omega, tj⟩, by omega, tR, ⟨by omega, tj⟩, ⟨by omega, tM⟩, i2, ⟨by omega, tj⟩, by omega, tM, ⟨by omega, tj⟩, ⟨by omega, tM⟩, ?_⟩
                exact ⟨by omega, by omega, Nat.le_refl _, by unfold appRoom; omega, i3, hk2, (), Nat.le_succ _, ⟨by omega, by omega, by omega, by omega, by omega, by omega, by omega⟩, rw_allM hLI (by omega) false j, rw_allM hLI (by omega) true j, wkN hLI _ _ _ _ _ _ trivial fun i hi => getD_cons4 _ _ _ _ _ hi⟩
              · have hzd : decide (M.getD tn 0 - 1 = 0) = false := decide_eq_false hz
                rw [if_neg hz, qS_ne N hQk, qT_ne hQk]
                unfold lb14_0
                simp only [hkd, ht, hoN, hoF, hgs, hzd, famN_len, famA_len, famA_nil, famA_push, famA_set0, famA_set2, famA_get, famA_get0, famA_get1, famA_get2, famA_get3, mkH4_s3, List.length_set, List.take_length, ↓EVP0, EVQ0, EVQ1, EVQ2, EVQ3, EVQ4, EVA, EVK, EVF,EVFE, ↓reduceIte, Nat.reduceEqDiff, Nat.reduceAdd, Nat.reduceSub, Nat.reduceMul, Nat.reduceLT, Nat.reduceLeDiff, reduceCtorEq, Int.reduceToNat, Int.reduceLT, Int.reduceLE, Int.reduceAdd, Int.reduceSub, Int.reduceMul, Int.reduceNeg, Int.reduceEq, Nat.reduceMod, forall_eq_or_imp, forall_eq, forall_const, cond_true, cond_false, decide_true, decide_false, true_imp_iff, implies_true, Int.cast_ofNat_Int, forall_eq']
                refine ⟨⟨by omega, kk⟩, ⟨by omega, hk2⟩, ⟨by omega, tj⟩, ⟨by omega, tR⟩, ⟨by omega, cj⟩, ⟨by omega, cR⟩, i1, ⟨by omega, tj⟩, by omega, tR, ⟨by omega, tj⟩, ⟨by omega, tM⟩, i2, ⟨by omega, tj⟩, by omega, tM, ⟨by omega, tj⟩, ⟨by omega, tM⟩, ?_⟩
                exact ⟨i3, hk2, (), Nat.le_refl _, ⟨by omega, by omega, by omega, by omega, by omega, by omega, by omega⟩, rw_allM hLI (by omega) false j, rw_allM hLI (by omega) true j, wkN hLI _ _ _ _ _ _ trivial fun _ _ => rfl⟩
            · obtain rfl : k = (aftL U (cn : Int)).length := by omega
              have hkd : decide (((aftL U (cn : Int)).length : Int) < (aftL U (cn : Int)).length) = false := decide_eq_false (by omega)
              generalize inS U cn s (aftL U (cn : Int)).length = s2 at *
              unfold lb14_0
              simp only [hkd, famN_len, famA_len, famA_nil, famA_push, ↓EVP0, EVQ0, EVQ1, EVQ2, EVQ3, EVQ4, EVA, EVK, EVF,EVFE, ↓reduceIte, Nat.reduceEqDiff, Nat.reduceAdd, Nat.reduceSub, Nat.reduceMul, Nat.reduceLT, Nat.reduceLeDiff, reduceCtorEq, Int.reduceToNat, Int.reduceLT, Int.reduceLE, Int.reduceAdd, Int.reduceSub, Int.reduceMul, Int.reduceNeg, Int.reduceEq, Nat.reduceMod, forall_eq_or_imp, forall_eq, forall_const, cond_true, cond_false, decide_true, decide_false, true_imp_iff, implies_true, Int.cast_ofNat_Int, forall_eq']
              have hFl : N ≤ (famN F N ++ qT s2.1).length := by rw [List.length_append, famN_len]; omega
              refine ⟨by unfold In64; omega, i + 1, hiK, ?_, by omega⟩
              rw [hnx]
              exact ⟨Nat.le_refl _, ⟨by omega, by omega, by omega, by omega, by omega, rfl, qS_below hFl, rfl⟩, rw_allM hLI (by omega) false j, rw_allM hLI (by omega) true j, rfl, wkN hLI _ _ _ _ _ _ (qT_nums _ _ _) fun _ _ => rfl⟩
        · have hiK : i = K := by
            refine Classical.byContradiction fun h => ?_
            have := hK3 i (by omega)
            omega
          subst hiK
          have hid : ((ouS U (kh0 U j) i).1.length : Int) = i := by omega
          have hQd : decide ((i : Int) < ((ouS U (kh0 U j) i).1.length : Nat)) = false := decide_eq_false (by omega)
          have hFl : N ≤ (famN F N ++ qT (ouS U (kh0 U j) i).1).length := by rw [List.length_append, famN_len]; omega
          generalize hs : ouS U (kh0 U j) i = s at *
          obtain ⟨Q, M, R'⟩ := s
          simp only at hQd hid hFl hK2
          by_cases hQ : Q = []
          · subst hQ
            rw [qS_nil, qT_nil]
            have hi0 : decide ((i : Int) < 0) = false := decide_eq_false (by omega)
            unfold lb14_1
            simp only [hi0, famN_len, famA_len, famA_nil, famA_push, ↓EVP0, EVQ0, EVQ1, EVQ2, EVQ3, EVQ4, EVA, EVK, EVF,EVFE, ↓reduceIte, Nat.reduceEqDiff, Nat.reduceAdd, Nat.reduceSub, Nat.reduceMul, Nat.reduceLT, Nat.reduceLeDiff, reduceCtorEq, Int.reduceToNat, Int.reduceLT, Int.reduceLE, Int.reduceAdd, Int.reduceSub, Int.reduceMul, Int.reduceNeg, Int.reduceEq, Nat.reduceMod, forall_eq_or_imp, forall_eq, forall_const, cond_true, cond_false, decide_true, decide_false, true_imp_iff, implies_true, Int.cast_ofNat_Int, forall_eq']
            rcases hres with ⟨r1, r2, r3, r4⟩ | ⟨r1, r2, r3, r4⟩
            · have hjd2 : decide (0 < (j : Int)) = false := decide_eq_false (by simp at hK2; omega)
              subst r2; subst r3; subst r4
              rw [hjd2]
              have hRl : R.length = j := (hKI 0).rlen
              simp only [famA_get0, ↓EVP0, EVQ0, EVQ1, EVQ2, EVQ3, EVQ4, EVA, EVK, EVF,EVFE, ↓reduceIte, Nat.reduceEqDiff, Nat.reduceAdd, Nat.reduceSub, Nat.reduceMul, Nat.reduceLT, Nat.reduceLeDiff, reduceCtorEq, Int.reduceToNat, Int.reduceLT, Int.reduceLE, Int.reduceAdd, Int.reduceSub, Int.reduceMul, Int.reduceNeg, Int.reduceEq, Nat.reduceMod, forall_eq_or_imp, forall_eq, forall_const, cond_true, cond_false, decide_true, decide_false, true_imp_iff, implies_true, Int.cast_ofNat_Int, forall_eq']
              exact ⟨by omega, hRl, by omega, by omega⟩
            · have hjd2 : decide (0 < (j : Int)) = true := decide_eq_true (by omega)
              subst r2; subst r3
              rw [hjd2]
              simp only [↓EVP0, EVQ0, EVQ1, EVQ2, EVQ3, EVQ4, EVA, EVK, EVF,EVFE, ↓reduceIte, Nat.reduceEqDiff, Nat.reduceAdd, Nat.reduceSub, Nat.reduceMul, Nat.reduceLT, Nat.reduceLeDiff, reduceCtorEq, Int.reduceToNat, Int.reduceLT, Int.reduceLE, Int.reduceAdd, Int.reduceSub, Int.reduceMul, Int.reduceNeg, Int.reduceEq, Nat.reduceMod, forall_eq_or_imp, forall_eq, forall_const, cond_true, cond_false, decide_true, decide_false, true_imp_iff, implies_true, Int.cast_ofNat_Int, forall_eq']
              refine ⟨by omega, callK_killD r4 ⟨ro_rows hLI _ _ _ _ false _ fun _ _ => rfl, roTo2d_int (Nat.le_add_left 4 _) rfl (hKI 0).mlen.symm, trivial⟩ ?_⟩
              simp only [↓EVP0, EVQ0, EVQ1, EVQ2, EVQ3, EVQ4, EVA, EVK, EVF,EVFE, ↓reduceIte, Nat.reduceEqDiff, Nat.reduceAdd, Nat.reduceSub, Nat.reduceMul, Nat.reduceLT, Nat.reduceLeDiff, reduceCtorEq, Int.reduceToNat, Int.reduceLT, Int.reduceLE, Int.reduceAdd, Int.reduceSub, Int.reduceMul, Int.reduceNeg, Int.reduceEq, Nat.reduceMod, forall_eq_or_imp, forall_eq, forall_const, cond_true, cond_false, decide_true, decide_false, true_imp_iff, implies_true, Int.cast_ofNat_Int, forall_eq']
          · rw [qS_ne N hQ, qT_ne hQ]
            unfold lb14_1
            simp only [hQd, famN_len, famA_len, famA_nil, famA_push, ↓EVP0, EVQ0, EVQ1, EVQ2, EVQ3, EVQ4, EVA, EVK, EVF,EVFE, ↓reduceIte, Nat.reduceEqDiff, Nat.reduceAdd, Nat.reduceSub, Nat.reduceMul, Nat.reduceLT, Nat.reduceLeDiff, reduceCtorEq, Int.reduceToNat, Int.reduceLT, Int.reduceLE, Int.reduceAdd, Int.reduceSub, Int.reduceMul, Int.reduceNeg, Int.reduceEq, Nat.reduceMod, forall_eq_or_imp, forall_eq, forall_const, cond_true, cond_false, decide_true, decide_false, true_imp_iff, implies_true, Int.cast_ofNat_Int, forall_eq']
            intro _ _
            rcases hres with ⟨r1, r2, r3, r4⟩ | ⟨r1, r2, r3, r4⟩
            · have hjd2 : decide ((Q.length : Int) < (j : Int)) = false := decide_eq_false (by omega)
              subst r2; subst r3; subst r4
              rw [hjd2]
              have hRl : R.length = j := (hKI 0).rlen
              simp only [famA_get0, ↓EVP0, EVQ0, EVQ1, EVQ2, EVQ3, EVQ4, EVA, EVK, EVF,EVFE, ↓reduceIte, Nat.reduceEqDiff, Nat.reduceAdd, Nat.reduceSub, Nat.reduceMul, Nat.reduceLT, Nat.reduceLeDiff, reduceCtorEq, Int.reduceToNat, Int.reduceLT, Int.reduceLE, Int.reduceAdd, Int.reduceSub, Int.reduceMul, Int.reduceNeg, Int.reduceEq, Nat.reduceMod, forall_eq_or_imp, forall_eq, forall_const, cond_true, cond_false, decide_true, decide_false, true_imp_iff, implies_true, Int.cast_ofNat_Int, forall_eq']
              exact ⟨by omega, hRl, by omega, by omega⟩
            · have hjd2 : decide ((Q.length : Int) < (j : Int)) = true := decide_eq_true (by omega)
              subst r2; subst r3
              rw [hjd2]
              simp only [↓EVP0, EVQ0, EVQ1, EVQ2, EVQ3, EVQ4, EVA, EVK, EVF,EVFE, ↓reduceIte, Nat.reduceEqDiff, Nat.reduceAdd, Nat.reduceSub, Nat.reduceMul, Nat.reduceLT, Nat.reduceLeDiff, reduceCtorEq, Int.reduceToNat, Int.reduceLT, Int.reduceLE, Int.reduceAdd, Int.reduceSub, Int.reduceMul, Int.reduceNeg, Int.reduceEq, Nat.reduceMod, forall_eq_or_imp, forall_eq, forall_const, cond_true, cond_false, decide_true, decide_false, true_imp_iff, implies_true, Int.cast_ofNat_Int, forall_eq']
              refine ⟨by omega, callK_killD r4 ⟨ro_rows hLI _ _ _ _ false _ fun _ _ => rfl, roTo2d_int (Nat.le_add_left 4 _) rfl (hKI 0).mlen.symm, trivial⟩ ?_⟩
              simp only [↓EVP0, EVQ0, EVQ1, EVQ2, EVQ3, EVQ4, EVA, EVK, EVF,EVFE, ↓reduceIte, Nat.reduceEqDiff, Nat.reduceAdd, Nat.reduceSub, Nat.reduceMul, Nat.reduceLT, Nat.reduceLeDiff, reduceCtorEq, Int.reduceToNat, Int.reduceLT, Int.reduceLE, Int.reduceAdd, Int.reduceSub, Int.reduceMul, Int.reduceNeg, Int.reduceEq, Nat.reduceMod, forall_eq_or_imp, forall_eq, forall_const, cond_true, cond_false, decide_true, decide_false, true_imp_iff, implies_true, Int.cast_ofNat_Int, forall_eq']
  · refine ⟨[], [], 1, .inl ⟨rfl, rfl, rfl, .inr (.inr (by simpa using hall))⟩, ?_⟩
    refine ev_fn Try.func14 comp14 (show 2 ≤ Try.f14.ntmps by decide) ?_; unfold cf14 rf14; simp only [↓EVP0, EVQ0, EVQ1, EVQ2, EVQ3, EVQ4, EVA, EVK, EVF,EVFE, ↓reduceIte, Nat.reduceEqDiff, Nat.reduceAdd, Nat.reduceSub, Nat.reduceMul, Nat.reduceLT, Nat.reduceLeDiff, reduceCtorEq, Int.reduceToNat, Int.reduceLT, Int.reduceLE, Int.reduceAdd, Int.reduceSub, Int.reduceMul, Int.reduceNeg, Int.reduceEq, Nat.reduceMod, forall_eq_or_imp, forall_eq, forall_const, cond_true, cond_false, decide_true, decide_false, true_imp_iff, implies_true, Int.cast_ofNat_Int, forall_eq']
    rw [e]
    simp only [↓EVP0, EVQ0, EVQ1, EVQ2, EVQ3, EVQ4, EVA, EVK, EVF,EVFE, ↓reduceIte, Nat.reduceEqDiff, Nat.reduceAdd, Nat.reduceSub, Nat.reduceMul, Nat.reduceLT, Nat.reduceLeDiff, reduceCtorEq, Int.reduceToNat, Int.reduceLT, Int.reduceLE, Int.reduceAdd, Int.reduceSub, Int.reduceMul, Int.reduceNeg, Int.reduceEq, Nat.reduceMod, forall_eq_or_imp, forall_eq, forall_const, cond_true, cond_false, decide_true, decide_false, true_imp_iff, implies_true, Int.cast_ofNat_Int, forall_eq']
    intro _
    refine lwp_for (α := Unit) l.length (fun i _ => ∀ d, d ∈ l.take i → inD m d) (fun i _ => [(0, .rsl 3 l.length (dpsF l)), (3, .ptr 0 0 0 0 0), (7, .fn 31 [.ptr 0 0 0 0 0]), (30, .rsl 3 l.length (dpsF l)), (31, .sc (.int .i64 l.length)), (32, .sc (.int .i64 i))])
      (fun _ _ => [(0, .box [.sc (.int .i64 m)])]) () (fun d hd => by simp at hd) ?_ (fun _ _ => Nat.zero_le _) ?_
    · simp only [↓EVP0, EVQ0, EVQ1, EVQ2, EVQ3, EVQ4, EVA, EVK, EVF,EVFE, ↓reduceIte, Nat.reduceEqDiff, Nat.reduceAdd, Nat.reduceSub, Nat.reduceMul, Nat.reduceLT, Nat.reduceLeDiff, reduceCtorEq, Int.reduceToNat, Int.reduceLT, Int.reduceLE, Int.reduceAdd, Int.reduceSub, Int.reduceMul, Int.reduceNeg, Int.reduceEq, Nat.reduceMod, forall_eq_or_imp, forall_eq, forall_const, cond_true, cond_false, decide_true, decide_false, true_imp_iff, implies_true, Int.cast_ofNat_Int, forall_eq']
    intro i _ hi hx
    unfold lb14_4
    simp only [↓EVP0, EVQ0, EVQ1, EVQ2, EVQ3, EVQ4, EVA, EVK, EVF,EVFE, ↓reduceIte, Nat.reduceEqDiff, Nat.reduceAdd, Nat.reduceSub, Nat.reduceMul, Nat.reduceLT, Nat.reduceLeDiff, reduceCtorEq, Int.reduceToNat, Int.reduceLT, Int.reduceLE, Int.reduceAdd, Int.reduceSub, Int.reduceMul, Int.reduceNeg, Int.reduceEq, Nat.reduceMod, forall_eq_or_imp, forall_eq, forall_const, cond_true, cond_false, decide_true, decide_false, true_imp_iff, implies_true, Int.cast_ofNat_Int, forall_eq']
    refine ⟨fun hg => ?_, fun hg => ?_⟩
    · have hi2 : i < l.length := by have := of_decide_eq_true hg; omega
      refine ⟨⟨by omega, by omega⟩, by kernel_rfl, ?_⟩
      refine callK_frzF (hhas _) ⟨roToF_self trivial, roTo2_box (by simp [mkH]) rfl ⟨⟨rfl, trivial⟩, trivial⟩, trivial⟩ trivial ?_
      simp only [↓EVP0, EVQ0, EVQ1, EVQ2, EVQ3, EVQ4, EVA, EVK, EVF,EVFE, ↓reduceIte, Nat.reduceEqDiff, Nat.reduceAdd, Nat.reduceSub, Nat.reduceMul, Nat.reduceLT, Nat.reduceLeDiff, reduceCtorEq, Int.reduceToNat, Int.reduceLT, Int.reduceLE, Int.reduceAdd, Int.reduceSub, Int.reduceMul, Int.reduceNeg, Int.reduceEq, Nat.reduceMod, forall_eq_or_imp, forall_eq, forall_const, cond_true, cond_false, decide_true, decide_false, true_imp_iff, implies_true, Int.cast_ofNat_Int, forall_eq']
      (refine lops_ge_imp ?_; simp only [↓EVP0, EVQ0, EVQ1, EVQ2, EVQ3, EVQ4, EVA, EVK, EVF,EVFE, ↓reduceIte, Nat.reduceEqDiff, Nat.reduceAdd, Nat.reduceSub, Nat.reduceMul, Nat.reduceLT, Nat.reduceLeDiff, reduceCtorEq, Int.reduceToNat, Int.reduceLT, Int.reduceLE, Int.reduceAdd, Int.reduceSub, Int.reduceMul, Int.reduceNeg, Int.reduceEq, Nat.reduceMod, forall_eq_or_imp, forall_eq, forall_const, cond_true, cond_false, decide_true, decide_false, true_imp_iff, implies_true, Int.cast_ofNat_Int, forall_eq'])
      refine ⟨fun h => ⟨h, h, by kernel_rfl⟩, ?_⟩
      refine gCallK_frzF _ (fun _ => hhas _) (fun _ => ⟨roToF_self trivial, roTo2_box (by simp [mkH]) rfl ⟨⟨rfl, trivial⟩, trivial⟩, trivial⟩) trivial ?_
      simp only [↓EVP0, EVQ0, EVQ1, EVQ2, EVQ3, EVQ4, EVA, EVK, EVF,EVFE, ↓reduceIte, Nat.reduceEqDiff, Nat.reduceAdd, Nat.reduceSub, Nat.reduceMul, Nat.reduceLT, Nat.reduceLeDiff, reduceCtorEq, Int.reduceToNat, Int.reduceLT, Int.reduceLE, Int.reduceAdd, Int.reduceSub, Int.reduceMul, Int.reduceNeg, Int.reduceEq, Nat.reduceMod, forall_eq_or_imp, forall_eq, forall_const, cond_true, cond_false, decide_true, decide_false, true_imp_iff, implies_true, Int.cast_ofNat_Int, forall_eq']
      cases e1 : hasM m (l.getD i default).f
      · exact ⟨fun _ => trivial, fun h => by simp at h⟩
      · cases e2 : hasM m (l.getD i default).t
        · exact ⟨fun _ => trivial, fun h => by simp at h⟩
        · refine ⟨fun h => by simp at h, fun _ => ⟨by unfold In64; omega, hi2, (), fun d hd => ?_⟩⟩
          rw [take_succ_getD default _ _ hi2] at hd
          rcases List.mem_append.1 hd with hd | hd
          · exact hx d hd
          · simp only [List.mem_singleton] at hd
            rw [hd]; exact ⟨hasM_iff.1 e1, hasM_iff.1 e2⟩
    · have hii : i = l.length := by have := of_decide_eq_false hg; omega
      rw [hii, List.take_length] at hx
      exact absurd hx hall
end Go.Proofs.Yteblljpbnpaplaa
