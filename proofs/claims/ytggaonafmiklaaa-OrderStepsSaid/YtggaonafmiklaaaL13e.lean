/- The lifted layer, part 13e: statements whose order is open, whole. Conditions: none. -/
import Derived.Test.YtggaonafmiklaaaL13d
namespace Go.Proofs.Ytggaonafmiklaaa
set_option linter.unusedSimpArgs false
set_option linter.unusedVariables false
open Go.RowKit

def lopsD (P : Program) : Bool → List LX → (LS → LH → Prop) → LS → LH → Prop
  | _, [], K, s, h => K s h
  | true, [o], K, s, h => ∃ v h', LStep P o s h v h' ∧ K (updO s o.dst v) h'
  | lf, o :: r, K, s, h => ∃ v, LStep P o s h v h ∧ lopsD P lf r K (updO s o.dst v) h

def stp (l : List LX) (vs : Nat → LV) (s : LS) (i : Nat) : LS :=
  match l[i]? with
  | some o => updO s o.dst (vs i)
  | none => s
def sOf (l : List LX) (vs : Nat → LV) (s : LS) : List Nat → LS
  | D => D.foldl (stp l vs) s

section
variable {P : Program} {l : List LX} {vs : Nat → LV} {s : LS} {h : LH} {K : LS → LH → Prop}

theorem sOf_snoc (D : List Nat) (i : Nat) : sOf l vs s (D ++ [i]) = stp l vs (sOf l vs s D) i := by simp [sOf]
theorem sOf_congr {vs' : Nat → LV} : ∀ (D : List Nat) (s : LS), (∀ i, i ∈ D → vs i = vs' i) → sOf l vs s D = sOf l vs' s D
  | [], _, _ => rfl
  | i :: D, s, hv => by
    have e : stp l vs s i = stp l vs' s i := by unfold stp; rw [hv i (by simp)]
    show sOf l vs (stp l vs s i) D = sOf l vs' (stp l vs' s i) D
    rw [e]
    exact sOf_congr D _ (fun j hj => hv j (by simp [hj]))

theorem lopsD_cons {lf : Bool} {o : LX} {r : List LX} (hr : r ≠ [] ∨ lf = false) : lopsD P lf (o :: r) K s h = ∃ v, LStep P o s h v h ∧ lopsD P lf r K (updO s o.dst v) h := by
  cases lf with
  | false => cases r <;> rfl
  | true =>
    cases r with
    | nil => simp at hr
    | cons o2 r => rfl

theorem vs_of (lf : Bool) : ∀ (suf pre : List LX) (vs : Nat → LV) (s1 : LS), l = pre ++ suf → s1 = sOf l vs s (List.range pre.length) → lopsD P lf suf K s1 h →
    ∃ vs' : Nat → LV, (∀ i, i < pre.length → vs' i = vs i) ∧ (∀ k, pre.length ≤ k → (k + 1 < l.length ∨ (lf = false ∧ k < l.length)) → ∃ o, l[k]? = some o ∧ LStep P o (sOf l vs' s (List.range k)) h (vs' k) h) ∧
      ((lf = false ∨ suf = []) → K (sOf l vs' s (List.range l.length)) h) ∧
      (lf = true → suf ≠ [] → ∃ o v h', l[l.length - 1]? = some o ∧ LStep P o (sOf l vs' s (List.range (l.length - 1))) h v h' ∧ K (updO (sOf l vs' s (List.range (l.length - 1))) o.dst v) h') := by
  intro suf
  induction suf with
  | nil =>
    intro pre vs s1 hl hs hD
    rw [List.append_nil] at hl
    subst hl
    refine ⟨vs, fun _ _ => rfl, fun k h1 h2 => ?_, fun _ => ?_, fun _ h => absurd rfl h⟩
    · rcases h2 with h2 | ⟨_, h2⟩ <;> omega
    · rw [← hs]; exact hD
  | cons o r ih =>
    intro pre vs s1 hl hs hD
    have hlen : l.length = pre.length + r.length + 1 := by rw [hl]; simp; omega
    have hget : l[pre.length]? = some o := by rw [hl]; simp
    by_cases hr : r ≠ [] ∨ lf = false
    · rw [lopsD_cons hr] at hD
      obtain ⟨v, h1, h2⟩ := hD
      have e0 : sOf l (fun i => if i = pre.length then v else vs i) s (List.range pre.length) = s1 := by
        rw [hs]
        apply sOf_congr
        intro i hi
        have := List.mem_range.1 hi
        rw [if_neg (by omega)]
      obtain ⟨vs', g1, g2, g3, g4⟩ := ih (pre ++ [o]) (fun i => if i = pre.length then v else vs i) (updO s1 o.dst v) (by rw [hl]; simp) (by
        simp only [List.length_append, List.length_singleton]
        rw [List.range_succ, sOf_snoc, e0]
        unfold stp
        rw [hget]; simp) h2
      simp only [List.length_append, List.length_singleton] at g1 g2
      refine ⟨vs', fun i hi => ?_, fun k hk hk2 => ?_, fun hc => ?_, fun hc _ => ?_⟩
      · rw [g1 i (by omega), if_neg (by omega)]
      · by_cases e : k = pre.length
        · subst e
          refine ⟨o, hget, ?_⟩
          have e1 : vs' pre.length = v := by rw [g1 _ (by omega)]; simp
          have e2 : sOf l vs' s (List.range pre.length) = s1 := by
            rw [← e0]
            apply sOf_congr
            intro i hi
            have := List.mem_range.1 hi
            exact g1 i (by omega)
          rw [e1, e2]; exact h1
        · exact g2 k (by omega) hk2
      · rcases hc with hc | hc
        · exact g3 (.inl hc)
        · simp at hc
      · rcases hr with hr | hr
        · exact g4 hc hr
        · rw [hr] at hc; simp at hc
    · have hr' : r = [] := by
        rcases Classical.em (r = []) with e | e
        · exact e
        · exact absurd (.inl e) hr
      have hlf : lf = true := by
        cases lf with
        | true => rfl
        | false => exact absurd (.inr rfl) hr
      subst hr' hlf
      obtain ⟨v, h', h1, h2⟩ := hD
      simp only [List.length_nil, Nat.add_zero] at hlen
      have e1 : l.length - 1 = pre.length := by omega
      refine ⟨vs, fun _ _ => rfl, fun k hk hk2 => ?_, fun hc => ?_, fun _ _ => ?_⟩
      · rcases hk2 with hk2 | ⟨hk2, _⟩
        · omega
        · simp at hk2
      · rcases hc with hc | hc <;> simp at hc
      · rw [e1]
        exact ⟨o, v, h', hget, by rw [← hs]; exact h1, by rw [← hs]; exact h2⟩

/-- Who writes a slot. -/
def wrt (l : List LX) (t i : Nat) : Prop := ∃ o, l[i]? = some o ∧ o.dst = some t

theorem stp_other {i t : Nat} (hw : ¬ wrt l t i) (s : LS) : stp l vs s i t = s t := by
  unfold stp
  cases ho : l[i]? with
  | none => rfl
  | some o =>
    simp only
    cases hd : o.dst with
    | none => rfl
    | some d =>
      show upd s d (vs i) t = s t
      unfold upd
      rw [if_neg (fun e => hw ⟨o, ho, by rw [hd, e]⟩)]
theorem stp_self {i t : Nat} (hw : wrt l t i) (s : LS) : stp l vs s i t = vs i := by
  obtain ⟨o, ho, hd⟩ := hw
  unfold stp
  rw [ho]
  simp only [hd]
  show upd s t (vs i) t = vs i
  simp [upd]

theorem range_none {t : Nat} : ∀ (k : Nat), (∀ j, j < k → ¬ wrt l t j) → sOf l vs s (List.range k) t = s t
  | 0, _ => rfl
  | k + 1, hk => by
    rw [List.range_succ, sOf_snoc, stp_other (hk k (by omega))]
    exact range_none k (fun j hj => hk j (by omega))
theorem range_last {t j : Nat} (hj : wrt l t j) : ∀ (k : Nat), j < k → (∀ i, j < i → i < k → ¬ wrt l t i) → sOf l vs s (List.range k) t = vs j
  | 0, h, _ => by omega
  | k + 1, hlt, hk => by
    rw [List.range_succ, sOf_snoc]
    by_cases e : j = k
    · subst e; exact stp_self hj _
    · rw [stp_other (hk k (by omega) (by omega))]
      exact range_last hj k (by omega) (fun i h1 h2 => hk i h1 (by omega))

theorem sOf_eq {t : Nat} : ∀ (n : Nat) (D : List Nat) (k : Nat), D.length = n → D.Nodup → (∀ j, wrt l t j → (j ∈ D ↔ j < k)) → (∀ p j q, D = p ++ j :: q → wrt l t j → ∀ j', j' ∈ p → wrt l t j' → j' < j) →
    sOf l vs s D t = sOf l vs s (List.range k) t := by
  intro n
  induction n with
  | zero =>
    intro D k hl _ hD _
    have : D = [] := List.length_eq_zero_iff.1 hl
    subst this
    rw [range_none k (fun j hj hw => by have := (hD j hw).2 hj; simp at this)]
    rfl
  | succ n ih =>
    intro D k hl hn hD ho
    rcases List.eq_nil_or_concat D with rfl | ⟨D', j, rfl⟩
    · simp at hl
    · rw [List.concat_eq_append] at *
      have hl' : D'.length = n := by simpa using hl
      have hn' : D'.Nodup ∧ j ∉ D' := by
        have := List.nodup_append.1 hn
        refine ⟨this.1, fun hm => ?_⟩
        exact this.2.2 j hm j (by simp) rfl
      rw [sOf_snoc]
      by_cases hw : wrt l t j
      · rw [stp_self hw]
        have hjk : j < k := (hD j hw).1 (by simp)
        rw [range_last hw k hjk (fun i h1 h2 hwi => ?_)]
        have hm := (hD i hwi).2 h2
        rcases List.mem_append.1 hm with hm | hm
        · have := ho D' j [] (by simp) hw i hm hwi
          omega
        · simp at hm; omega
      · rw [stp_other hw]
        refine ih D' k hl' hn'.1 (fun i hwi => ?_) (fun p i q hp hwi j' hj' hwj => ?_)
        · rw [← hD i hwi]
          constructor
          · intro hm; exact List.mem_append_left _ hm
          · intro hm
            rcases List.mem_append.1 hm with hm | hm
            · exact hm
            · simp at hm; subst hm; exact absurd hwi hw
        · exact ho p i (q ++ [j]) (by rw [hp]; simp) hwi j' hj' hwj

theorem clash_wr {a b : LX} {t : Nat} (ha : a.dst = some t) (hb : t ∈ rdX b ∨ b.dst = some t) : clash a b = true := by
  unfold clash
  rw [ha]
  rcases hb with hb | hb
  · simp [hb]
  · simp [hb]
theorem clash_rw {a b : LX} {t : Nat} (hb : b.dst = some t) (ha : t ∈ rdX a) : clash a b = true := by
  unfold clash
  rw [hb]
  simp [ha]

theorem lops_draw {dr : Bool} {ops : Array Oper} {lf : Bool} {N : Nat} (hc : cOps dr P N ops ops.toList = some l) (hlen : l.length = ops.size) (hok : drawOk P ops l lf = true) (hD : lopsD P lf l K s h) (t : Nat) :
    lops P ((Region.schedule (P.follows .mixedOrders) ops t).filterMap (l[·]?)) K s h := by
  simp only [drawOk, Bool.and_eq_true] at hok
  obtain ⟨⟨⟨hmix, hback⟩, hcl⟩, hlast⟩ := hok
  have hback' : ∀ i o, ops[i]? = some o → ∀ e, e ∈ o.after → Region.binds .any e = true → e.on < i := by
    intro i o ho e he hb
    have hi : i < ops.size := (Array.getElem?_eq_some_iff.1 ho).1
    have := List.all_eq_true.1 hback i (List.mem_range.2 hi)
    rw [ho] at this
    simp only [Array.all_eq_true, Bool.or_eq_true, Bool.not_eq_true', decide_eq_true_eq] at this
    obtain ⟨x, hx, rfl⟩ := Array.getElem_of_mem he
    rcases this x hx with h1 | h1
    · rw [hb] at h1; simp at h1
    · exact h1
  obtain ⟨hnd, hltn, hln, hval⟩ := sched_ok (P := P) (by simpa using hmix) hback' t
  generalize Region.schedule (P.follows .mixedOrders) ops t = idx at *
  have hall : ∀ i, i < l.length → i ∈ idx := by
    intro i hi
    rcases Classical.em (i ∈ idx) with h1 | h1
    · exact h1
    · exfalso
      have h2 := sub_len (i :: idx) (List.range ops.size) (List.nodup_cons.2 ⟨h1, hnd⟩) (fun j hj => by
        rcases List.mem_cons.1 hj with rfl | hj
        · exact List.mem_range.2 (by omega)
        · exact List.mem_range.2 (hltn j hj))
      simp at h2; omega
  have hcl' : ∀ i j a b, i < j → l[i]? = some a → l[j]? = some b → clash a b = true → anc ops ops.size j i = true := by
    intro i j a b hij ha hb hab
    have hj := (List.getElem?_eq_some_iff.1 hb).1
    have := List.all_eq_true.1 (List.all_eq_true.1 hcl j (List.mem_range.2 hj)) i (List.mem_range.2 hij)
    rw [ha, hb] at this
    simpa [hab] using this
  have hord : ∀ p j q, idx = p ++ j :: q → ∀ i a b, l[i]? = some a → l[j]? = some b → (i < j → clash a b = true → i ∈ p) ∧ (j < i → clash b a = true → i ∉ p) := by
    intro p j q hp i a b ha hb
    refine ⟨fun hij hab => hval.anc _ _ _ (hcl' i j a b hij ha hb hab) p q hp, fun hji hab hm => ?_⟩
    have hanc := hcl' j i b a hji hb ha hab
    obtain ⟨p1, p2, rfl⟩ := List.append_of_mem hm
    have := hval.anc _ _ _ hanc p1 (p2 ++ j :: q) (by rw [hp]; simp)
    rw [hp] at hnd
    have h3 := List.nodup_append.1 hnd
    exact h3.2.2 j (List.mem_append_left _ this) j (by simp) rfl
  obtain ⟨vs, _, hsteps, hend, hendl⟩ := vs_of (l := l) (s := s) lf l [] (fun _ => .any) s rfl rfl hD
  -- what is executed ahead of an operation agrees with the text
  have hagree : ∀ p j q b, idx = p ++ j :: q → l[j]? = some b → ∀ t, t ∈ rdX b → sOf l vs s p t = sOf l vs s (List.range j) t := by
    intro p j q b hp hb t ht
    have hpn : p.Nodup := by rw [hp] at hnd; exact (List.nodup_append.1 hnd).1
    have hjp : j ∉ p := by
      intro hm
      rw [hp] at hnd
      exact (List.nodup_append.1 hnd).2.2 j hm j (by simp) rfl
    refine sOf_eq p.length p j rfl hpn (fun i hw => ?_) (fun p' i q' hp' hwi i' hi' hwi' => ?_)
    · obtain ⟨a, ha, hd⟩ := hw
      constructor
      · intro hm
        rcases Nat.lt_trichotomy i j with h1 | h1 | h1
        · exact h1
        · subst h1; exact absurd hm hjp
        · exact absurd hm ((hord p j q hp i a b ha hb).2 h1 (clash_rw hd ht))
      · intro hij; exact (hord p j q hp i a b ha hb).1 hij (clash_wr hd (.inl ht))
    · obtain ⟨a, ha, hd⟩ := hwi
      obtain ⟨a', ha', hd'⟩ := hwi'
      have hidx : idx = p' ++ i :: (q' ++ j :: q) := by rw [hp, hp']; simp
      rcases Nat.lt_trichotomy i' i with h1 | h1 | h1
      · exact h1
      · subst h1
        rw [hp'] at hpn
        exact absurd rfl ((List.nodup_append.1 hpn).2.2 i' hi' i' (by simp))
      · exact absurd hi' ((hord p' i _ hidx i' a' a ha' ha).2 h1 (clash_wr hd (.inr hd')))
  have hfull : ∀ (p : List Nat) (k : Nat), (∃ q, idx = p ++ q) → (∀ i, i < l.length → (i ∈ p ↔ i < k)) → sOf l vs s p = sOf l vs s (List.range k) := by
    intro p k hpq hk
    obtain ⟨q, hp⟩ := hpq
    have hpn : p.Nodup := by rw [hp] at hnd; exact (List.nodup_append.1 hnd).1
    funext t
    refine sOf_eq p.length p k rfl hpn (fun i hw => ?_) (fun p' i q' hp' hwi i' hi' hwi' => ?_)
    · obtain ⟨a, ha, hd⟩ := hw
      exact hk i (List.getElem?_eq_some_iff.1 ha).1
    · obtain ⟨a, ha, hd⟩ := hwi
      obtain ⟨a', ha', hd'⟩ := hwi'
      have hidx : idx = p' ++ i :: (q' ++ q) := by rw [hp, hp']; simp
      rcases Nat.lt_trichotomy i' i with h1 | h1 | h1
      · exact h1
      · subst h1
        rw [hp'] at hpn
        exact absurd rfl ((List.nodup_append.1 hpn).2.2 i' hi' i' (by simp))
      · exact absurd hi' ((hord p' i _ hidx i' a' a ha' ha).2 h1 (clash_wr hd (.inr hd')))
  have hlast' : lf = true → ∀ p j q, idx = p ++ j :: q → j = l.length - 1 → ∀ i, i < l.length - 1 → i ∈ p := by
    intro hlf p j q hp hj i hi
    rw [hlf] at hlast
    simp only [Bool.not_true, Bool.false_or] at hlast
    have := List.all_eq_true.1 hlast i (List.mem_range.2 hi)
    rw [← hj] at this
    exact hval.anc _ _ _ this p q hp
  -- along the schedule
  have key : ∀ (q p : List Nat), idx = p ++ q → (lf = false ∨ q ≠ [] ∨ l = []) → lops P (q.filterMap (l[·]?)) K (sOf l vs s p) h := by
    intro q
    induction q with
    | nil =>
      intro p hp hcase
      rw [List.append_nil] at hp
      simp only [List.filterMap_nil, lops]
      rw [hfull p l.length ⟨[], by rw [hp]; simp⟩ (fun i hi => ⟨fun _ => hi, fun _ => by rw [← hp]; exact hall i hi⟩)]
      rcases hcase with hc | hc | hc
      · exact hend (.inl hc)
      · exact absurd rfl hc
      · exact hend (.inr hc)
    | cons j q ih =>
      intro p hp _
      have hj : j < l.length := by rw [hlen]; exact hltn j (by rw [hp]; simp)
      rw [List.filterMap_cons_some (List.getElem?_eq_getElem hj)]
      simp only [lops]
      have hndp := hnd
      rw [hp] at hndp
      have hsplit := List.nodup_append.1 hndp
      by_cases hlj : lf = true ∧ j = l.length - 1
      · obtain ⟨hlf, hjl⟩ := hlj
        have hbefore := hlast' hlf p j q hp hjl
        have hq : q = [] := by
          cases q with
          | nil => rfl
          | cons i q =>
            exfalso
            have hi : i < l.length := by rw [hlen]; exact hltn i (by rw [hp]; simp)
            have hne : i ≠ j := by
              intro e; subst e
              have := (List.nodup_cons.1 hsplit.2.1).1
              simp at this
            have := hbefore i (by omega)
            exact hsplit.2.2 i this i (by simp) rfl
        subst hq
        have hjp : j ∉ p := fun hm => hsplit.2.2 j hm j (by simp) rfl
        have hse := hfull p (l.length - 1) ⟨[j], hp⟩ (fun i hi => ⟨fun hm => by
          rcases Nat.lt_or_ge i (l.length - 1) with h1 | h1
          · exact h1
          · have : i = j := by omega
            subst this; exact absurd hm hjp, fun hlt => hbefore i hlt⟩)
        obtain ⟨o, v, h', g1, g2, g3⟩ := hendl hlf (fun e => by rw [e] at hj; simp at hj)
        rw [← hjl] at g1
        have go : l[j] = o := by
          rw [List.getElem?_eq_getElem hj] at g1
          injection g1
        rw [go]
        refine ⟨v, h', by rw [hse]; exact g2, fun _ => ?_⟩
        simp only [List.filterMap_nil, lops]
        rw [hse]; exact g3
      · have hk : j + 1 < l.length ∨ (lf = false ∧ j < l.length) := by
          cases lf with
          | false => exact .inr ⟨rfl, hj⟩
          | true =>
            left
            have : j ≠ l.length - 1 := fun e => hlj ⟨rfl, e⟩
            omega
        obtain ⟨o, g1, g2⟩ := hsteps j (Nat.zero_le _) hk
        have go : l[j] = o := by
          rw [List.getElem?_eq_getElem hj] at g1
          injection g1
        rw [go]
        refine ⟨vs j, h, LStep_congr (fun t ht => (hagree p j q o hp g1 t ht).symm) g2, fun _ => ?_⟩
        have e1 : updO (sOf l vs s p) o.dst (vs j) = sOf l vs s (p ++ [j]) := by
          rw [sOf_snoc]; unfold stp; rw [g1]
        rw [e1]
        refine ih (p ++ [j]) (by rw [hp]; simp) ?_
        cases hlfv : lf with
        | false => exact .inl rfl
        | true =>
          right; left
          intro hq
          subst hq
          have hjl : j ≠ l.length - 1 := fun e => hlj ⟨hlfv, e⟩
          have hm := hall (l.length - 1) (by omega)
          rw [hp] at hm
          rcases List.mem_append.1 hm with hm | hm
          · obtain ⟨p1, p2, hpp⟩ := List.append_of_mem hm
            have := hlast' hlfv p1 (l.length - 1) (p2 ++ [j]) (by rw [hp, hpp]; simp) rfl j (by omega)
            exact hsplit.2.2 j (by rw [hpp]; exact List.mem_append_left _ this) j (by simp) rfl
          · simp at hm; omega
  refine key idx [] rfl ?_
  by_cases hl0 : l = []
  · exact .inr (.inr hl0)
  · right; left
    intro e
    rw [e] at hln
    simp at hln
    exact hl0 (List.length_eq_zero_iff.1 (by omega))

end
end Go.Proofs.Ytggaonafmiklaaa
