/- The lifted layer, part 13e: statements whose order is open, whole. Conditions: none. -/
import Derived.Test.YtfhifkcbdpgomaaL13d
namespace Go.Proofs.Ytfhifkcbdpgomaa
set_option linter.unusedSimpArgs false
set_option linter.unusedVariables false
open Go.RowKit

def lopsE (P : Program) : List LX → (LS → LH → Prop) → LS → LH → Prop
  | [], K, s, h => K s h
  | o :: r, K, s, h => ∃ v h', LStep P o s h v h' ∧ lopsE P r K (updO s o.dst v) h'
def lopsA (P : Program) : List (List LX) → (LS → LH → Prop) → LS → LH → Prop
  | [], _, _, _ => True
  | x :: r, K, s, h => lopsE P x K s h ∧ lopsA P r K s h
def lopsD (P : Program) : List LX → List (List LX) → (LS → LH → Prop) → LS → LH → Prop
  | [], sufs, K, s, h => lopsA P sufs K s h
  | o :: r, sufs, K, s, h => ∃ v, LStep P o s h v h ∧ lopsD P r sufs K (updO s o.dst v) h
theorem lopsA_mem {P : Program} {K : LS → LH → Prop} {s : LS} {h : LH} {x : List LX} : ∀ {l : List (List LX)}, lopsA P l K s h → x ∈ l → lopsE P x K s h
  | [], _, hx => by simp at hx
  | y :: r, hl, hx => by
    rcases List.mem_cons.1 hx with rfl | hx
    · exact hl.1
    · exact lopsA_mem hl.2 hx

def stp (l : List LX) (vs : Nat → LV) (s : LS) (i : Nat) : LS :=
  match l[i]? with
  | some o => updO s o.dst (vs i)
  | none => s
def sOf (l : List LX) (vs : Nat → LV) (s : LS) : List Nat → LS
  | D => D.foldl (stp l vs) s

section
variable {P : Program} {l : List LX} {vs : Nat → LV} {s : LS} {h : LH} {K : LS → LH → Prop}

theorem sOf_snoc (D : List Nat) (i : Nat) : sOf l vs s (D ++ [i]) = stp l vs (sOf l vs s D) i := by simp [sOf]
theorem sOf_congr {vs' : Nat → LV} : ∀ (D : List Nat) (s : LS), (∀ i, i ∈ D → vs i = vs' i) → sOf l vs s D = sOf l vs' s D
  | [], _, _ => rfl
  | i :: D, s, hv => by
    have e : stp l vs s i = stp l vs' s i := by unfold stp; rw [hv i (by simp)]
    show sOf l vs (stp l vs s i) D = sOf l vs' (stp l vs' s i) D
    rw [e]
    exact sOf_congr D _ (fun j hj => hv j (by simp [hj]))

/-- What a run in one order wrote down. -/
theorem rec_of : ∀ (b D : List Nat) (vs : Nat → LV) (h1 : LH), (D ++ b).Nodup → (∀ i, i ∈ b → i < l.length) → lopsE P (b.filterMap (l[·]?)) K (sOf l vs s D) h1 →
    ∃ (vs' : Nat → LV) (H : Nat → LH), (∀ i, i ∈ D → vs' i = vs i) ∧ H 0 = h1 ∧ (∀ m j, b[m]? = some j → ∃ o, l[j]? = some o ∧ LStep P o (sOf l vs' s (D ++ b.take m)) (H m) (vs' j) (H (m + 1))) ∧
      K (sOf l vs' s (D ++ b)) (H b.length) := by
  intro b
  induction b with
  | nil =>
    intro D vs h1 hn hb hD
    exact ⟨vs, fun _ => h1, fun _ _ => rfl, rfl, fun m j h => by simp at h, by rw [List.append_nil]; exact hD⟩
  | cons j b ih =>
    intro D vs h1 hn hb hD
    have hj : j < l.length := hb j (by simp)
    rw [List.filterMap_cons_some (List.getElem?_eq_getElem hj)] at hD
    obtain ⟨v, h2, hs1, hD⟩ := hD
    have hjD : j ∉ D := by
      intro hm
      exact (List.nodup_append.1 hn).2.2 j hm j (by simp) rfl
    have e0 : sOf l (fun i => if i = j then v else vs i) s D = sOf l vs s D := by
      apply sOf_congr
      intro i hi
      rw [if_neg (show ¬ i = j from fun e => hjD (e ▸ hi))]
    obtain ⟨vs', H, g1, g2, g3, g4⟩ := ih (D ++ [j]) (fun i => if i = j then v else vs i) h2 (by simpa using hn) (fun i hi => hb i (by simp [hi])) (by
      rw [sOf_snoc, e0]
      unfold stp
      rw [List.getElem?_eq_getElem hj]
      simpa using hD)
    have g1' : ∀ i, i ∈ D → vs' i = vs i := by
      intro i hi
      rw [g1 i (by simp [hi]), if_neg (show ¬ i = j from fun e => hjD (e ▸ hi))]
    refine ⟨vs', fun m => match m with | 0 => h1 | m + 1 => H m, g1', rfl, ?_, ?_⟩
    · intro m k hm
      cases m with
      | zero =>
        simp only [List.getElem?_cons_zero, Option.some.injEq] at hm
        subst hm
        refine ⟨_, List.getElem?_eq_getElem hj, ?_⟩
        have e1 : vs' j = v := by rw [g1 j (by simp)]; simp
        have e2 : sOf l vs' s D = sOf l vs s D := sOf_congr D s g1'
        simp only [List.take_zero, List.append_nil]
        rw [e1, e2, g2]; exact hs1
      | succ m =>
        simp only [List.getElem?_cons_succ] at hm
        obtain ⟨o, a1, a2⟩ := g3 m k hm
        exact ⟨o, a1, by simpa using a2⟩
    · simpa using g4
/-- What the quiet part wrote down. -/
theorem vs_of {mk : Nat → LX → LX} (hmk : ∀ i o, (mk i o).dst = o.dst) {sufs : List (List LX)} : ∀ (b D : List Nat) (vs : Nat → LV), (D ++ b).Nodup → (∀ i, i ∈ b → i < l.length) → lopsD P (b.filterMap fun i => (l[i]?).map (mk i)) sufs K (sOf l vs s D) h →
    ∃ vs' : Nat → LV, (∀ i, i ∈ D → vs' i = vs i) ∧ (∀ m j, b[m]? = some j → ∃ o, l[j]? = some o ∧ LStep P (mk j o) (sOf l vs' s (D ++ b.take m)) h (vs' j) h) ∧
      lopsA P sufs K (sOf l vs' s (D ++ b)) h := by
  intro b
  induction b with
  | nil =>
    intro D vs hn hb hD
    exact ⟨vs, fun _ _ => rfl, fun m j h => by simp at h, by rw [List.append_nil]; exact hD⟩
  | cons j b ih =>
    intro D vs hn hb hD
    have hj : j < l.length := hb j (by simp)
    rw [List.filterMap_cons_some (b := mk j l[j]) (by rw [List.getElem?_eq_getElem hj]; rfl)] at hD
    obtain ⟨v, hs1, hD⟩ := hD
    have hjD : j ∉ D := by
      intro hm
      exact (List.nodup_append.1 hn).2.2 j hm j (by simp) rfl
    have e0 : sOf l (fun i => if i = j then v else vs i) s D = sOf l vs s D := by
      apply sOf_congr
      intro i hi
      rw [if_neg (show ¬ i = j from fun e => hjD (e ▸ hi))]
    obtain ⟨vs', g1, g3, g4⟩ := ih (D ++ [j]) (fun i => if i = j then v else vs i) (by simpa using hn) (fun i hi => hb i (by simp [hi])) (by
      rw [sOf_snoc, e0]
      unfold stp
      rw [List.getElem?_eq_getElem hj]
      rw [hmk] at hD
      simpa using hD)
    have g1' : ∀ i, i ∈ D → vs' i = vs i := by
      intro i hi
      rw [g1 i (by simp [hi]), if_neg (show ¬ i = j from fun e => hjD (e ▸ hi))]
    refine ⟨vs', g1', ?_, ?_⟩
    · intro m k hm
      cases m with
      | zero =>
        simp only [List.getElem?_cons_zero, Option.some.injEq] at hm
        subst hm
        refine ⟨_, List.getElem?_eq_getElem hj, ?_⟩
        have e1 : vs' j = v := by rw [g1 j (by simp)]; simp
        have e2 : sOf l vs' s D = sOf l vs s D := sOf_congr D s g1'
        simp only [List.take_zero, List.append_nil]
        rw [e1, e2]; exact hs1
      | succ m =>
        simp only [List.getElem?_cons_succ] at hm
        obtain ⟨o, a1, a2⟩ := g3 m k hm
        exact ⟨o, a1, by simpa using a2⟩
    · simpa using g4
theorem free_any {o : LX} {s : LS} {h h2 : LH} {v : LV} {h' : LH} (hf : isFree o = true) (hs : LStep P o s h v h') : LStep P o s h2 v h2 := by
  obtain ⟨d, g, op⟩ := o
  cases op with
  | e q => simp [isFree] at hf
  | p q =>
    have e : pval s h q = pval s h2 q ∧ ∀ g, pvc P g s h q → pvc P g s h2 q := by
      cases q <;> simp [isFree, freeP] at hf <;> exact ⟨rfl, fun _ hx => hx⟩
    unfold LStep at hs ⊢
    cases g with
    | none => exact ⟨e.2 _ hs.1, by rw [← e.1]; exact hs.2.1, rfl⟩
    | some gw => exact ⟨hs.1, e.2 _ hs.2.1, by rw [← e.1]; exact hs.2.2.1, rfl⟩
/-- A longer heap. -/
def Ext (h hh : LH) : Prop := h.n ≤ hh.n ∧ ∀ k, k < h.n → hh.f k = h.f k
theorem Ext.refl (h : LH) : Ext h h := ⟨Nat.le_refl _, fun _ _ => rfl⟩
theorem Ext.trans {a b c : LH} (h1 : Ext a b) (h2 : Ext b c) : Ext a c := ⟨Nat.le_trans h1.1 h2.1, fun k hk => by rw [h2.2 k (Nat.lt_of_lt_of_le hk h1.1), h1.2 k hk]⟩
theorem Ext.push (h : LH) (ob : LO) : Ext h (h.push ob) := ⟨Nat.le_succ _, fun k hk => by show (if k = h.n then _ else _) = _; rw [if_neg (by omega)]⟩
theorem al_ext {o : LX} {s : LS} {h : LH} {v : LV} {h' : LH} (hf : isAl o = true) (hs : LStep P o s h v h') : Ext h h' := by
  obtain ⟨d, g, op⟩ := o
  cases g with
  | some gw => cases op <;> simp [isAl] at hf
  | none =>
    cases op with
    | p q => simp [isAl] at hf
    | e q =>
      have hs' : eff P s h q v h' := hs
      cases q <;> simp [isAl] at hf
      · obtain ⟨_, rfl⟩ := hs'; exact Ext.push _ _
      · obtain ⟨_, _, _, rfl⟩ := hs'; exact Ext.push _ _
      · obtain ⟨_, _, _, _, _, _, rfl⟩ := hs'; exact Ext.push _ _
      · obtain ⟨_, _, _, _, rfl⟩ := hs'; exact Ext.push _ _
      · obtain ⟨_, rfl⟩ := hs'; exact Ext.push _ _
theorem len_ext {kd : Nat} {h hh : LH} (hE : Ext h hh) {v : LV} (hc : lenC h kd v) : lenC hh kd v ∧ lenV hh v = lenV h v := by
  cases v with
  | sc x => cases x <;> exact ⟨hc, rfl⟩
  | mp k ver =>
    obtain ⟨h1, h2, h3, h4⟩ := hc
    have e := hE.2 k h2
    refine ⟨⟨h1, Nat.lt_of_lt_of_le h2 hE.1, by rw [e]; exact h3, by rw [e]; exact h4⟩, ?_⟩
    simp only [lenV]; rw [e]
  | _ => exact ⟨hc, rfl⟩
theorem ld_ext {g : Bool} {n : Option Nat} {h hh : LH} (hE : Ext h hh) {v : LV} (hc : ldC g n h v) : ldC g n hh v ∧ ldV n hh v = ldV n h v := by
  cases v with
  | ptr k ver sz i c =>
    obtain ⟨h2, h3, h4⟩ := hc
    have e := hE.2 k h2
    refine ⟨⟨Nat.lt_of_lt_of_le h2 hE.1, by rw [e]; exact h3, by rw [e]; exact h4⟩, ?_⟩
    simp only [ldV]; rw [e]
  | _ => exact ⟨hc, rfl⟩
theorem iad_ext {g : Bool} {sz : Nat} {h hh : LH} (hE : Ext h hh) {v i : LV} (hc : iadC h g sz v i) : iadC hh g sz v i := by
  cases v with
  | sl k ver z o n =>
    cases i with
    | sc x =>
      cases x with
      | int kk j =>
        obtain ⟨h1, h2, h3, h4⟩ := hc
        exact ⟨h1, Nat.lt_of_lt_of_le h2 hE.1, by rw [hE.2 k h2]; exact h3, h4⟩
      | _ => exact hc
    | _ => exact hc
  | rsl z n f =>
    cases i with
    | sc x => cases x <;> exact hc
    | _ => exact hc
  | _ => cases i <;> exact hc
theorem map_ext {h hh : LH} (hE : Ext h hh) {v : LV} (hc : mapLive h v) : mapLive hh v ∧ mapE hh v = mapE h v := by
  cases v with
  | mp k ver =>
    obtain ⟨h1, h2, h3⟩ := hc
    have e := hE.2 k h1
    refine ⟨⟨Nat.lt_of_lt_of_le h1 hE.1, by rw [e]; exact h2, by rw [e]; exact h3⟩, ?_⟩
    simp only [mapE]; rw [e]
  | _ => exact ⟨hc, rfl⟩
theorem ext_p {q : LOp} {s : LS} {h hh : LH} (hq : isExt ⟨none, none, .p q⟩ = true) (hE : Ext h hh) {g : Bool} (hc : pvc P g s h q) : pvc P g s hh q ∧ pval s hh q = pval s h q := by
  have hfr : freeP q = true → pvc P g s hh q ∧ pval s hh q = pval s h q := by
    intro hf
    cases q <;> simp [freeP] at hf <;> exact ⟨hc, rfl⟩
  cases q with
  | ld n x => exact ⟨⟨hc.1, (ld_ext hE hc.2).1⟩, (ld_ext hE hc.2).2⟩
  | len kd x => exact ⟨⟨hc.1, (len_ext hE hc.2).1⟩, (len_ext hE hc.2).2⟩
  | iad z x i => exact ⟨⟨hc.1, hc.2.1, iad_ext hE hc.2.2⟩, rfl⟩
  | lkp kt z o m k =>
    obtain ⟨h1, h2⟩ := map_ext hE hc.2.2.1
    exact ⟨⟨hc.1, hc.2.1, h1, hc.2.2.2.1, by rw [h2]; exact hc.2.2.2.2⟩, by simp only [pval]; rw [h2]⟩
  | _ => exact hfr rfl
/-- A quiet operation in a longer heap. -/
theorem ext_step {o : LX} {s : LS} {h hh : LH} {v : LV} (hq : isExt o = true) (hE : Ext h hh) (hs : LStep P (toE o) s h v h) : LStep P o s hh v hh := by
  obtain ⟨d, g, op⟩ := o
  cases op with
  | p q =>
    have hs : LStep P ⟨d, g, .p q⟩ s h v h := hs
    unfold LStep at hs ⊢
    cases g with
    | none => obtain ⟨a, b⟩ := ext_p (P := P) hq hE hs.1; exact ⟨a, by rw [b]; exact hs.2.1, rfl⟩
    | some gw => obtain ⟨a, b⟩ := ext_p (P := P) hq hE hs.2.1; exact ⟨hs.1, a, by rw [b]; exact hs.2.2.1, rfl⟩
  | e q =>
    have key : ∀ r h', eff P s h (eE q) r h' → eff P s hh q r hh ∧ h' = h := by
      intro r h' he
      cases q <;> simp [isExt] at hq
      · exact ⟨⟨he.1, he.2.1 hh⟩, he.2.2⟩
      · exact ⟨⟨he.1, he.2.1, rfl⟩, he.2.2⟩
    have hs : LStep P ⟨d, g, .e (eE q)⟩ s h v h := hs
    unfold LStep at hs ⊢
    cases g with
    | none => exact (key _ _ hs).1
    | some gw =>
      obtain ⟨h1, h2⟩ := hs
      refine ⟨h1, ?_⟩
      rcases h2 with ⟨a, b⟩ | ⟨a, b, c⟩ | ⟨r', a, b, c⟩
      · exact .inl ⟨a, (key _ _ b).1⟩
      · exact .inr (.inl ⟨a, b, rfl⟩)
      · exact .inr (.inr ⟨r', a, rfl, fun hg => (key _ _ (c hg)).1⟩)
theorem toE_self {o : LX} {s : LS} {h : LH} {v : LV} (hs : LStep P (toE o) s h v h) : LStep P o s h v h := by
  obtain ⟨d, g, op⟩ := o
  cases op with
  | p q => exact hs
  | e q =>
    cases q with
    | call f al => exact ext_step (o := ⟨d, g, .e (.call f al)⟩) rfl (Ext.refl h) hs
    | _ => exact hs
theorem toE_dst (o : LX) : (toE o).dst = o.dst := rfl

/-- Who writes a slot. -/
def wrt (l : List LX) (t i : Nat) : Prop := ∃ o, l[i]? = some o ∧ o.dst = some t

theorem stp_other {i t : Nat} (hw : ¬ wrt l t i) (s : LS) : stp l vs s i t = s t := by
  unfold stp
  cases ho : l[i]? with
  | none => rfl
  | some o =>
    simp only
    cases hd : o.dst with
    | none => rfl
    | some d =>
      show upd s d (vs i) t = s t
      unfold upd
      rw [if_neg (fun e => hw ⟨o, ho, by rw [hd, e]⟩)]
theorem stp_self {i t : Nat} (hw : wrt l t i) (s : LS) : stp l vs s i t = vs i := by
  obtain ⟨o, ho, hd⟩ := hw
  unfold stp
  rw [ho]
  simp only [hd]
  show upd s t (vs i) t = vs i
  simp [upd]

/-- The writers of a slot stand in the order of the text. -/
def incW (l : List LX) (t : Nat) (D : List Nat) : Prop := D.Pairwise (fun a b => wrt l t a → wrt l t b → a < b)
theorem sOf_last {t : Nat} : ∀ (n : Nat) (D : List Nat), D.length = n → incW l t D → ((∀ j, j ∈ D → ¬ wrt l t j) ∧ sOf l vs s D t = s t) ∨ (∃ j, j ∈ D ∧ wrt l t j ∧ (∀ j', j' ∈ D → wrt l t j' → j' ≤ j) ∧ sOf l vs s D t = vs j) := by
  intro n
  induction n with
  | zero =>
    intro D hl _
    have : D = [] := List.length_eq_zero_iff.1 hl
    subst this
    exact .inl ⟨fun j h => by simp at h, rfl⟩
  | succ n ih =>
    intro D hl ho
    rcases List.eq_nil_or_concat D with rfl | ⟨D', j, rfl⟩
    · simp at hl
    · rw [List.concat_eq_append] at *
      have hl' : D'.length = n := by simpa using hl
      obtain ⟨ho', _, hlast⟩ := List.pairwise_append.1 ho
      rw [sOf_snoc]
      by_cases hw : wrt l t j
      · rw [stp_self hw]
        refine .inr ⟨j, by simp, hw, fun j' hj' hwj => ?_, rfl⟩
        rcases List.mem_append.1 hj' with hm | hm
        · exact Nat.le_of_lt (hlast j' hm j (by simp) hwj hw)
        · simp at hm; omega
      · rw [stp_other hw]
        rcases ih D' hl' ho' with ⟨a, b⟩ | ⟨i, a, b, c, d⟩
        · refine .inl ⟨fun i hi => ?_, b⟩
          rcases List.mem_append.1 hi with hm | hm
          · exact a i hm
          · simp at hm; subst hm; exact hw
        · refine .inr ⟨i, by simp [a], b, fun j' hj' hwj => ?_, d⟩
          rcases List.mem_append.1 hj' with hm | hm
          · exact c j' hm hwj
          · simp at hm; subst hm; exact absurd hwj hw
theorem sOf_eq {t : Nat} {D1 D2 : List Nat} (hm : ∀ j, wrt l t j → (j ∈ D1 ↔ j ∈ D2)) (h1 : incW l t D1) (h2 : incW l t D2) : sOf l vs s D1 t = sOf l vs s D2 t := by
  rcases sOf_last (vs := vs) (s := s) _ D1 rfl h1 with ⟨a, b⟩ | ⟨i, a, b, c, d⟩ <;> rcases sOf_last (vs := vs) (s := s) _ D2 rfl h2 with ⟨a', b'⟩ | ⟨i', a', b', c', d'⟩
  · rw [b, b']
  · exact absurd b' (a i' ((hm i' b').2 a'))
  · exact absurd b (a' i ((hm i b).1 a))
  · have e1 := c' i ((hm i b).1 a) b
    have e2 := c i' ((hm i' b').2 a') b'
    have : i = i' := by omega
    rw [d, d', this]

theorem clash_wr {a b : LX} {t : Nat} (ha : a.dst = some t) (hb : t ∈ rdX b ∨ b.dst = some t) : clash a b = true := by
  unfold clash
  rw [ha]
  rcases hb with hb | hb
  · simp [hb]
  · simp [hb]
theorem clash_rw {a b : LX} {t : Nat} (hb : b.dst = some t) (ha : t ∈ rdX a) : clash a b = true := by
  unfold clash
  rw [hb]
  simp [ha]

theorem linE_mem {ops : Array Oper} : ∀ (f : Nat) (r rem : List Nat), r.length ≤ f → r.Nodup → (∀ i, i ∈ r ↔ i ∈ rem) → rem.Nodup → (∀ p j q, r = p ++ j :: q → ∀ i, i ∈ rem → anc ops ops.size j i = true → i ∈ p ∨ i = j) → r ∈ linE ops f rem := by
  intro f
  induction f with
  | zero =>
    intro r rem hl hn hm _ _
    have : r = [] := List.length_eq_zero_iff.1 (by omega)
    subst this
    have : rem = [] := List.eq_nil_iff_forall_not_mem.2 (fun i hi => by simpa using (hm i).2 hi)
    subst this
    simp [linE]
  | succ f ih =>
    intro r rem hl hn hm hnr hv
    cases r with
    | nil =>
      have : rem = [] := List.eq_nil_iff_forall_not_mem.2 (fun i hi => by simpa using (hm i).2 hi)
      subst this
      simp [linE]
    | cons j r =>
      have hj : j ∈ rem := (hm j).1 (by simp)
      have hne : rem.isEmpty = false := by cases rem <;> simp at hj ⊢
      obtain ⟨n1, n2⟩ := List.nodup_cons.1 hn
      simp only [linE, hne]
      refine List.mem_flatMap.2 ⟨j, hj, ?_⟩
      have hall : rem.all (fun i => i == j || !anc ops ops.size j i) = true := by
        rw [List.all_eq_true]
        intro i hi
        cases ha : anc ops ops.size j i with
        | false => simp
        | true =>
          rcases hv [] j r rfl i hi ha with h | h
          · simp at h
          · simp [h]
      rw [if_pos hall]
      refine List.mem_map.2 ⟨r, ih r (rem.erase j) (by simp at hl; omega) n2 (fun i => ?_) (hnr.erase _) (fun p i q hp k hk ha => ?_), rfl⟩
      · rw [List.Nodup.mem_erase_iff hnr, ← hm i, List.mem_cons]
        constructor
        · intro hi
          have : i ≠ j := fun e => n1 (e ▸ hi)
          exact ⟨this, .inr hi⟩
        · rintro ⟨a, b | b⟩
          · exact absurd b a
          · exact b
      · have hk' := (List.Nodup.mem_erase_iff hnr).1 hk
        rcases hv (j :: p) i q (by rw [hp]; rfl) k hk'.2 ha with h | h
        · rcases List.mem_cons.1 h with h | h
          · exact absurd h hk'.1
          · exact .inl h
        · exact .inr h

theorem lops_draw {dr : Bool} {ops : Array Oper} {n : Nat} {N : Nat} (hc : cOps dr P N ops ops.toList = some l) (hlen : l.length = ops.size) (hok : drawOk P ops l n = true) (hD : lopsD P (preX ops l n) (sufsX ops l n) K s h) (t : Nat) :
    lops P ((Region.schedule (P.follows .mixedOrders) ops t).filterMap (l[·]?)) K s h := by
  simp only [drawOk, Bool.and_eq_true] at hok
  obtain ⟨⟨⟨⟨hmix, hback⟩, hcl⟩, hlast⟩, hnl⟩ := hok
  have hnl : n ≤ l.length := of_decide_eq_true hnl
  have hback' : ∀ i o, ops[i]? = some o → ∀ e, e ∈ o.after → Region.binds .any e = true → e.on < i := by
    intro i o ho e he hb
    have hi : i < ops.size := (Array.getElem?_eq_some_iff.1 ho).1
    have := List.all_eq_true.1 hback i (List.mem_range.2 hi)
    rw [ho] at this
    simp only [Array.all_eq_true, Bool.or_eq_true, Bool.not_eq_true', decide_eq_true_eq] at this
    obtain ⟨x, hx, rfl⟩ := Array.getElem_of_mem he
    rcases this x hx with h1 | h1
    · rw [hb] at h1; simp at h1
    · exact h1
  obtain ⟨hnd, hltn, hln, hval⟩ := sched_ok (P := P) (by simpa using hmix) hback' t
  generalize Region.schedule (P.follows .mixedOrders) ops t = idx at *
  have hall : ∀ i, i < l.length → i ∈ idx := by
    intro i hi
    rcases Classical.em (i ∈ idx) with h1 | h1
    · exact h1
    · exfalso
      have h2 := sub_len (i :: idx) (List.range ops.size) (List.nodup_cons.2 ⟨h1, hnd⟩) (fun j hj => by
        rcases List.mem_cons.1 hj with rfl | hj
        · exact List.mem_range.2 (by omega)
        · exact List.mem_range.2 (hltn j hj))
      simp at h2; omega
  have hcl' : ∀ i j a b, i < j → l[i]? = some a → l[j]? = some b → clash a b = true → anc ops ops.size j i = true := by
    intro i j a b hij ha hb hab
    have hj := (List.getElem?_eq_some_iff.1 hb).1
    have := List.all_eq_true.1 (List.all_eq_true.1 hcl j (List.mem_range.2 hj)) i (List.mem_range.2 hij)
    rw [ha, hb] at this
    simpa [hab] using this
  have hord : ∀ p j q, idx = p ++ j :: q → ∀ i a b, l[i]? = some a → l[j]? = some b → (i < j → clash a b = true → i ∈ p) ∧ (j < i → clash b a = true → i ∉ p) := by
    intro p j q hp i a b ha hb
    refine ⟨fun hij hab => hval.anc _ _ _ (hcl' i j a b hij ha hb hab) p q hp, fun hji hab hm => ?_⟩
    have hanc := hcl' j i b a hji hb ha hab
    obtain ⟨p1, p2, rfl⟩ := List.append_of_mem hm
    have := hval.anc _ _ _ hanc p1 (p2 ++ j :: q) (by rw [hp]; simp)
    rw [hp] at hnd
    have h3 := List.nodup_append.1 hnd
    exact h3.2.2 j (List.mem_append_left _ this) j (by simp) rfl
  have hancp : ∀ p j q, idx = p ++ j :: q → ∀ i, anc ops ops.size j i = true → i ∈ p := fun p j q hp i ha => hval.anc _ _ _ ha p q hp
  have hlt : ∀ i, i ∈ idx → i < l.length := fun i hi => by rw [hlen]; exact hltn i hi
  have hpw : idx.Pairwise (fun a b => anc ops ops.size a b = false) := by
    rw [List.pairwise_iff_getElem]
    intro i j hi hj hij
    cases ha : anc ops ops.size idx[i] idx[j] with
    | false => rfl
    | true =>
      exfalso
      have hsp : idx = idx.take i ++ idx[i] :: idx.drop (i + 1) := by
        rw [← List.drop_eq_getElem_cons hi, List.take_append_drop]
      have hm := hancp _ _ _ hsp _ ha
      obtain ⟨k, hk, he⟩ := List.getElem_of_mem hm
      rw [List.length_take] at hk
      rw [List.getElem_take] at he
      have := (List.nodup_iff_pairwise_ne.1 hnd)
      rw [List.pairwise_iff_getElem] at this
      exact this k j (by omega) hj (by omega) he
  have hinc : ∀ t, incW l t idx := by
    intro t
    have h2 := hpw.and (List.nodup_iff_pairwise_ne.1 hnd)
    refine h2.imp (fun {a b} hab hwa hwb => ?_)
    obtain ⟨oa, ha, da⟩ := hwa
    obtain ⟨ob, hb, db⟩ := hwb
    rcases Nat.lt_trichotomy a b with h1 | h1 | h1
    · exact h1
    · exact absurd h1 hab.2
    · have := hcl' b a ob oa h1 hb ha (clash_wr db (.inr da))
      rw [hab.1] at this
      simp at this
  -- the tail, as the schedule has it
  generalize hτ : idx.filter (fun i => decide (n ≤ i)) = τ at *
  have hτm : ∀ i, i ∈ τ ↔ i ∈ idx ∧ n ≤ i := fun i => by rw [← hτ, List.mem_filter]; simp
  have hτn : τ.Nodup := hτ ▸ hnd.filter _
  have hτl : τ ∈ linE ops l.length ((List.range l.length).filter (fun i => decide (n ≤ i))) := by
    refine linE_mem _ _ _ ?_ hτn (fun i => ?_) (List.nodup_range.filter _) (fun p j q hp i hi ha => ?_)
    · rw [← hτ, hlen, ← hln]; exact List.length_filter_le _ _
    · rw [hτm, List.mem_filter, List.mem_range]
      exact ⟨fun h => ⟨hlt i h.1, by simpa using h.2⟩, fun h => ⟨hall i h.1, by simpa using h.2⟩⟩
    · rw [← hτ, List.filter_eq_append_iff] at hp
      obtain ⟨a, b, hab, hfa, hfb⟩ := hp
      rw [List.filter_eq_cons_iff] at hfb
      obtain ⟨b1, b2, hbb, hb1, _, _⟩ := hfb
      have hm := hancp (a ++ b1) j b2 (by rw [hab, hbb]; simp) i ha
      have hin : n ≤ i := by have := (List.mem_filter.1 hi).2; simpa using this
      rcases List.mem_append.1 hm with hm | hm
      · left; rw [← hfa, List.mem_filter]; exact ⟨hm, by simpa using hin⟩
      · exact absurd (by simpa using hin) (hb1 i hm)
  have hrn : (List.range n ++ τ).Nodup := by
    rw [List.nodup_append]
    refine ⟨List.nodup_range, hτn, fun a ha b hb e => ?_⟩
    have := List.mem_range.1 ha
    have := ((hτm b).1 hb).2
    omega
  obtain ⟨vs0, _, hq, hA⟩ := vs_of (l := l) (s := s) (h := h) (mk := fun i o => if floats ops l.length n i then toE o else o) (fun i o => by split <;> rfl) (List.range n) [] (fun _ => .any) (by simpa using List.nodup_range) (fun i hi => by have := List.mem_range.1 hi; omega) hD
  rw [List.nil_append] at hA
  have hE := lopsA_mem hA (List.mem_map.2 ⟨τ, hτl, rfl⟩)
  obtain ⟨vs, H, hvs, hH0, hsteps, hend⟩ := rec_of τ (List.range n) vs0 h hrn (fun i hi => hlt i ((hτm i).1 hi).1) hE
  have hquiet : ∀ j, j < n → ∃ o, l[j]? = some o ∧ LStep P (if floats ops l.length n j then toE o else o) (sOf l vs s (List.range j)) h (vs j) h := by
    intro j hj
    obtain ⟨o, h1, h2⟩ := hq j j (by rw [List.getElem?_range hj])
    refine ⟨o, h1, ?_⟩
    rw [List.nil_append, List.take_range, Nat.min_eq_left (Nat.le_of_lt hj)] at h2
    rw [hvs j (List.mem_range.2 hj)]
    rw [sOf_congr (List.range j) s (fun i hi => hvs i (List.mem_range.2 (by have := List.mem_range.1 hi; omega)))]
    exact h2
  have hrange : ∀ k t, incW l t (List.range k) := fun k t => List.pairwise_lt_range.imp (fun h _ _ => h)
  have hcat : ∀ t (p : List Nat), incW l t p → incW l t (List.range n ++ p.filter (fun i => decide (n ≤ i))) := by
    intro t p hp
    refine List.pairwise_append.2 ⟨hrange n t, List.Pairwise.filter _ hp, fun a ha b hb _ _ => ?_⟩
    have h1 := List.mem_range.1 ha
    have h2 := (List.mem_filter.1 hb).2
    simp only [decide_eq_true_eq] at h2
    omega
  -- along the schedule
  have key : ∀ (q p : List Nat), idx = p ++ q → lops P (q.filterMap (l[·]?)) K (sOf l vs s p) (H (p.filter (fun i => decide (n ≤ i))).length) := by
    intro q
    induction q with
    | nil =>
      intro p hp
      rw [List.append_nil] at hp
      simp only [List.filterMap_nil, lops]
      rw [← hp, hτ]
      have e : sOf l vs s idx = sOf l vs s (List.range n ++ τ) := by
        funext t
        refine sOf_eq (fun j hw => ?_) (hinc t) (hτ ▸ hcat t idx (hinc t))
        obtain ⟨o, ho, _⟩ := hw
        have hjl := (List.getElem?_eq_some_iff.1 ho).1
        rw [List.mem_append, List.mem_range, hτm]
        constructor
        · intro hm
          rcases Nat.lt_or_ge j n with h1 | h1
          · exact .inl h1
          · exact .inr ⟨hm, h1⟩
        · intro _; exact hall j hjl
      rw [e]
      exact hend
    | cons j q ih =>
      intro p hp
      have hj : j < l.length := hlt j (by rw [hp]; simp)
      have hsplit := hnd
      rw [hp] at hsplit
      have hsplit := List.nodup_append.1 hsplit
      have hjp : j ∉ p := fun hm => hsplit.2.2 j hm j (by simp) rfl
      have hpinc : ∀ t, incW l t p := fun t => (hinc t).sublist (by rw [hp]; exact List.sublist_append_left _ _)
      rw [List.filterMap_cons_some (List.getElem?_eq_getElem hj)]
      simp only [lops]
      have e1 : updO (sOf l vs s p) l[j].dst (vs j) = sOf l vs s (p ++ [j]) := by
        rw [sOf_snoc]; unfold stp; rw [List.getElem?_eq_getElem hj]
      have hnext := ih (p ++ [j]) (by rw [hp]; simp)
      rw [List.filter_append, List.length_append] at hnext
      rcases Nat.lt_or_ge j n with hjn | hjn
      · have ef : List.filter (fun i => decide (n ≤ i)) [j] = [] := by simp; omega
        rw [ef, List.length_nil, Nat.add_zero] at hnext
        refine ⟨vs j, _, ?_, fun _ => by rw [e1]; exact hnext⟩
        obtain ⟨o, ho, hs0⟩ := hquiet j hjn
        have go : l[j] = o := by
          rw [List.getElem?_eq_getElem hj] at ho
          injection ho
        rw [go]
        have hagree : ∀ t, t ∈ rdX o → sOf l vs s (List.range j) t = sOf l vs s p t := by
          intro t ht
          refine sOf_eq (fun i hw => ?_) (hrange j t) (hpinc t)
          obtain ⟨a, ha, hd⟩ := hw
          rw [List.mem_range]
          constructor
          · intro hij; exact (hord p j q hp i a o ha ho).1 hij (clash_wr hd (.inl ht))
          · intro hm
            rcases Nat.lt_trichotomy i j with h1 | h1 | h1
            · exact h1
            · subst h1; exact absurd hm hjp
            · exact absurd hm ((hord p j q hp i a o ha ho).2 h1 (clash_rw hd ht))
        by_cases hc : p.filter (fun i => decide (n ≤ i)) = []
        · rw [hc, List.length_nil, hH0]
          have hs1 : LStep P o (sOf l vs s (List.range j)) h (vs j) h := by
            split at hs0
            · exact toE_self hs0
            · exact hs0
          exact LStep_congr hagree hs1
        · -- an operation of the tail has run: this one floats
          have hfl : ∀ i, i ∈ p → n ≤ i → anc ops ops.size i j = false := by
            intro i hi hin
            cases ha : anc ops ops.size i j with
            | false => rfl
            | true =>
              exfalso
              obtain ⟨p1, p2, hpp⟩ := List.append_of_mem hi
              have := hancp p1 i (p2 ++ j :: q) (by rw [hp, hpp]; simp) j ha
              exact hjp (by rw [hpp]; exact List.mem_append_left _ this)
          have hcond : ∀ i, i ∈ p → n ≤ i → isFree o = true ∨ ∃ b, l[i]? = some b ∧ isAl b = true ∧ isExt o = true := by
            intro i hi hin
            have hil : i < l.length := hlt i (by rw [hp]; simp [hi])
            have h1 := List.all_eq_true.1 hlast i (List.mem_range.2 hil)
            rw [Bool.or_eq_true] at h1
            rcases h1 with h1 | h1
            · simp at h1; omega
            · have h2 := List.all_eq_true.1 h1 j (List.mem_range.2 hjn)
              rw [hfl i hi hin, Bool.false_or, ho, List.getElem?_eq_getElem hil] at h2
              simp only [Bool.or_eq_true, Bool.and_eq_true] at h2
              rcases h2 with h2 | ⟨h2, h3⟩
              · exact .inl h2
              · exact .inr ⟨_, List.getElem?_eq_getElem hil, h2, h3⟩
          obtain ⟨i0, hi0⟩ := List.exists_mem_of_ne_nil _ hc
          obtain ⟨hi0p, hi0n⟩ := List.mem_filter.1 hi0
          simp only [decide_eq_true_eq] at hi0n
          have hflo : floats ops l.length n j = true := by
            unfold floats
            rw [List.any_eq_true]
            have hil : i0 < l.length := hlt i0 (by rw [hp]; simp [hi0p])
            exact ⟨i0, List.mem_range.2 hil, by rw [hfl i0 hi0p hi0n]; simp [hi0n]⟩
          rw [if_pos hflo] at hs0
          by_cases hfree : isFree o = true
          · exact free_any hfree (LStep_congr hagree (toE_self hs0))
          · have hext : isExt o = true := by
              rcases hcond i0 hi0p hi0n with h1 | ⟨_, _, _, h1⟩
              · exact absurd h1 hfree
              · exact h1
            have hEx : ∀ m, m ≤ (p.filter (fun i => decide (n ≤ i))).length → Ext h (H m) := by
              intro m
              induction m with
              | zero => intro _; rw [hH0]; exact Ext.refl h
              | succ m ihm =>
                intro hm
                have e2 : τ = p.filter (fun i => decide (n ≤ i)) ++ (j :: q).filter (fun i => decide (n ≤ i)) := by rw [← hτ, hp, List.filter_append]
                have e3 : τ[m]? = some (p.filter (fun i => decide (n ≤ i)))[m] := by rw [e2, List.getElem?_append_left (by omega), List.getElem?_eq_getElem (by omega)]
                obtain ⟨ob, g1, g2⟩ := hsteps m _ e3
                have hmem := List.getElem_mem (l := p.filter (fun i => decide (n ≤ i))) (n := m) (by omega)
                obtain ⟨m1, m2⟩ := List.mem_filter.1 hmem
                simp only [decide_eq_true_eq] at m2
                rcases hcond _ m1 m2 with h1 | ⟨b, hb, hal, _⟩
                · exact absurd h1 hfree
                · rw [g1] at hb
                  injection hb with hb
                  subst hb
                  exact (ihm (by omega)).trans (al_ext hal g2)
            have hs2 : LStep P (toE o) (sOf l vs s p) h (vs j) h := LStep_congr (fun t ht => hagree t (by
              have : rdX (toE o) = rdX o := by
                obtain ⟨d, g, op⟩ := o
                cases op with
                | p q => rfl
                | e q => cases q <;> rfl
              rw [this] at ht; exact ht)) hs0
            exact ext_step hext (hEx _ (Nat.le_refl _)) hs2
      · have ef : List.filter (fun i => decide (n ≤ i)) [j] = [j] := by simp; omega
        rw [ef, List.length_singleton] at hnext
        have e2 : τ = p.filter (fun i => decide (n ≤ i)) ++ j :: q.filter (fun i => decide (n ≤ i)) := by
          rw [← hτ, hp, List.filter_append, List.filter_cons_of_pos (by simpa using hjn)]
        obtain ⟨o, ho, hs0⟩ := hsteps (p.filter (fun i => decide (n ≤ i))).length j (by rw [e2]; simp)
        have go : l[j] = o := by
          rw [List.getElem?_eq_getElem hj] at ho
          injection ho
        rw [go] at e1 ⊢
        have etake : τ.take (p.filter (fun i => decide (n ≤ i))).length = p.filter (fun i => decide (n ≤ i)) := by rw [e2]; simp
        rw [etake] at hs0
        have hagree : ∀ t, t ∈ rdX o → sOf l vs s (List.range n ++ p.filter (fun i => decide (n ≤ i))) t = sOf l vs s p t := by
          intro t ht
          refine sOf_eq (fun i hw => ?_) (hcat t p (hpinc t)) (hpinc t)
          obtain ⟨a, ha, hd⟩ := hw
          rw [List.mem_append, List.mem_range, List.mem_filter]
          constructor
          · rintro (hin | ⟨hm, _⟩)
            · exact (hord p j q hp i a o ha ho).1 (by omega) (clash_wr hd (.inl ht))
            · exact hm
          · intro hm
            rcases Nat.lt_or_ge i n with h1 | h1
            · exact .inl h1
            · exact .inr ⟨hm, by simpa using h1⟩
        exact ⟨vs j, _, LStep_congr hagree hs0, fun _ => by rw [e1]; exact hnext⟩
  have := key idx [] rfl
  rw [List.filter_nil, List.length_nil, hH0] at this
  exact this

end
end Go.Proofs.Ytfhifkcbdpgomaa
