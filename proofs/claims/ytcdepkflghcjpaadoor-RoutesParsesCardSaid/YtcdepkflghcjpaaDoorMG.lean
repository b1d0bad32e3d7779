/- Lengths that become smaller until they are the least ones: plain law; The program's search for lengths of paths; Distances; the first cable of a shortest path; Path; Path; Lengths, one after the other: plain law; Chapter 19: tables; Chapter 19: the table of an order, in plain terms; Chapter 19: the cable that is chosen, step by step; Chapter 19: the table of an order, step by step; Chapter 19: which tables are valid; what the statements ask of sizes; Chapter 19: what the entries of the table of an order say; Chapter 19: chosen paths are legal; Chapter 19: how long the paths of an order are. Conditions: none. -/
import Derived.Test.YtcdepkflghcjpaaDoorMF
namespace Go.Proofs.YtcdepkflghcjpaaDoor
set_option linter.unusedSimpArgs false
set_option linter.unusedVariables false
open Go.RowKit
set_option maxRecDepth 20000

def skp (l : List Int) (up : List Bool) (c : Cb) (i : Nat) : Bool := (!up.getD i false || decide (lvl l c.a < 0)) || decide (lvl l c.b < 0)
def EdgJ (l : List Int) (cs : List Cb) (up : List Bool) (i : Nat) (s t : St) : Prop :=
  skp l up (cs.getD i default) i = false ∧ ((s.1 = (cs.getD i default).a ∧ t.1 = (cs.getD i default).b) ∨ (s.1 = (cs.getD i default).b ∧ t.1 = (cs.getD i default).a)) ∧
    t.2 = (!aboveB l t.1 s.1) ∧ (!aboveB l t.1 s.1 || !s.2) = true
def Edg (l : List Int) (cs : List Cb) (up : List Bool) (s t : St) : Prop := ∃ i, i < cs.length ∧ EdgJ l cs up i s t
structure SInv (n : Nat) (l : List Int) (cs : List Cb) (up : List Bool) (to : Int) (m : Mp) : Prop where
  key : ∀ q, q ∈ m → inN n q.1.1
  nd : (m.map (·.1)).Nodup
  tgt : ∀ b, lk (to, b) m = some 0
  val : ∀ s d, lk s m = some d → 0 ≤ d ∧ d < m.length ∧ ((s.1 = to ∧ d = 0) ∨ ∃ t d', Edg l cs up s t ∧ lk t m = some d' ∧ d' + 1 ≤ d)
theorem lk_none {s : St} : ∀ {m : Mp}, lk s m = none → s ∉ m.map (·.1)
  | [], _ => by simp
  | (t, u) :: r, h => by
    simp only [lk] at h
    split at h
    · simp at h
    · rename_i e
      simp only [List.map_cons, List.mem_cons, not_or]
      exact ⟨fun h2 => e h2.symm, lk_none h⟩
theorem pt_new {s : St} {d : Int} : ∀ {m : Mp}, lk s m = none → pt s d m = m ++ [(s, d)]
  | [], _ => rfl
  | (t, u) :: r, h => by
    simp only [lk] at h
    split at h
    · simp at h
    · rename_i e
      simp only [pt]
      rw [if_neg e, pt_new h]; rfl
theorem pt_keys {s : St} {d o : Int} : ∀ {m : Mp}, lk s m = some o → (pt s d m).map (·.1) = m.map (·.1) ∧ (pt s d m).length = m.length
  | [], h => by simp [lk] at h
  | (t, u) :: r, h => by
    simp only [lk] at h
    simp only [pt]
    split at h
    · rename_i e
      rw [if_pos e]; exact ⟨rfl, rfl⟩
    · rename_i e
      rw [if_neg e]
      obtain ⟨h1, h2⟩ := pt_keys (d := d) h
      exact ⟨by simp [h1], by simp [h2]⟩
theorem lk_or (s : St) (m : Mp) : lk s m = none ∨ ∃ d, lk s m = some d := by cases lk s m with
  | none => exact .inl rfl
  | some d => exact .inr ⟨d, rfl⟩
theorem SInv.put {n : Nat} {l : List Int} {cs : List Cb} {up : List Bool} {to : Int} {m : Mp} (h : SInv n l cs up to m) {s t : St} {d : Int} (hs : inN n s.1) (he : Edg l cs up s t) (hd : lk t m = some d) (ho : ∀ o, lk s m = some o → d + 1 < o) : SInv n l cs up to (pt s (d + 1) m) := by
  have hlen : m.length ≤ (pt s (d + 1) m).length ∧ d + 1 < ((pt s (d + 1) m).length : Int) := by
    have hv := (h.val t d hd).2.1
    rcases lk_or s m with hn | ⟨o, hn⟩
    · rw [pt_new hn]; simp; omega
    · rw [(pt_keys hn).2]
      have := ho o hn
      have := (h.val s o hn).2.1
      omega
  have hne : ∀ b, (to, b) ≠ s := by
    intro b e
    have := ho 0 (e ▸ h.tgt b)
    have := (h.val t d hd).1
    omega
  have hts : t ≠ s := by
    intro e
    have := ho d (e ▸ hd)
    omega
  refine ⟨fun q hq => ?_, ?_, fun b => ?_, fun u e hu => ?_⟩
  · rcases lk_or s m with hn | ⟨o, hn⟩
    · rw [pt_new hn] at hq
      rcases List.mem_append.1 hq with hq | hq
      · exact h.key q hq
      · simp at hq; subst hq; exact hs
    · have : q.1 ∈ (pt s (d + 1) m).map (·.1) := List.mem_map.2 ⟨q, hq, rfl⟩
      rw [(pt_keys hn).1] at this
      obtain ⟨q', h1, h2⟩ := List.mem_map.1 this
      have := h.key q' h1
      rw [h2] at this; exact this
  · rcases lk_or s m with hn | ⟨o, hn⟩
    · rw [pt_new hn, List.map_append]
      exact nodup_take.2 ⟨h.nd, lk_none hn⟩
    · rw [(pt_keys hn).1]; exact h.nd
  · rw [lk_pt, if_neg (hne b)]; exact h.tgt b
  · rw [lk_pt] at hu
    have hd0 := (h.val t d hd).1
    split at hu
    · rename_i e2
      subst e2
      simp at hu
      subst hu
      exact ⟨by omega, hlen.2, .inr ⟨t, d, he, by rw [lk_pt, if_neg hts]; exact hd, Int.le_refl _⟩⟩
    · obtain ⟨g1, g2, g3⟩ := h.val u e hu
      refine ⟨g1, by omega, ?_⟩
      rcases g3 with g3 | ⟨v, e', g3, g4, g5⟩
      · exact .inl g3
      · right
        by_cases hvs : v = s
        · subst hvs
          have := ho e' g4
          exact ⟨v, d + 1, g3, by rw [lk_pt, if_pos rfl], by omega⟩
        · exact ⟨v, e', g3, by rw [lk_pt, if_neg hvs]; exact g4, g5⟩
def muS (n : Nat) (m : Mp) : Nat := ((List.range n).map fun (i : Nat) => (((lk ((i : Int), false) m).getD 1000).toNat + ((lk ((i : Int), true) m).getD 1000).toNat)).sum
theorem sum_le {f g : Nat → Nat} : ∀ (n : Nat), (∀ i, i < n → f i ≤ g i) → ((List.range n).map f).sum ≤ ((List.range n).map g).sum
  | 0, _ => by simp
  | n + 1, h => by
    rw [List.range_succ, List.map_append, List.map_append, List.sum_append, List.sum_append]
    have := sum_le n (fun i hi => h i (by omega))
    have := h n (by omega)
    simp; omega
theorem sum_lt {f g : Nat → Nat} {k : Nat} : ∀ (n : Nat), k < n → (∀ i, i < n → f i ≤ g i) → f k < g k → ((List.range n).map f).sum < ((List.range n).map g).sum
  | 0, hk, _, _ => by omega
  | n + 1, hk, h, hlt => by
    rw [List.range_succ, List.map_append, List.map_append, List.sum_append, List.sum_append]
    have h1 := h n (by omega)
    simp only [List.map_cons, List.map_nil, List.sum_cons, List.sum_nil]
    by_cases e : k = n
    · subst e
      have := sum_le (f := f) (g := g) k (fun i hi => h i (by omega))
      omega
    · have := sum_lt n (by omega) (fun i hi => h i (by omega)) hlt
      omega
theorem mu_put {n : Nat} {m : Mp} {s : St} {d : Int} (hs : inN n s.1) (hd : 0 ≤ d ∧ d < 1000) (ho : ∀ o, lk s m = some o → d < o) : muS n (pt s d m) < muS n m := by
  unfold muS
  have key : ∀ t : St, ((lk t (pt s d m)).getD 1000).toNat ≤ ((lk t m).getD 1000).toNat ∧ (t = s → ((lk t (pt s d m)).getD 1000).toNat < ((lk t m).getD 1000).toNat) := by
    intro t
    rw [lk_pt]
    by_cases e : t = s
    · subst e
      rw [if_pos rfl]
      rcases lk_or t m with h | ⟨o, h⟩
      · rw [h]; simp; omega
      · rw [h]; have := ho o h; simp; omega
    · rw [if_neg e]; exact ⟨Nat.le_refl _, fun h => absurd h e⟩
  unfold inN at hs
  refine sum_lt (k := s.1.toNat) n (by omega) (fun i _ => ?_) ?_
  · have := (key ((i : Int), false)).1
    have := (key ((i : Int), true)).1
    omega
  · have e : ((s.1.toNat : Nat) : Int) = s.1 := by omega
    rw [e]
    have h1 := key (s.1, false)
    have h2 := key (s.1, true)
    rcases hb : s.2 with _ | _
    · have := h1.2 (Prod.ext rfl hb.symm)
      omega
    · have := h2.2 (Prod.ext rfl hb.symm)
      omega
def cod (s : St) : Nat := 2 * s.1.toNat + (bif s.2 then 1 else 0)
theorem cod_inj {n : Nat} {s t : St} (hs : inN n s.1) (ht : inN n t.1) (h : cod s = cod t) : s = t := by
  obtain ⟨x, b⟩ := s
  obtain ⟨y, c⟩ := t
  unfold cod inN at *
  simp only at *
  cases b <;> cases c <;> simp only [cond_true, cond_false] at h
  · have : x = y := by omega
    rw [this]
  · omega
  · omega
  · have : x = y := by omega
    rw [this]
theorem nodup_map {α : Type} {f : α → Nat} : ∀ {l : List α}, l.Nodup → (∀ x y, x ∈ l → y ∈ l → f x = f y → x = y) → (l.map f).Nodup
  | [], _, _ => by simp
  | x :: r, hn, hi => by
    obtain ⟨h1, h2⟩ := List.nodup_cons.1 hn
    rw [List.map_cons, List.nodup_cons]
    refine ⟨fun hm => ?_, nodup_map h2 (fun a b ha hb => hi a b (by simp [ha]) (by simp [hb]))⟩
    obtain ⟨y, hy, he⟩ := List.mem_map.1 hm
    have := hi x y (by simp) (by simp [hy]) he.symm
    subst this
    exact h1 hy
theorem SInv.len {n : Nat} {l : List Int} {cs : List Cb} {up : List Bool} {to : Int} {m : Mp} (h : SInv n l cs up to m) : m.length ≤ 2 * n := by
  have hk : ∀ s, s ∈ m.map (·.1) → inN n s.1 := by
    intro s hs
    obtain ⟨q, hq, rfl⟩ := List.mem_map.1 hs
    exact h.key q hq
  have h1 : ((m.map (·.1)).map cod).Nodup := nodup_map h.nd (fun x y hx hy e => cod_inj (hk x hx) (hk y hy) e)
  have h2 := sub_len _ (List.range (2 * n)) h1 (fun c hc => by
    obtain ⟨s, hs, rfl⟩ := List.mem_map.1 hc
    have := hk s hs
    unfold inN at this
    rw [List.mem_range]
    unfold cod
    cases s.2 <;> simp only [cond_true, cond_false] <;> omega)
  simpa using h2
def Cls (m : Mp) (s t : St) : Prop := ∀ d, lk t m = some d → ∃ o, lk s m = some o ∧ o ≤ d + 1
theorem imp_ok {n : Nat} {l : List Int} {cs : List Cb} {up : List Bool} {to : Int} {m : Mp} (hn : n ≤ 100) (h : SInv n l cs up to m) {s : St} {y : Int} (hs : inN n s.1)
    (he : (!aboveB l y s.1 || !s.2) = true → Edg l cs up s (y, !aboveB l y s.1)) :
    SInv n l cs up to (imp l m s y).1 ∧ ((imp l m s y).2 = false → (imp l m s y).1 = m ∧ ((!aboveB l y s.1 || !s.2) = true → Cls m s (y, !aboveB l y s.1))) ∧ ((imp l m s y).2 = true → muS n (imp l m s y).1 < muS n m) := by
  have hlen := h.len
  unfold imp
  rcases lk_or (y, !aboveB l y s.1) m with hq | ⟨d, hq⟩
  · rw [hq]
    exact ⟨h, fun _ => ⟨rfl, fun _ d hd => by rw [hq] at hd; simp at hd⟩, fun h => by simp at h⟩
  · rw [hq]
    simp only
    have hd := h.val _ d hq
    cases hok : (!aboveB l y s.1 || !s.2)
    · exact ⟨h, fun _ => ⟨rfl, fun h => by simp at h⟩, fun h => by simp at h⟩
    · simp only [cond_true]
      have hE := he hok
      rcases lk_or s m with hr | ⟨o, hr⟩
      · rw [hr]
        refine ⟨h.put hs hE hq (fun o ho => by rw [hr] at ho; simp at ho), fun h => by simp at h, fun _ => mu_put hs ⟨by omega, by omega⟩ (fun o ho => by rw [hr] at ho; simp at ho)⟩
      · rw [hr]
        simp only
        by_cases hle : o ≤ d + 1
        · rw [if_pos hle]
          refine ⟨h, fun _ => ⟨rfl, fun _ e hd' => ?_⟩, fun h => by simp at h⟩
          rw [hq] at hd'
          simp at hd'
          subst hd'
          exact ⟨o, hr, hle⟩
        · rw [if_neg hle]
          have hlt : ∀ o', lk s m = some o' → d + 1 < o' := fun o' ho' => by rw [hr] at ho'; simp at ho'; omega
          exact ⟨h.put hs hE hq hlt, fun h => by simp at h, fun _ => mu_put hs ⟨by omega, by omega⟩ hlt⟩
def imp2 (l : List Int) (q : Mp × Bool) (s : St) (y : Int) : Mp × Bool := ((imp l q.1 s y).1, (imp l q.1 s y).2 || q.2)
def cab4 (l : List Int) (q : Mp × Bool) (c : Cb) (f : Bool) : Mp × Bool := imp2 l (imp2 l q (c.a, f) c.b) (c.b, f) c.a
def pasP (l : List Int) (cs : List Cb) (up : List Bool) (q : Mp × Bool) : Nat → Mp × Bool
  | 0 => q
  | i + 1 => bif skp l up (cs.getD i default) i then pasP l cs up q i else cab4 l (cab4 l (pasP l cs up q i) (cs.getD i default) false) (cs.getD i default) true
structure PInv (n : Nat) (l : List Int) (cs : List Cb) (up : List Bool) (to : Int) (m0 : Mp) (D : St → St → Prop) (q : Mp × Bool) : Prop where
  inv : SInv n l cs up to q.1
  same : q.2 = false → q.1 = m0 ∧ ∀ s t, D s t → Cls m0 s t
  less : q.2 = true → muS n q.1 < muS n m0
theorem imp2_ok {n : Nat} {l : List Int} {cs : List Cb} {up : List Bool} {to : Int} {m0 : Mp} {D : St → St → Prop} {q : Mp × Bool} (hn : n ≤ 100) (h : PInv n l cs up to m0 D q) {s : St} {y : Int} (hs : inN n s.1)
    (he : (!aboveB l y s.1 || !s.2) = true → Edg l cs up s (y, !aboveB l y s.1)) :
    PInv n l cs up to m0 (fun a b => D a b ∨ (a = s ∧ b = (y, !aboveB l y s.1) ∧ (!aboveB l y s.1 || !s.2) = true)) (imp2 l q s y) := by
  obtain ⟨h1, h2, h3⟩ := imp_ok hn h.inv hs he
  refine ⟨h1, fun hf => ?_, fun ht => ?_⟩
  · have hf' : (imp l q.1 s y).2 = false ∧ q.2 = false := by simpa [imp2] using hf
    obtain ⟨a1, a2⟩ := h2 hf'.1
    obtain ⟨b1, b2⟩ := h.same hf'.2
    refine ⟨by show (imp l q.1 s y).1 = m0; rw [a1, b1], fun a b hab => ?_⟩
    rcases hab with hab | ⟨rfl, rfl, hab⟩
    · exact b2 a b hab
    · have := a2 hab
      rw [b1] at this; exact this
  · show muS n (imp l q.1 s y).1 < muS n m0
    by_cases hc : (imp l q.1 s y).2 = true
    · have := h3 hc
      by_cases hq : q.2 = true
      · have := h.less hq; omega
      · have e : muS n q.1 = muS n m0 := by rw [(h.same (by simpa using hq)).1]
        omega
    · have hq : q.2 = true := by
        have : ((imp l q.1 s y).2 || q.2) = true := ht
        simpa [hc] using this
      rw [(h2 (by simpa using hc)).1]
      exact h.less hq
theorem PInv.mono {n : Nat} {l : List Int} {cs : List Cb} {up : List Bool} {to : Int} {m0 : Mp} {D D' : St → St → Prop} {q : Mp × Bool} (h : PInv n l cs up to m0 D q) (hD : ∀ a b, D' a b → D a b) : PInv n l cs up to m0 D' q :=
  ⟨h.inv, fun hf => ⟨(h.same hf).1, fun a b hab => (h.same hf).2 a b (hD a b hab)⟩, h.less⟩
theorem pasP_ok {n : Nat} {l : List Int} {cs : List Cb} {up : List Bool} {to : Int} {m0 : Mp} (hn : n ≤ 100) (hC : ∀ c, c ∈ cs → inN n c.a ∧ inN n c.b) (h : SInv n l cs up to m0) : ∀ i, i ≤ cs.length → PInv n l cs up to m0 (fun a b => ∃ j, j < i ∧ EdgJ l cs up j a b) (pasP l cs up (m0, false) i)
  | 0, _ => ⟨h, fun _ => ⟨rfl, fun a b ⟨j, hj, _⟩ => by omega⟩, fun h => by simp [pasP] at h⟩
  | i + 1, hi => by
    have ih := pasP_ok hn hC h i (by omega)
    obtain ⟨ha, hb⟩ := hC _ (getD_mem default (show i < cs.length by omega))
    simp only [pasP]
    generalize hc : cs.getD i default = c at *
    cases hs : skp l up c i
    · simp only [cond_false]
      have hE : ∀ (x y : Int) (f : Bool), (x = c.a ∧ y = c.b) ∨ (x = c.b ∧ y = c.a) → (!aboveB l y (x, f).1 || !(x, f).2) = true → Edg l cs up (x, f) (y, !aboveB l y (x, f).1) :=
        fun x y f hxy ho => ⟨i, by omega, by rw [hc]; exact hs, by rw [hc]; exact hxy, rfl, ho⟩
      have i1 := imp2_ok hn ih (s := (c.a, false)) (y := c.b) ha (hE _ _ _ (.inl ⟨rfl, rfl⟩))
      have i2 := imp2_ok hn i1 (s := (c.b, false)) (y := c.a) hb (hE _ _ _ (.inr ⟨rfl, rfl⟩))
      have i3 := imp2_ok hn i2 (s := (c.a, true)) (y := c.b) ha (hE _ _ _ (.inl ⟨rfl, rfl⟩))
      have i4 := imp2_ok hn i3 (s := (c.b, true)) (y := c.a) hb (hE _ _ _ (.inr ⟨rfl, rfl⟩))
      refine i4.mono fun a b ⟨j, hj, he⟩ => ?_
      by_cases hji : j = i
      · subst hji
        obtain ⟨e1, e2, e3, e4⟩ := he
        rw [hc] at e2
        obtain ⟨x, f⟩ := a
        obtain ⟨y, g⟩ := b
        simp only at e2 e3 e4
        subst e3
        rcases e2 with ⟨rfl, rfl⟩ | ⟨rfl, rfl⟩ <;> cases f
        · exact .inl (.inl (.inl (.inr ⟨rfl, rfl, e4⟩)))
        · exact .inl (.inr ⟨rfl, rfl, e4⟩)
        · exact .inl (.inl (.inr ⟨rfl, rfl, e4⟩))
        · exact .inr ⟨rfl, rfl, e4⟩
      · exact .inl (.inl (.inl (.inl ⟨j, by omega, he⟩)))
    · simp only [cond_true]
      refine ih.mono fun a b ⟨j, hj, he⟩ => ?_
      by_cases hji : j = i
      · subst hji
        have := he.1
        rw [hc, hs] at this
        simp at this
      · exact ⟨j, by omega, he⟩
def pas (l : List Int) (cs : List Cb) (up : List Bool) (m : Mp) : Mp × Bool := pasP l cs up (m, false) cs.length
theorem pas_ok {n : Nat} {l : List Int} {cs : List Cb} {up : List Bool} {to : Int} {m : Mp} (hn : n ≤ 100) (hC : ∀ c, c ∈ cs → inN n c.a ∧ inN n c.b) (h : SInv n l cs up to m) :
    SInv n l cs up to (pas l cs up m).1 ∧ ((pas l cs up m).2 = false → (pas l cs up m).1 = m ∧ ∀ s t, Edg l cs up s t → Cls m s t) ∧ ((pas l cs up m).2 = true → muS n (pas l cs up m).1 < muS n m) := by
  have := pasP_ok hn hC h cs.length (Nat.le_refl _)
  exact ⟨this.inv, fun hf => this.same hf, this.less⟩
def iterP (l : List Int) (cs : List Cb) (up : List Bool) : Nat → Mp → Mp
  | 0, m => m
  | k + 1, m => bif (pas l cs up m).2 then iterP l cs up k (pas l cs up m).1 else m
theorem iterP_ok {n : Nat} {l : List Int} {cs : List Cb} {up : List Bool} {to : Int} (hn : n ≤ 100) (hC : ∀ c, c ∈ cs → inN n c.a ∧ inN n c.b) : ∀ (k : Nat) (m : Mp), SInv n l cs up to m → muS n m < k → SInv n l cs up to (iterP l cs up k m) ∧ ∀ s t, Edg l cs up s t → Cls (iterP l cs up k m) s t
  | 0, m, _, hk => by omega
  | k + 1, m, h, hk => by
    obtain ⟨h1, h2, h3⟩ := pas_ok hn hC h
    simp only [iterP]
    cases hp : (pas l cs up m).2
    · exact ⟨h, (h2 hp).2⟩
    · exact iterP_ok hn hC k _ h1 (by have := h3 hp; omega)
def mp0 (to : Int) : Mp := pt (to, true) 0 (pt (to, false) 0 [])
theorem mp0_eq (to : Int) : mp0 to = [((to, false), 0), ((to, true), 0)] := by
  show (if ((to, false) : St) = (to, true) then [((to, false), (0 : Int))] else [((to, false), 0), ((to, true), 0)]) = _
  rw [if_neg (by simp)]
def srcM (n : Nat) (l : List Int) (cs : List Cb) (up : List Bool) (to : Int) : Mp := if lvl l to < 0 then [] else iterP l cs up (2000 * n + 1) (mp0 to)
theorem mp0_inv {n : Nat} {l : List Int} {cs : List Cb} {up : List Bool} {to : Int} (ht : inN n to) : SInv n l cs up to (mp0 to) := by
  rw [mp0_eq]
  refine ⟨fun q hq => ?_, by simp, fun b => by cases b <;> simp [lk], fun s d hd => ?_⟩
  · simp at hq; rcases hq with rfl | rfl <;> exact ht
  · have : s.1 = to ∧ d = 0 := by
      simp only [lk] at hd
      split at hd
      · rename_i e; simp at hd; exact ⟨by rw [← e], hd.symm⟩
      · split at hd
        · rename_i e; simp at hd; exact ⟨by rw [← e], hd.symm⟩
        · simp at hd
    exact ⟨by omega, by simp; omega, .inl this⟩
theorem mu_le {n : Nat} {m : Mp} (h : ∀ s d, lk s m = some d → d ≤ 1000) : muS n m ≤ 2000 * n := by
  unfold muS
  have key : ∀ s, ((lk s m).getD 1000).toNat ≤ 1000 := by
    intro s
    rcases lk_or s m with h1 | ⟨d, h1⟩
    · rw [h1]; simp
    · rw [h1]; have := h s d h1; simp; omega
  have := sum_le (f := fun (i : Nat) => ((lk ((i : Int), false) m).getD 1000).toNat + ((lk ((i : Int), true) m).getD 1000).toNat) (g := fun _ => 2000) n (fun i _ => by have := key ((i : Int), false); have := key ((i : Int), true); omega)
  simp only [List.map_const', List.length_range, List.sum_replicate_nat] at this
  omega
def dS (n : Nat) (l : List Int) (cs : List Cb) (up : List Bool) (to : Int) (s : St) : Int := (lk s (srcM n l cs up to)).getD (-1)
structure DFacts (n : Nat) (l : List Int) (cs : List Cb) (up : List Bool) (to : Int) (D : St → Int) : Prop where
  low : ∀ s, D s = -1 ∨ (0 ≤ D s ∧ D s < 2 * n)
  zero : ∀ s, D s = 0 ↔ s.1 = to ∧ 0 ≤ lvl l to
  next : ∀ s, 0 < D s → ∃ t, Edg l cs up s t ∧ D t = D s - 1
  edge : ∀ s t, Edg l cs up s t → 0 ≤ D t → 0 ≤ D s ∧ D s ≤ D t + 1
theorem d_facts {n : Nat} {l : List Int} {cs : List Cb} {up : List Bool} {to : Int} (hn : n ≤ 100) (hC : ∀ c, c ∈ cs → inN n c.a ∧ inN n c.b) (ht : inN n to) : DFacts n l cs up to (dS n l cs up to) := by
  unfold dS srcM
  by_cases h0 : lvl l to < 0
  · simp only [h0, if_true, lk, Option.getD_none]
    exact ⟨fun _ => .inl rfl, fun s => by constructor <;> intro h <;> omega, fun s h => by omega, fun s t _ h => by omega⟩
  · simp only [h0, if_false]
    obtain ⟨hi, hc⟩ := iterP_ok hn hC (2000 * n + 1) _ (mp0_inv (l := l) (cs := cs) (up := up) ht) (by
      have := mu_le (n := n) (m := mp0 to) (fun s d hd => by have := (mp0_inv (l := l) (cs := cs) (up := up) ht).val s d hd; rw [mp0_eq] at this; simp at this; omega)
      omega)
    generalize iterP l cs up (2000 * n + 1) (mp0 to) = m at *
    have hlen := hi.len
    refine ⟨fun s => ?_, fun s => ?_, fun s h => ?_, fun s t he h => ?_⟩
    · rcases lk_or s m with h1 | ⟨d, h1⟩
      · rw [h1]; exact .inl rfl
      · rw [h1]
        have := hi.val s d h1
        right; simp; omega
    · rcases lk_or s m with h1 | ⟨d, h1⟩
      · rw [h1]
        constructor
        · intro h; simp at h
        · rintro ⟨h2, _⟩
          have := hi.tgt s.2
          rw [← h2] at this
          rw [this] at h1; simp at h1
      · rw [h1]
        constructor
        · intro h
          simp at h
          subst h
          rcases (hi.val s 0 h1).2.2 with h3 | ⟨t, d', _, h4, h5⟩
          · exact ⟨h3.1, by omega⟩
          · have := (hi.val t d' h4).1; omega
        · rintro ⟨h2, _⟩
          have := hi.tgt s.2
          rw [← h2] at this
          rw [this] at h1; simp at h1; simp; omega
    · rcases lk_or s m with h1 | ⟨d, h1⟩
      · rw [h1] at h; simp at h
      · rw [h1] at h ⊢
        simp at h
        rcases (hi.val s d h1).2.2 with h3 | ⟨t, d', h3, h4, h5⟩
        · omega
        · obtain ⟨o, h6, h7⟩ := hc s t h3 d' h4
          rw [h1] at h6
          simp at h6
          exact ⟨t, h3, by rw [h4]; simp; omega⟩
    · rcases lk_or t m with h1 | ⟨d, h1⟩
      · rw [h1] at h; simp at h
      · obtain ⟨o, h6, h7⟩ := hc s t he d h1
        rw [h1, h6]
        have := (hi.val s o h6).1
        simp; omega
end Go.Proofs.YtcdepkflghcjpaaDoor
namespace Go.Proofs.YtcdepkflghcjpaaDoor
set_option linter.unusedSimpArgs false
set_option linter.unusedVariables false
open Go.RowKit
set_option maxRecDepth 20000

theorem SInv.ok {n : Nat} {l : List Int} {cs : List Cb} {up : List Bool} {to : Int} {m : Mp} (hn : n ≤ 100) (h : SInv n l cs up to m) : mOk m ∧ ∀ t d, lk t m = some d → In64 (d + 1) := by
  refine ⟨fun q hq => ?_, fun t d hd => ?_⟩
  · have := h.key q hq
    unfold inN at this
    unfold In64; omega
  · have := h.val t d hd
    have := h.len
    unfold In64; omega
def qk (l : List Int) (q : Mp × Bool) (c : Cb) : Nat → Mp × Bool
  | 0 => q
  | k + 1 => cab4 l (qk l q c k) c (decide (k = 1))
theorem ev_pas (p : Pl) (hv : validE p = 0) (l : List Int) (hl : l.length = p.ns.length) (up : List Bool) (hup : up.length = p.cs.length) (to : Int) (m : Mp) (h : SInv p.ns.length l p.cs up to m) :
    LCall Tryd.prog 82 [.ptr 0 0 0 0 0, .ptr 2 0 0 0 0, .ptr 1 0 0 0 0, .ptr 5 0 0 0 0] (mkH (sH p l up m)) (.sc (.bool (pas l p.cs up m).2)) (mkH (sH p l up (pas l p.cs up m).1)) := by
  have hV := valid_of hv
  have hn : p.ns.length ≤ 100 := by have := hV.n16; omega
  have hcall : ∀ (q : Mp × Bool) (D : St → St → Prop) (x y : Int) (f : Bool) (ob : List LV), allC 7 ob → PInv p.ns.length l p.cs up to m D q → inN p.ns.length x → inN p.ns.length y →
      LCall Tryd.prog 81 [.agg [.sc (.int .i64 x), .sc (.bool f)], .sc (.int .i64 y), .ptr 1 0 0 0 0, .ptr 4 0 0 0 0]
        (mkH (sH p l up q.1 ++ [(0, .box ob)])) (.sc (.bool (imp l q.1 (x, f) y).2)) (mkH (sH p l up (imp l q.1 (x, f) y).1 ++ [(0, .box ob)])) := by
    intro q D x y f ob hob hq hx hy
    obtain ⟨h1, h2⟩ := hq.inv.ok hn
    unfold inN at hx hy
    exact ev_imp p l q.1 h1 up (x, f) (by unfold In64; simp only; omega) y (by unfold In64; omega) h2 ob hob
  refine lcall_of_lwp Tryd.func82 comp82 (show 4 ≤ Tryd.f82.ntmps by decide) (by simp [sH, mkH]) ?_
  unfold cf82 rf82 sH
  simp only [↓EVP0, EVQ0, EVQ1, EVQ2, EVQ3, EVQ4, EVA, EVK, EVF, ↓reduceIte, Nat.reduceEqDiff, Nat.reduceAdd, Nat.reduceSub, Nat.reduceMul, Nat.reduceLT, Nat.reduceLeDiff, reduceCtorEq, Int.reduceToNat, Int.reduceLT, Int.reduceLE, Int.reduceAdd, Int.reduceSub, Int.reduceMul, Int.reduceNeg, Int.reduceEq, Nat.reduceMod, forall_eq_or_imp, forall_eq, forall_const, cond_true, cond_false, decide_true, decide_false, true_imp_iff, implies_true, Int.cast_ofNat_Int, forall_eq']
  intro _
  refine lwp_for (α := Unit) p.cs.length (fun i _ => True) (fun i _ => [(1, .ptr 2 0 0 0 0), (2, .ptr 1 0 0 0 0), (3, .ptr 5 0 0 0 0), (5, .sc (.bool (pasP l p.cs up (m, false) i).2)), (11, .rsl 6 p.cs.length (cbsF p.cs)), (12, .sc (.int .i64 p.cs.length)), (13, .sc (.int .i64 i))])
    (fun i _ => sH p l up (pasP l p.cs up (m, false) i).1) () trivial ?_ (fun _ _ => by simp [sH, mkH]) ?_
  · unfold sH
    simp only [↓EVP0, EVQ0, EVQ1, EVQ2, EVQ3, EVQ4, EVA, EVK, EVF, ↓reduceIte, Nat.reduceEqDiff, Nat.reduceAdd, Nat.reduceSub, Nat.reduceMul, Nat.reduceLT, Nat.reduceLeDiff, reduceCtorEq, Int.reduceToNat, Int.reduceLT, Int.reduceLE, Int.reduceAdd, Int.reduceSub, Int.reduceMul, Int.reduceNeg, Int.reduceEq, Nat.reduceMod, forall_eq_or_imp, forall_eq, forall_const, cond_true, cond_false, decide_true, decide_false, true_imp_iff, implies_true, Int.cast_ofNat_Int, forall_eq']
    simp only [pasP]
    exact ⟨trivial, trivial, allC_kvM _ _⟩
  intro i _ hi _
  have hP := pasP_ok hn hV.cab h i hi
  have hstep : pasP l p.cs up (m, false) (i + 1) = bif skp l up (p.cs.getD i default) i then pasP l p.cs up (m, false) i else cab4 l (cab4 l (pasP l p.cs up (m, false) i) (p.cs.getD i default) false) (p.cs.getD i default) true := rfl
  have hlast : i = p.cs.length → pas l p.cs up m = pasP l p.cs up (m, false) i := fun e => by subst e; rfl
  generalize pasP l p.cs up (m, false) i = q at *
  rw [hstep]
  have a1 : ∀ (k : Nat) (m : Mp), allC k ((kvM m).map (·.2)) := allC_kvM
  unfold lb82_1 sH
  simp only [↓EVP0, EVQ0, EVQ1, EVQ2, EVQ3, EVQ4, EVA, EVK, EVF, ↓reduceIte, Nat.reduceEqDiff, Nat.reduceAdd, Nat.reduceSub, Nat.reduceMul, Nat.reduceLT, Nat.reduceLeDiff, reduceCtorEq, Int.reduceToNat, Int.reduceLT, Int.reduceLE, Int.reduceAdd, Int.reduceSub, Int.reduceMul, Int.reduceNeg, Int.reduceEq, Nat.reduceMod, forall_eq_or_imp, forall_eq, forall_const, cond_true, cond_false, decide_true, decide_false, true_imp_iff, implies_true, Int.cast_ofNat_Int, forall_eq']
  refine ⟨fun hg => ?_, fun hg => ?_⟩
  · have hi2 : i < p.cs.length := by have := of_decide_eq_true hg; omega
    obtain ⟨ca, cb⟩ := hV.cab _ (getD_mem default hi2)
    generalize hc : p.cs.getD i default = c at *
    have hs : (bif bif !up.getD i false then true else decide (l.getD c.a.toNat 0 < 0) then true else decide (l.getD c.b.toNat 0 < 0)) = skp l up c i := by
      unfold skp lvl; rw [condT, condT]
    rw [hs]
    unfold inN at ca cb
    refine ⟨⟨by omega, by omega⟩, ⟨by omega, by omega⟩, fun _ => ⟨by omega, by omega⟩, fun _ => ⟨by omega, by omega⟩, fun h => ?_, fun h => ?_⟩
    · rw [h, cond_true]
      exact ⟨by unfold In64; omega, hi2, (), rfl, rfl, a1 _ _⟩
    rw [h, cond_false]
    have hE : ∀ (x y : Int) (f : Bool), (x = c.a ∧ y = c.b) ∨ (x = c.b ∧ y = c.a) → (!aboveB l y (x, f).1 || !(x, f).2) = true → Edg l p.cs up (x, f) (y, !aboveB l y (x, f).1) :=
      fun x y f hxy ho => ⟨i, hi2, by rw [hc]; exact h, by rw [hc]; exact hxy, rfl, ho⟩
    have hin : inN p.ns.length c.a ∧ inN p.ns.length c.b := ⟨ca, cb⟩
    refine lwp_for (α := Unit) 2 (fun k _ => ∃ D, PInv p.ns.length l p.cs up to m D (qk l q c k)) (fun k _ => [(1, .ptr 2 0 0 0 0), (2, .ptr 1 0 0 0 0), (3, .ptr 5 0 0 0 0), (5, .sc (.bool (qk l q c k).2)), (7, .ptr 6 0 0 0 0), (11, .rsl 6 p.cs.length (cbsF p.cs)), (12, .sc (.int .i64 p.cs.length)), (13, .sc (.int .i64 i)), (41, .agg [.sc (.bool false), .sc (.bool true)]), (42, .sc (.int .i64 k))])
      (fun k _ => sH p l up (qk l q c k).1 ++ [(0, .box (cbL c))]) () ⟨_, hP⟩ ?_ (fun _ _ => by simp [sH]) ?_
    · unfold sH cbL
      simp only [↓EVP0, EVQ0, EVQ1, EVQ2, EVQ3, EVQ4, EVA, EVK, EVF, ↓reduceIte, Nat.reduceEqDiff, Nat.reduceAdd, Nat.reduceSub, Nat.reduceMul, Nat.reduceLT, Nat.reduceLeDiff, reduceCtorEq, Int.reduceToNat, Int.reduceLT, Int.reduceLE, Int.reduceAdd, Int.reduceSub, Int.reduceMul, Int.reduceNeg, Int.reduceEq, Nat.reduceMod, forall_eq_or_imp, forall_eq, forall_const, cond_true, cond_false, decide_true, decide_false, true_imp_iff, implies_true, Int.cast_ofNat_Int, forall_eq']
      exact ⟨rfl, rfl, a1 _ _⟩
    rintro k _ hk ⟨D, hD⟩
    have hqs : qk l q c (k + 1) = cab4 l (qk l q c k) c (decide (k = 1)) := rfl
    have hq2 : k = 2 → qk l q c k = cab4 l (cab4 l q c false) c true := fun e => by subst e; rfl
    generalize qk l q c k = r at *
    rw [hqs]
    unfold lb82_0 sH cbL
    simp only [↓EVP0, EVQ0, EVQ1, EVQ2, EVQ3, EVQ4, EVA, EVK, EVF, ↓reduceIte, Nat.reduceEqDiff, Nat.reduceAdd, Nat.reduceSub, Nat.reduceMul, Nat.reduceLT, Nat.reduceLeDiff, reduceCtorEq, Int.reduceToNat, Int.reduceLT, Int.reduceLE, Int.reduceAdd, Int.reduceSub, Int.reduceMul, Int.reduceNeg, Int.reduceEq, Nat.reduceMod, forall_eq_or_imp, forall_eq, forall_const, cond_true, cond_false, decide_true, decide_false, true_imp_iff, implies_true, Int.cast_ofNat_Int, forall_eq']
    refine ⟨fun hg => ?_, fun hg => ?_⟩
    · have hk2 : k < 2 := by have := of_decide_eq_true hg; omega
      obtain ⟨b, hb, hb2⟩ : ∃ b : Bool, decide (k = 1) = b ∧ ([LV.sc (.bool false), .sc (.bool true)].drop (k * 1)).getD 0 .any = .sc (.bool b) ∧ 1 ≤ ([LV.sc (.bool false), .sc (.bool true)].drop (k * 1)).length := by
        obtain rfl | rfl : k = 0 ∨ k = 1 := by omega
        · exact ⟨false, rfl, rfl, by decide⟩
        · exact ⟨true, rfl, rfl, by decide⟩
      rw [hb]
      simp only [hb2.1]
      simp only [↓EVP0, EVQ0, EVQ1, EVQ2, EVQ3, EVQ4, EVA, EVK, EVF, ↓reduceIte, Nat.reduceEqDiff, Nat.reduceAdd, Nat.reduceSub, Nat.reduceMul, Nat.reduceLT, Nat.reduceLeDiff, reduceCtorEq, Int.reduceToNat, Int.reduceLT, Int.reduceLE, Int.reduceAdd, Int.reduceSub, Int.reduceMul, Int.reduceNeg, Int.reduceEq, Nat.reduceMod, forall_eq_or_imp, forall_eq, forall_const, cond_true, cond_false, decide_true, decide_false, true_imp_iff, implies_true, Int.cast_ofNat_Int, forall_eq']
      refine ⟨⟨⟨by omega, by omega⟩, hb2.2⟩, by decide, ?_⟩
      have d1 := imp2_ok hn hD (s := (c.a, b)) (y := c.b) hin.1 (hE _ _ _ (.inl ⟨rfl, rfl⟩))
      have d2 := imp2_ok hn d1 (s := (c.b, b)) (y := c.a) hin.2 (hE _ _ _ (.inr ⟨rfl, rfl⟩))
      have k1 := hcall r D c.a c.b b (cbL c) (by unfold cbL; simp only [↓EVP0, EVQ0, EVQ1, EVQ2, EVQ3, EVQ4, EVA, EVK, EVF, ↓reduceIte, Nat.reduceEqDiff, Nat.reduceAdd, Nat.reduceSub, Nat.reduceMul, Nat.reduceLT, Nat.reduceLeDiff, reduceCtorEq, Int.reduceToNat, Int.reduceLT, Int.reduceLE, Int.reduceAdd, Int.reduceSub, Int.reduceMul, Int.reduceNeg, Int.reduceEq, Nat.reduceMod, forall_eq_or_imp, forall_eq, forall_const, cond_true, cond_false, decide_true, decide_false, true_imp_iff, implies_true, Int.cast_ofNat_Int, forall_eq']) hD hin.1 hin.2
      have k2 := hcall (imp2 l r (c.a, b) c.b) _ c.b c.a b (cbL c) (by unfold cbL; simp only [↓EVP0, EVQ0, EVQ1, EVQ2, EVQ3, EVQ4, EVA, EVK, EVF, ↓reduceIte, Nat.reduceEqDiff, Nat.reduceAdd, Nat.reduceSub, Nat.reduceMul, Nat.reduceLT, Nat.reduceLeDiff, reduceCtorEq, Int.reduceToNat, Int.reduceLT, Int.reduceLE, Int.reduceAdd, Int.reduceSub, Int.reduceMul, Int.reduceNeg, Int.reduceEq, Nat.reduceMod, forall_eq_or_imp, forall_eq, forall_const, cond_true, cond_false, decide_true, decide_false, true_imp_iff, implies_true, Int.cast_ofNat_Int, forall_eq']) d1 hin.2 hin.1
      have e : cab4 l r c b = imp2 l (imp2 l r (c.a, b) c.b) (c.b, b) c.a := rfl
      rw [e]
      have e1 : (imp l r.1 (c.a, b) c.b).1 = (imp2 l r (c.a, b) c.b).1 := rfl
      unfold sH cbL at k1 k2
      refine callK_mut k1 ?_
      simp only [↓EVP0, EVQ0, EVQ1, EVQ2, EVQ3, EVQ4, EVA, EVK, EVF, ↓reduceIte, Nat.reduceEqDiff, Nat.reduceAdd, Nat.reduceSub, Nat.reduceMul, Nat.reduceLT, Nat.reduceLeDiff, reduceCtorEq, Int.reduceToNat, Int.reduceLT, Int.reduceLE, Int.reduceAdd, Int.reduceSub, Int.reduceMul, Int.reduceNeg, Int.reduceEq, Nat.reduceMod, forall_eq_or_imp, forall_eq, forall_const, cond_true, cond_false, decide_true, decide_false, true_imp_iff, implies_true, Int.cast_ofNat_Int, forall_eq']
      simp only [hb2.1, condT]
      simp only [↓EVP0, EVQ0, EVQ1, EVQ2, EVQ3, EVQ4, EVA, EVK, EVF, ↓reduceIte, Nat.reduceEqDiff, Nat.reduceAdd, Nat.reduceSub, Nat.reduceMul, Nat.reduceLT, Nat.reduceLeDiff, reduceCtorEq, Int.reduceToNat, Int.reduceLT, Int.reduceLE, Int.reduceAdd, Int.reduceSub, Int.reduceMul, Int.reduceNeg, Int.reduceEq, Nat.reduceMod, forall_eq_or_imp, forall_eq, forall_const, cond_true, cond_false, decide_true, decide_false, true_imp_iff, implies_true, Int.cast_ofNat_Int, forall_eq']
      refine ⟨by decide, callK_mut k2 ?_⟩
      simp only [↓EVP0, EVQ0, EVQ1, EVQ2, EVQ3, EVQ4, EVA, EVK, EVF, ↓reduceIte, Nat.reduceEqDiff, Nat.reduceAdd, Nat.reduceSub, Nat.reduceMul, Nat.reduceLT, Nat.reduceLeDiff, reduceCtorEq, Int.reduceToNat, Int.reduceLT, Int.reduceLE, Int.reduceAdd, Int.reduceSub, Int.reduceMul, Int.reduceNeg, Int.reduceEq, Nat.reduceMod, forall_eq_or_imp, forall_eq, forall_const, cond_true, cond_false, decide_true, decide_false, true_imp_iff, implies_true, Int.cast_ofNat_Int, forall_eq']
      simp only [condT]
      exact ⟨by unfold In64; omega, hk2, (), ⟨_, d2⟩, rfl, rfl, a1 _ _⟩
    · have hkk : k = 2 := by have := of_decide_eq_false hg; omega
      rw [hq2 hkk]
      exact ⟨by unfold In64; omega, hi2, (), rfl, rfl, a1 _ _⟩
  · have hii : i = p.cs.length := by have := of_decide_eq_false hg; omega
    rw [hlast hii]
    unfold fin2
    simp only [↓EVP0, EVQ0, EVQ1, EVQ2, EVQ3, EVQ4, EVA, EVK, EVF, ↓reduceIte, Nat.reduceEqDiff, Nat.reduceAdd, Nat.reduceSub, Nat.reduceMul, Nat.reduceLT, Nat.reduceLeDiff, reduceCtorEq, Int.reduceToNat, Int.reduceLT, Int.reduceLE, Int.reduceAdd, Int.reduceSub, Int.reduceMul, Int.reduceNeg, Int.reduceEq, Nat.reduceMod, forall_eq_or_imp, forall_eq, forall_const, cond_true, cond_false, decide_true, decide_false, true_imp_iff, implies_true, Int.cast_ofNat_Int, forall_eq']
    exact a1 _ _
theorem ev_search (p : Pl) (hv : validE p = 0) (l : List Int) (hl : l.length = p.ns.length) (up : List Bool) (hup : up.length = p.cs.length) (to : Int) (ht : inN p.ns.length to) :
    Ev Tryd.prog 54 [plV p, .agg [intsV l], boolsV up, .sc (.int .i64 to)] (.rmp (kvM (srcM p.ns.length l p.cs up to))) := by
  have hV := valid_of hv
  have hn : p.ns.length ≤ 100 := by have := hV.n16; omega
  have ht' := ht
  unfold inN at ht'
  have hto : In64 to := by unfold In64; omega
  have a1 : ∀ (k : Nat) (m : Mp), allC k ((kvM m).map (·.2)) := allC_kvM
  unfold plV boolsV intsV
  refine ev_fn Tryd.func54 comp54 (show 4 ≤ Tryd.f54.ntmps by decide) ?_; unfold cf54 rf54; simp only [↓EVP0, EVQ0, EVQ1, EVQ2, EVQ3, EVQ4, EVA, EVK, EVF, ↓reduceIte, Nat.reduceEqDiff, Nat.reduceAdd, Nat.reduceSub, Nat.reduceMul, Nat.reduceLT, Nat.reduceLeDiff, reduceCtorEq, Int.reduceToNat, Int.reduceLT, Int.reduceLE, Int.reduceAdd, Int.reduceSub, Int.reduceMul, Int.reduceNeg, Int.reduceEq, Nat.reduceMod, forall_eq_or_imp, forall_eq, forall_const, cond_true, cond_false, decide_true, decide_false, true_imp_iff, implies_true, Int.cast_ofNat_Int, forall_eq']
  refine ⟨⟨by omega, by omega⟩, fun h => ?_, fun h => ?_⟩
  · have h0 : lvl l to < 0 := of_decide_eq_true h
    unfold srcM
    rw [if_pos h0]
    exact ⟨rfl, fun kv hkv => by simp [kvM] at hkv⟩
  have h0 : ¬ lvl l to < 0 := of_decide_eq_false h
  have e1 : mput [] (Value.agg #[Value.int IntKind.i64 to, Value.bool false]) (LV.sc (Value.int IntKind.i64 0)) = kvM (pt (to, false) 0 []) := rfl
  have e2 : mput (kvM (pt (to, false) 0 [])) (Value.agg #[Value.int IntKind.i64 to, Value.bool true]) (LV.sc (Value.int IntKind.i64 0)) = kvM (mp0 to) := mput_kvM (to, true) 0 _
  have k1 : keysOk Tryd.prog 102 [] (Value.agg #[Value.int IntKind.i64 to, Value.bool false]) := keys_kvM (m := []) (s := (to, false)) (fun q hq => by simp at hq) hto
  have k2 : keysOk Tryd.prog 102 (kvM (pt (to, false) 0 [])) (Value.agg #[Value.int IntKind.i64 to, Value.bool true]) := keys_kvM (s := (to, true)) (fun q hq => by simp [pt] at hq; subst hq; exact hto) hto
  simp only [e1, e2]
  refine ⟨k1, k2, ?_⟩
  have hs : srcM p.ns.length l p.cs up to = iterP l p.cs up (2000 * p.ns.length + 1) (mp0 to) := by unfold srcM; rw [if_neg h0]
  rw [hs]
  refine lwp_loop (α := Mp) (fun m => SInv p.ns.length l p.cs up to m ∧ ∃ k, muS p.ns.length m < k ∧ iterP l p.cs up (2000 * p.ns.length + 1) (mp0 to) = iterP l p.cs up k m) (fun _ => [(9, .ptr 4 0 0 0 0), (11, .fn 82 [.ptr 0 0 0 0 0, .ptr 2 0 0 0 0, .ptr 1 0 0 0 0, .ptr 5 0 0 0 0])])
    (fun m => sH p l up m) (fun m => muS p.ns.length m) (mp0 to) ⟨mp0_inv ht, _, ?_, rfl⟩ ?_ (fun _ => Nat.zero_le _) ?_
  · have := mu_le (n := p.ns.length) (m := mp0 to) (fun s d hd => by have := (mp0_inv (l := l) (cs := p.cs) (up := up) ht).val s d hd; rw [mp0_eq] at this; simp at this; omega)
    omega
  · unfold sH
    simp only [↓EVP0, EVQ0, EVQ1, EVQ2, EVQ3, EVQ4, EVA, EVK, EVF, ↓reduceIte, Nat.reduceEqDiff, Nat.reduceAdd, Nat.reduceSub, Nat.reduceMul, Nat.reduceLT, Nat.reduceLeDiff, reduceCtorEq, Int.reduceToNat, Int.reduceLT, Int.reduceLE, Int.reduceAdd, Int.reduceSub, Int.reduceMul, Int.reduceNeg, Int.reduceEq, Nat.reduceMod, forall_eq_or_imp, forall_eq, forall_const, cond_true, cond_false, decide_true, decide_false, true_imp_iff, implies_true, Int.cast_ofNat_Int, forall_eq']
    exact a1 _ _
  rintro m ⟨hm, k, hk, hit⟩
  have hcall := ev_pas p hv l hl up hup to m hm
  obtain ⟨g1, g2, g3⟩ := pas_ok hn hV.cab hm
  unfold lb54_0
  unfold sH at hcall ⊢
  simp only [↓EVP0, EVQ0, EVQ1, EVQ2, EVQ3, EVQ4, EVA, EVK, EVF, ↓reduceIte, Nat.reduceEqDiff, Nat.reduceAdd, Nat.reduceSub, Nat.reduceMul, Nat.reduceLT, Nat.reduceLeDiff, reduceCtorEq, Int.reduceToNat, Int.reduceLT, Int.reduceLE, Int.reduceAdd, Int.reduceSub, Int.reduceMul, Int.reduceNeg, Int.reduceEq, Nat.reduceMod, forall_eq_or_imp, forall_eq, forall_const, cond_true, cond_false, decide_true, decide_false, true_imp_iff, implies_true, Int.cast_ofNat_Int, forall_eq']
  refine ⟨by decide, callK_mut hcall ?_⟩
  simp only [↓EVP0, EVQ0, EVQ1, EVQ2, EVQ3, EVQ4, EVA, EVK, EVF, ↓reduceIte, Nat.reduceEqDiff, Nat.reduceAdd, Nat.reduceSub, Nat.reduceMul, Nat.reduceLT, Nat.reduceLeDiff, reduceCtorEq, Int.reduceToNat, Int.reduceLT, Int.reduceLE, Int.reduceAdd, Int.reduceSub, Int.reduceMul, Int.reduceNeg, Int.reduceEq, Nat.reduceMod, forall_eq_or_imp, forall_eq, forall_const, cond_true, cond_false, decide_true, decide_false, true_imp_iff, implies_true, Int.cast_ofNat_Int, forall_eq']
  obtain ⟨k', rfl⟩ : ∃ k', k = k' + 1 := ⟨k - 1, by omega⟩
  refine ⟨fun h => ?_, fun h => ?_⟩
  · have hi : iterP l p.cs up (k' + 1) m = iterP l p.cs up k' (pas l p.cs up m).1 := by simp only [iterP]; rw [h]; rfl
    exact ⟨(pas l p.cs up m).1, ⟨g1, k', by have := g3 h; omega, by rw [hit, hi]⟩, ⟨rfl, a1 _ _⟩, g3 h⟩
  · have hi : iterP l p.cs up (k' + 1) m = m := by simp only [iterP]; rw [h]; rfl
    rw [hit, hi, (g2 h).1]
    refine ⟨rfl, fun kv hkv => ?_⟩
    simp only [kvM, List.mem_map] at hkv
    obtain ⟨q, _, rfl⟩ := hkv
    exact trivial
end Go.Proofs.YtcdepkflghcjpaaDoor
namespace Go.Proofs.YtcdepkflghcjpaaDoor
set_option linter.unusedSimpArgs false
set_option linter.unusedVariables false
open Go.RowKit
set_option maxRecDepth 20000

theorem ev_dist1 (m : Mp) (hm : mOk m) (s : St) (hs : In64 s.1) : Ev Tryd.prog 56 [.agg [.sc (.int .i64 s.1), .sc (.bool s.2)], .rptr [.rmp (kvM m)]] (.sc (.int .i64 ((lk s m).getD (-1)))) := by
  refine ev_fn Tryd.func56 comp56 (show 2 ≤ Tryd.f56.ntmps by decide) ?_; unfold cf56 rf56; simp only [↓EVP0, EVQ0, EVQ1, EVQ2, EVQ3, EVQ4, EVA, EVK, EVF, ↓reduceIte, Nat.reduceEqDiff, Nat.reduceAdd, Nat.reduceSub, Nat.reduceMul, Nat.reduceLT, Nat.reduceLeDiff, reduceCtorEq, Int.reduceToNat, Int.reduceLT, Int.reduceLE, Int.reduceAdd, Int.reduceSub, Int.reduceMul, Int.reduceNeg, Int.reduceEq, Nat.reduceMod, forall_eq_or_imp, forall_eq, forall_const, cond_true, cond_false, decide_true, decide_false, true_imp_iff, implies_true, Int.cast_ofNat_Int, forall_eq']
  have e2 : mfind (kvM m) (Value.agg #[Value.int IntKind.i64 s.1, Value.bool s.2]) = (lk s m).map fun d => .sc (.int .i64 d) := mfind_kvM s m
  have k2 : keysOk Tryd.prog 102 (kvM m) (Value.agg #[Value.int IntKind.i64 s.1, Value.bool s.2]) := keys_kvM (s := s) hm hs
  simp only [e2]
  rcases lk_or s m with h | ⟨d, h⟩ <;> rw [h] <;> simp only [Option.map_some, Option.map_none, Option.getD_some, Option.getD_none, Option.isSome_some, Option.isSome_none]
  · simp only [↓EVP0, EVQ0, EVQ1, EVQ2, EVQ3, EVQ4, EVA, EVK, EVF, ↓reduceIte, Nat.reduceEqDiff, Nat.reduceAdd, Nat.reduceSub, Nat.reduceMul, Nat.reduceLT, Nat.reduceLeDiff, reduceCtorEq, Int.reduceToNat, Int.reduceLT, Int.reduceLE, Int.reduceAdd, Int.reduceSub, Int.reduceMul, Int.reduceNeg, Int.reduceEq, Nat.reduceMod, forall_eq_or_imp, forall_eq, forall_const, cond_true, cond_false, decide_true, decide_false, true_imp_iff, implies_true, Int.cast_ofNat_Int, forall_eq']
    exact k2
  · simp only [↓EVP0, EVQ0, EVQ1, EVQ2, EVQ3, EVQ4, EVA, EVK, EVF, ↓reduceIte, Nat.reduceEqDiff, Nat.reduceAdd, Nat.reduceSub, Nat.reduceMul, Nat.reduceLT, Nat.reduceLeDiff, reduceCtorEq, Int.reduceToNat, Int.reduceLT, Int.reduceLE, Int.reduceAdd, Int.reduceSub, Int.reduceMul, Int.reduceNeg, Int.reduceEq, Nat.reduceMod, forall_eq_or_imp, forall_eq, forall_const, cond_true, cond_false, decide_true, decide_false, true_imp_iff, implies_true, Int.cast_ofNat_Int, forall_eq']
    exact k2
theorem srcM_ok {p : Pl} (hv : validE p = 0) (l : List Int) (up : List Bool) {to : Int} (ht : inN p.ns.length to) : mOk (srcM p.ns.length l p.cs up to) := by
  have hV := valid_of hv
  have hn : p.ns.length ≤ 100 := by have := hV.n16; omega
  unfold srcM
  split
  · intro q hq; simp at hq
  · refine ((iterP_ok hn hV.cab (2000 * p.ns.length + 1) _ (mp0_inv (l := l) (cs := p.cs) (up := up) ht) ?_).1.ok hn).1
    have := mu_le (n := p.ns.length) (m := mp0 to) (fun s d hd => by have := (mp0_inv (l := l) (cs := p.cs) (up := up) ht).val s d hd; rw [mp0_eq] at this; simp at this; omega)
    omega
def dL (n : Nat) (l : List Int) (cs : List Cb) (up : List Bool) (to : Int) (b : Bool) (k : Nat) : List Int := (List.range k).map fun (x : Nat) => dS n l cs up to ((x : Int), b)
theorem dL_succ (n : Nat) (l : List Int) (cs : List Cb) (up : List Bool) (to : Int) (b : Bool) (k : Nat) : dL n l cs up to b (k + 1) = dL n l cs up to b k ++ [dS n l cs up to ((k : Int), b)] := by
  unfold dL; rw [List.range_succ, List.map_append]; rfl
theorem dL_len (n : Nat) (l : List Int) (cs : List Cb) (up : List Bool) (to : Int) (b : Bool) (k : Nat) : (dL n l cs up to b k).length = k := by simp [dL]
def distE (p : Pl) (l : List Int) (up : List Bool) (to : Int) : (List Int × List Int) × Int :=
  if ordB p l = true ∧ up.length = p.cs.length then (if nodB p to = true then ((dL p.ns.length l p.cs up to false p.ns.length, dL p.ns.length l p.cs up to true p.ns.length), 0) else (([], []), 2)) else (([], []), 1)
theorem roTo2_map {h : LH} {k ver : Nat} {es : List (Value × LV)} (hk : k < h.n) (hv : h.f k = (ver, .box [.rmp es])) : roTo2 h (.ptr k ver 0 0 0) (.rptr [.rmp es]) := by
  refine ⟨hk, by rw [hv], rfl, rfl, rfl, ?_⟩
  rw [hv]
  exact ⟨⟨rfl, trivial⟩, trivial⟩
theorem ev_Dist (p : Pl) (hp : PlOk p) (l : List Int) (up : List Bool) (to : Int) :
    Ev Tryd.prog 28 [plV p, .agg [intsV l], boolsV up, .sc (.int .i64 to)] (.tup [intsV (distE p l up to).1.1, intsV (distE p l up to).1.2, .sc (.int .i64 (distE p l up to).2)]) := by
  have h1 := ev_ordValid p hp l
  have h2 := ev_isNode p to
  have h3 := fun hv hl hup ht => ev_search p hv l hl up hup to ht
  unfold plV boolsV intsV at *
  refine ev_fn Tryd.func28 comp28 (show 4 ≤ Tryd.f28.ntmps by decide) ?_; unfold cf28 rf28; simp only [↓EVP0, EVQ0, EVQ1, EVQ2, EVQ3, EVQ4, EVA, EVK, EVF, ↓reduceIte, Nat.reduceEqDiff, Nat.reduceAdd, Nat.reduceSub, Nat.reduceMul, Nat.reduceLT, Nat.reduceLeDiff, reduceCtorEq, Int.reduceToNat, Int.reduceLT, Int.reduceLE, Int.reduceAdd, Int.reduceSub, Int.reduceMul, Int.reduceNeg, Int.reduceEq, Nat.reduceMod, forall_eq_or_imp, forall_eq, forall_const, cond_true, cond_false, decide_true, decide_false, true_imp_iff, implies_true, Int.cast_ofNat_Int, forall_eq']
  refine callK_ro (h1) ?_ ?_
  · simp only [↓EVP0, EVQ0, EVQ1, EVQ2, EVQ3, EVQ4, EVA, EVK, EVF, ↓reduceIte, Nat.reduceEqDiff, Nat.reduceAdd, Nat.reduceSub, Nat.reduceMul, Nat.reduceLT, Nat.reduceLeDiff, reduceCtorEq, Int.reduceToNat, Int.reduceLT, Int.reduceLE, Int.reduceAdd, Int.reduceSub, Int.reduceMul, Int.reduceNeg, Int.reduceEq, Nat.reduceMod, forall_eq_or_imp, forall_eq, forall_const, cond_true, cond_false, decide_true, decide_false, true_imp_iff, implies_true, Int.cast_ofNat_Int, forall_eq']
  simp only [↓EVP0, EVQ0, EVQ1, EVQ2, EVQ3, EVQ4, EVA, EVK, EVF, ↓reduceIte, Nat.reduceEqDiff, Nat.reduceAdd, Nat.reduceSub, Nat.reduceMul, Nat.reduceLT, Nat.reduceLeDiff, reduceCtorEq, Int.reduceToNat, Int.reduceLT, Int.reduceLE, Int.reduceAdd, Int.reduceSub, Int.reduceMul, Int.reduceNeg, Int.reduceEq, Nat.reduceMod, forall_eq_or_imp, forall_eq, forall_const, cond_true, cond_false, decide_true, decide_false, true_imp_iff, implies_true, Int.cast_ofNat_Int, forall_eq']
  have ec : (bif !ordB p l then true else !decide ((up.length : Int) = p.cs.length)) = !decide (ordB p l = true ∧ up.length = p.cs.length) := by
    have e : decide ((up.length : Int) = p.cs.length) = decide (up.length = p.cs.length) := decide_eq_decide.2 Int.ofNat_inj
    rw [e]
    by_cases h1 : ordB p l = true <;> by_cases h2 : up.length = p.cs.length <;> simp [h1, h2]
  rw [ec]
  refine ⟨fun h => ?_, fun h => ?_⟩
  · have e : distE p l up to = (([], []), 1) := by
      unfold distE; rw [if_neg (by intro h2; rw [decide_eq_true h2] at h; simp at h)]
    rw [e]; simp
  have hh : ordB p l = true ∧ up.length = p.cs.length := by simpa using h
  have hO := ord_of hh.1
  refine callK_ro (h2) ?_ ?_
  · simp only [↓EVP0, EVQ0, EVQ1, EVQ2, EVQ3, EVQ4, EVA, EVK, EVF, ↓reduceIte, Nat.reduceEqDiff, Nat.reduceAdd, Nat.reduceSub, Nat.reduceMul, Nat.reduceLT, Nat.reduceLeDiff, reduceCtorEq, Int.reduceToNat, Int.reduceLT, Int.reduceLE, Int.reduceAdd, Int.reduceSub, Int.reduceMul, Int.reduceNeg, Int.reduceEq, Nat.reduceMod, forall_eq_or_imp, forall_eq, forall_const, cond_true, cond_false, decide_true, decide_false, true_imp_iff, implies_true, Int.cast_ofNat_Int, forall_eq']
  simp only [↓EVP0, EVQ0, EVQ1, EVQ2, EVQ3, EVQ4, EVA, EVK, EVF, ↓reduceIte, Nat.reduceEqDiff, Nat.reduceAdd, Nat.reduceSub, Nat.reduceMul, Nat.reduceLT, Nat.reduceLeDiff, reduceCtorEq, Int.reduceToNat, Int.reduceLT, Int.reduceLE, Int.reduceAdd, Int.reduceSub, Int.reduceMul, Int.reduceNeg, Int.reduceEq, Nat.reduceMod, forall_eq_or_imp, forall_eq, forall_const, cond_true, cond_false, decide_true, decide_false, true_imp_iff, implies_true, Int.cast_ofNat_Int, forall_eq']
  refine ⟨fun h => ?_, fun h => ?_⟩
  · have e : distE p l up to = (([], []), 2) := by
      unfold distE; rw [if_pos hh, if_neg (by simpa using h)]
    rw [e]; simp
  have hnd : nodB p to = true := by simpa using h
  have ht := nodB_in hnd
  have e : distE p l up to = ((dL p.ns.length l p.cs up to false p.ns.length, dL p.ns.length l p.cs up to true p.ns.length), 0) := by
    unfold distE; rw [if_pos hh, if_pos hnd]
  rw [e]
  clear e
  have hmok := srcM_ok hO.v l up ht
  have hdef : ∀ s, (lk s (srcM p.ns.length l p.cs up to)).getD (-1) = dS p.ns.length l p.cs up to s := fun _ => rfl
  refine callK_ro (h3 hO.v hO.len hh.2 ht) ?_ ?_
  · simp only [↓EVP0, EVQ0, EVQ1, EVQ2, EVQ3, EVQ4, EVA, EVK, EVF, ↓reduceIte, Nat.reduceEqDiff, Nat.reduceAdd, Nat.reduceSub, Nat.reduceMul, Nat.reduceLT, Nat.reduceLeDiff, reduceCtorEq, Int.reduceToNat, Int.reduceLT, Int.reduceLE, Int.reduceAdd, Int.reduceSub, Int.reduceMul, Int.reduceNeg, Int.reduceEq, Nat.reduceMod, forall_eq_or_imp, forall_eq, forall_const, cond_true, cond_false, decide_true, decide_false, true_imp_iff, implies_true, Int.cast_ofNat_Int, forall_eq']
  simp only [↓EVP0, EVQ0, EVQ1, EVQ2, EVQ3, EVQ4, EVA, EVK, EVF, ↓reduceIte, Nat.reduceEqDiff, Nat.reduceAdd, Nat.reduceSub, Nat.reduceMul, Nat.reduceLT, Nat.reduceLeDiff, reduceCtorEq, Int.reduceToNat, Int.reduceLT, Int.reduceLE, Int.reduceAdd, Int.reduceSub, Int.reduceMul, Int.reduceNeg, Int.reduceEq, Nat.reduceMod, forall_eq_or_imp, forall_eq, forall_const, cond_true, cond_false, decide_true, decide_false, true_imp_iff, implies_true, Int.cast_ofNat_Int, forall_eq']
  generalize srcM p.ns.length l p.cs up to = M at *
  have h16 := (valid_of hO.v).n16
  intro _
  refine lwp_for (α := List Int × List Int) p.ns.length (fun i x => True)
    (fun i x => if i = 0 then [(8, .nsl), (9, .nsl), (12, .fn 56 [.ptr 2 0 0 0 0]), (38, .sc (.int .i64 p.ns.length)), (39, .sc (.int .i64 i))]
      else [(8, .sl 4 (i - 1) 1 0 i), (9, .sl 6 (i - 1) 1 0 i), (12, .fn 56 [.ptr 2 0 0 0 0]), (38, .sc (.int .i64 p.ns.length)), (39, .sc (.int .i64 i))])
    (fun i x => if i = 0 then [(0, .box [.rsl 3 p.ns.length (ndsF p.ns), .rsl 6 p.cs.length (cbsF p.cs)]), (0, .box [.rsl 1 l.length (intsF l)]), (0, .box [.rmp (kvM M)])]
      else [(0, .box [.rsl 3 p.ns.length (ndsF p.ns), .rsl 6 p.cs.length (cbsF p.cs)]), (0, .box [.rsl 1 l.length (intsF l)]), (0, .box [.rmp (kvM M)]), (0, .ints x.1), (i - 1, .ints (dL p.ns.length l p.cs up to false i)), (0, .ints x.2), (i - 1, .ints (dL p.ns.length l p.cs up to true i))])
    ([], []) trivial ?_ (fun _ _ => Nat.zero_le _) ?_
  · simp only [↓EVP0, EVQ0, EVQ1, EVQ2, EVQ3, EVQ4, EVA, EVK, EVF, ↓reduceIte, Nat.reduceEqDiff, Nat.reduceAdd, Nat.reduceSub, Nat.reduceMul, Nat.reduceLT, Nat.reduceLeDiff, reduceCtorEq, Int.reduceToNat, Int.reduceLT, Int.reduceLE, Int.reduceAdd, Int.reduceSub, Int.reduceMul, Int.reduceNeg, Int.reduceEq, Nat.reduceMod, forall_eq_or_imp, forall_eq, forall_const, cond_true, cond_false, decide_true, decide_false, true_imp_iff, implies_true, Int.cast_ofNat_Int, forall_eq']
  rintro i ⟨X, Y⟩ hi _
  have c1 := fun (b : Bool) => ev_dist1 M hmok ((i : Int), b) (by unfold In64; simp only; omega)
  simp only [hdef] at c1
  have s1 := dL_succ p.ns.length l p.cs up to false i
  have s2 := dL_succ p.ns.length l p.cs up to true i
  have l1 := dL_len p.ns.length l p.cs up to false i
  have l2 := dL_len p.ns.length l p.cs up to true i
  unfold lb28_0
  rcases Nat.eq_zero_or_pos i with h0 | h0
  · subst h0
    simp only [if_true]
    simp only [↓EVP0, EVQ0, EVQ1, EVQ2, EVQ3, EVQ4, EVA, EVK, EVF, ↓reduceIte, Nat.reduceEqDiff, Nat.reduceAdd, Nat.reduceSub, Nat.reduceMul, Nat.reduceLT, Nat.reduceLeDiff, reduceCtorEq, Int.reduceToNat, Int.reduceLT, Int.reduceLE, Int.reduceAdd, Int.reduceSub, Int.reduceMul, Int.reduceNeg, Int.reduceEq, Nat.reduceMod, forall_eq_or_imp, forall_eq, forall_const, cond_true, cond_false, decide_true, decide_false, true_imp_iff, implies_true, Int.cast_ofNat_Int, forall_eq']
    refine ⟨fun hg => ?_, fun hg => ?_⟩
    · have z1 : Ev Tryd.prog 56 [.agg [.sc (.int .i64 0), .sc (.bool false)], .rptr [.rmp (kvM M)]] (.sc (.int .i64 (dS p.ns.length l p.cs up to (0, false)))) := c1 false
      have z2 : Ev Tryd.prog 56 [.agg [.sc (.int .i64 0), .sc (.bool true)], .rptr [.rmp (kvM M)]] (.sc (.int .i64 (dS p.ns.length l p.cs up to (0, true)))) := c1 true
      have y1 : dL p.ns.length l p.cs up to false 1 = [dS p.ns.length l p.cs up to (0, false)] := s1
      have y2 : dL p.ns.length l p.cs up to true 1 = [dS p.ns.length l p.cs up to (0, true)] := s2
      refine ⟨by decide, callK_frz z1 ?_ ?_ ?_⟩
      · simp only [↓EVP0, EVQ0, EVQ1, EVQ2, EVQ3, EVQ4, EVA, EVK, EVF, ↓reduceIte, Nat.reduceEqDiff, Nat.reduceAdd, Nat.reduceSub, Nat.reduceMul, Nat.reduceLT, Nat.reduceLeDiff, reduceCtorEq, Int.reduceToNat, Int.reduceLT, Int.reduceLE, Int.reduceAdd, Int.reduceSub, Int.reduceMul, Int.reduceNeg, Int.reduceEq, Nat.reduceMod, forall_eq_or_imp, forall_eq, forall_const, cond_true, cond_false, decide_true, decide_false, true_imp_iff, implies_true, Int.cast_ofNat_Int, forall_eq']
        exact roTo2_map (by simp [mkH]) rfl
      · simp only [↓EVP0, EVQ0, EVQ1, EVQ2, EVQ3, EVQ4, EVA, EVK, EVF, ↓reduceIte, Nat.reduceEqDiff, Nat.reduceAdd, Nat.reduceSub, Nat.reduceMul, Nat.reduceLT, Nat.reduceLeDiff, reduceCtorEq, Int.reduceToNat, Int.reduceLT, Int.reduceLE, Int.reduceAdd, Int.reduceSub, Int.reduceMul, Int.reduceNeg, Int.reduceEq, Nat.reduceMod, forall_eq_or_imp, forall_eq, forall_const, cond_true, cond_false, decide_true, decide_false, true_imp_iff, implies_true, Int.cast_ofNat_Int, forall_eq']
      simp only [↓EVP0, EVQ0, EVQ1, EVQ2, EVQ3, EVQ4, EVA, EVK, EVF, ↓reduceIte, Nat.reduceEqDiff, Nat.reduceAdd, Nat.reduceSub, Nat.reduceMul, Nat.reduceLT, Nat.reduceLeDiff, reduceCtorEq, Int.reduceToNat, Int.reduceLT, Int.reduceLE, Int.reduceAdd, Int.reduceSub, Int.reduceMul, Int.reduceNeg, Int.reduceEq, Nat.reduceMod, forall_eq_or_imp, forall_eq, forall_const, cond_true, cond_false, decide_true, decide_false, true_imp_iff, implies_true, Int.cast_ofNat_Int, forall_eq']
      refine ⟨by unfold appRoom; omega, by decide, callK_frz z2 ?_ ?_ ?_⟩
      · simp only [↓EVP0, EVQ0, EVQ1, EVQ2, EVQ3, EVQ4, EVA, EVK, EVF, ↓reduceIte, Nat.reduceEqDiff, Nat.reduceAdd, Nat.reduceSub, Nat.reduceMul, Nat.reduceLT, Nat.reduceLeDiff, reduceCtorEq, Int.reduceToNat, Int.reduceLT, Int.reduceLE, Int.reduceAdd, Int.reduceSub, Int.reduceMul, Int.reduceNeg, Int.reduceEq, Nat.reduceMod, forall_eq_or_imp, forall_eq, forall_const, cond_true, cond_false, decide_true, decide_false, true_imp_iff, implies_true, Int.cast_ofNat_Int, forall_eq']
        exact roTo2_map (by simp [mkH]) rfl
      · simp only [↓EVP0, EVQ0, EVQ1, EVQ2, EVQ3, EVQ4, EVA, EVK, EVF, ↓reduceIte, Nat.reduceEqDiff, Nat.reduceAdd, Nat.reduceSub, Nat.reduceMul, Nat.reduceLT, Nat.reduceLeDiff, reduceCtorEq, Int.reduceToNat, Int.reduceLT, Int.reduceLE, Int.reduceAdd, Int.reduceSub, Int.reduceMul, Int.reduceNeg, Int.reduceEq, Nat.reduceMod, forall_eq_or_imp, forall_eq, forall_const, cond_true, cond_false, decide_true, decide_false, true_imp_iff, implies_true, Int.cast_ofNat_Int, forall_eq']
      simp only [↓EVP0, EVQ0, EVQ1, EVQ2, EVQ3, EVQ4, EVA, EVK, EVF, ↓reduceIte, Nat.reduceEqDiff, Nat.reduceAdd, Nat.reduceSub, Nat.reduceMul, Nat.reduceLT, Nat.reduceLeDiff, reduceCtorEq, Int.reduceToNat, Int.reduceLT, Int.reduceLE, Int.reduceAdd, Int.reduceSub, Int.reduceMul, Int.reduceNeg, Int.reduceEq, Nat.reduceMod, forall_eq_or_imp, forall_eq, forall_const, cond_true, cond_false, decide_true, decide_false, true_imp_iff, implies_true, Int.cast_ofNat_Int, forall_eq']
      exact ⟨by unfold appRoom; omega, by unfold In64; omega, by unfold inN at ht; omega, ([_], [_]), rfl, y1.symm, rfl, y2.symm⟩
    · have := of_decide_eq_false hg
      unfold inN at ht; omega
  · have hne : ¬ i = 0 := by omega
    have hne2 : ¬ i + 1 = 0 := by omega
    simp only [hne, hne2, if_false]
    simp only [↓EVP0, EVQ0, EVQ1, EVQ2, EVQ3, EVQ4, EVA, EVK, EVF, ↓reduceIte, Nat.reduceEqDiff, Nat.reduceAdd, Nat.reduceSub, Nat.reduceMul, Nat.reduceLT, Nat.reduceLeDiff, reduceCtorEq, Int.reduceToNat, Int.reduceLT, Int.reduceLE, Int.reduceAdd, Int.reduceSub, Int.reduceMul, Int.reduceNeg, Int.reduceEq, Nat.reduceMod, forall_eq_or_imp, forall_eq, forall_const, cond_true, cond_false, decide_true, decide_false, true_imp_iff, implies_true, Int.cast_ofNat_Int, forall_eq']
    refine ⟨fun hg => ?_, fun hg => ?_⟩
    · have hi2 : i < p.ns.length := by have := of_decide_eq_true hg; omega
      refine ⟨by decide, callK_frz (c1 false) ?_ ?_ ?_⟩
      · simp only [↓EVP0, EVQ0, EVQ1, EVQ2, EVQ3, EVQ4, EVA, EVK, EVF, ↓reduceIte, Nat.reduceEqDiff, Nat.reduceAdd, Nat.reduceSub, Nat.reduceMul, Nat.reduceLT, Nat.reduceLeDiff, reduceCtorEq, Int.reduceToNat, Int.reduceLT, Int.reduceLE, Int.reduceAdd, Int.reduceSub, Int.reduceMul, Int.reduceNeg, Int.reduceEq, Nat.reduceMod, forall_eq_or_imp, forall_eq, forall_const, cond_true, cond_false, decide_true, decide_false, true_imp_iff, implies_true, Int.cast_ofNat_Int, forall_eq']
        exact roTo2_map (by simp [mkH]) rfl
      · simp only [↓EVP0, EVQ0, EVQ1, EVQ2, EVQ3, EVQ4, EVA, EVK, EVF, ↓reduceIte, Nat.reduceEqDiff, Nat.reduceAdd, Nat.reduceSub, Nat.reduceMul, Nat.reduceLT, Nat.reduceLeDiff, reduceCtorEq, Int.reduceToNat, Int.reduceLT, Int.reduceLE, Int.reduceAdd, Int.reduceSub, Int.reduceMul, Int.reduceNeg, Int.reduceEq, Nat.reduceMod, forall_eq_or_imp, forall_eq, forall_const, cond_true, cond_false, decide_true, decide_false, true_imp_iff, implies_true, Int.cast_ofNat_Int, forall_eq']
      simp only [↓EVP0, EVQ0, EVQ1, EVQ2, EVQ3, EVQ4, EVA, EVK, EVF, ↓reduceIte, Nat.reduceEqDiff, Nat.reduceAdd, Nat.reduceSub, Nat.reduceMul, Nat.reduceLT, Nat.reduceLeDiff, reduceCtorEq, Int.reduceToNat, Int.reduceLT, Int.reduceLE, Int.reduceAdd, Int.reduceSub, Int.reduceMul, Int.reduceNeg, Int.reduceEq, Nat.reduceMod, forall_eq_or_imp, forall_eq, forall_const, cond_true, cond_false, decide_true, decide_false, true_imp_iff, implies_true, Int.cast_ofNat_Int, forall_eq']
      refine ⟨by omega, by unfold appRoom; omega, by decide, callK_frz (c1 true) ?_ ?_ ?_⟩
      · simp only [↓EVP0, EVQ0, EVQ1, EVQ2, EVQ3, EVQ4, EVA, EVK, EVF, ↓reduceIte, Nat.reduceEqDiff, Nat.reduceAdd, Nat.reduceSub, Nat.reduceMul, Nat.reduceLT, Nat.reduceLeDiff, reduceCtorEq, Int.reduceToNat, Int.reduceLT, Int.reduceLE, Int.reduceAdd, Int.reduceSub, Int.reduceMul, Int.reduceNeg, Int.reduceEq, Nat.reduceMod, forall_eq_or_imp, forall_eq, forall_const, cond_true, cond_false, decide_true, decide_false, true_imp_iff, implies_true, Int.cast_ofNat_Int, forall_eq']
        exact roTo2_map (by simp [mkH]) rfl
      · simp only [↓EVP0, EVQ0, EVQ1, EVQ2, EVQ3, EVQ4, EVA, EVK, EVF, ↓reduceIte, Nat.reduceEqDiff, Nat.reduceAdd, Nat.reduceSub, Nat.reduceMul, Nat.reduceLT, Nat.reduceLeDiff, reduceCtorEq, Int.reduceToNat, Int.reduceLT, Int.reduceLE, Int.reduceAdd, Int.reduceSub, Int.reduceMul, Int.reduceNeg, Int.reduceEq, Nat.reduceMod, forall_eq_or_imp, forall_eq, forall_const, cond_true, cond_false, decide_true, decide_false, true_imp_iff, implies_true, Int.cast_ofNat_Int, forall_eq']
      simp only [↓EVP0, EVQ0, EVQ1, EVQ2, EVQ3, EVQ4, EVA, EVK, EVF, ↓reduceIte, Nat.reduceEqDiff, Nat.reduceAdd, Nat.reduceSub, Nat.reduceMul, Nat.reduceLT, Nat.reduceLeDiff, reduceCtorEq, Int.reduceToNat, Int.reduceLT, Int.reduceLE, Int.reduceAdd, Int.reduceSub, Int.reduceMul, Int.reduceNeg, Int.reduceEq, Nat.reduceMod, forall_eq_or_imp, forall_eq, forall_const, cond_true, cond_false, decide_true, decide_false, true_imp_iff, implies_true, Int.cast_ofNat_Int, forall_eq']
      have e1 : i - 1 + 1 = i := by omega
      exact ⟨by omega, by unfold appRoom; omega, by unfold In64; omega, hi2, (X, Y), ⟨by rw [e1]; rfl, by rw [e1]; rfl⟩, rfl, ⟨by omega, by rw [List.take_of_length_le (by omega), s1]⟩, rfl, by omega, by rw [List.take_of_length_le (by omega), s2]⟩
    · have hii : i = p.ns.length := by have := of_decide_eq_false hg; omega
      subst hii
      exact ⟨⟨l1, by omega, fun j _ => rfl⟩, l2, by omega, fun j _ => rfl⟩
def hitQ (l : List Int) (on : Bool) (D : St → Int) (s : St) (left : Int) (q : Int × Bool) : Option St :=
  bif q.2 && on then (bif (!aboveB l q.1 s.1 || !s.2) && (decide (0 ≤ left - 1) && decide (D (q.1, !aboveB l q.1 s.1) = left - 1)) then some (q.1, !aboveB l q.1 s.1) else none) else none
def hitS (l : List Int) (cs : List Cb) (up : List Bool) (D : St → Int) (s : St) (left : Int) (i : Nat) : Option St := hitQ l (up.getD i false) D s left (acrE (cs.getD i default) s.1)
def fstS (l : List Int) (cs : List Cb) (up : List Bool) (D : St → Int) (s : St) (left : Int) : Option (Nat × St) := (List.range cs.length).findSome? fun i => (hitS l cs up D s left i).map fun t => (i, t)
theorem findSome_at {α : Type} {f : Nat → Option α} {v : α} : ∀ {n i : Nat}, i < n → (∀ j, j < i → f j = none) → f i = some v → (List.range n).findSome? f = some v := by
  intro n
  induction n with
  | zero => intro i hi; omega
  | succ n ih =>
    intro i hi hj hv
    rw [List.range_succ, List.findSome?_append]
    by_cases e : i = n
    · subst e
      have h0 : (List.range i).findSome? f = none := by
        rw [List.findSome?_eq_none_iff]
        intro x hx; exact hj x (List.mem_range.1 hx)
      rw [h0]; simp [hv]
    · rw [ih (by omega) hj hv]; rfl
theorem findSome_none {α : Type} {f : Nat → Option α} {n : Nat} (hj : ∀ j, j < n → f j = none) : (List.range n).findSome? f = none := by
  rw [List.findSome?_eq_none_iff]
  intro x hx; exact hj x (List.mem_range.1 hx)
end Go.Proofs.YtcdepkflghcjpaaDoor
namespace Go.Proofs.YtcdepkflghcjpaaDoor
set_option linter.unusedSimpArgs false
set_option linter.unusedVariables false
open Go.RowKit
set_option maxRecDepth 20000

theorem edg_lvl {l : List Int} {cs : List Cb} {up : List Bool} {s t : St} {i : Nat} (h : EdgJ l cs up i s t) : 0 ≤ lvl l s.1 ∧ 0 ≤ lvl l t.1 ∧ up.getD i false = true := by
  obtain ⟨h1, h2, _, _⟩ := h
  unfold skp at h1
  simp only [Bool.or_eq_false_iff, decide_eq_false_iff_not, Bool.not_eq_false'] at h1
  rcases h2 with ⟨e1, e2⟩ | ⟨e1, e2⟩ <;> rw [e1, e2] <;> exact ⟨by omega, by omega, h1.1.1⟩
theorem edg_in {n : Nat} {l : List Int} {cs : List Cb} {up : List Bool} (hC : ∀ c, c ∈ cs → inN n c.a ∧ inN n c.b) {s t : St} {i : Nat} (hi : i < cs.length) (h : EdgJ l cs up i s t) : inN n s.1 ∧ inN n t.1 := by
  obtain ⟨ha, hb⟩ := hC _ (getD_mem default hi)
  rcases h.2.1 with ⟨e1, e2⟩ | ⟨e1, e2⟩ <;> rw [e1, e2]
  · exact ⟨ha, hb⟩
  · exact ⟨hb, ha⟩
theorem DFacts.lvl {n : Nat} {l : List Int} {cs : List Cb} {up : List Bool} {to : Int} {D : St → Int} (h : DFacts n l cs up to D) (s : St) (h0 : 0 ≤ D s) : 0 ≤ Proofs.YtcdepkflghcjpaaDoor.lvl l s.1 := by
  by_cases h1 : D s = 0
  · obtain ⟨e, h2⟩ := (h.zero s).1 h1
    rw [e]; exact h2
  · obtain ⟨t, ⟨i, _, he⟩, _⟩ := h.next s (by omega)
    exact (edg_lvl he).1
theorem DFacts.rng {n : Nat} {l : List Int} {cs : List Cb} {up : List Bool} {to : Int} {D : St → Int} (h : DFacts n l cs up to D) (hC : ∀ c, c ∈ cs → inN n c.a ∧ inN n c.b) (ht : inN n to) (s : St) (h0 : 0 ≤ D s) : inN n s.1 := by
  by_cases h1 : D s = 0
  · rw [((h.zero s).1 h1).1]; exact ht
  · obtain ⟨t, ⟨i, hi, he⟩, _⟩ := h.next s (by omega)
    exact (edg_in hC hi he).1
end Go.Proofs.YtcdepkflghcjpaaDoor
namespace Go.Proofs.YtcdepkflghcjpaaDoor
set_option linter.unusedSimpArgs false
set_option linter.unusedVariables false
open Go.RowKit
set_option maxRecDepth 20000

section
variable {n : Nat} {l : List Int} {cs : List Cb} {up : List Bool} {to : Int} {D : St → Int}
end
end Go.Proofs.YtcdepkflghcjpaaDoor
namespace Go.Proofs.YtcdepkflghcjpaaDoor
set_option linter.unusedSimpArgs false
set_option linter.unusedVariables false
open Go.RowKit

abbrev Tb := List (List Int × List Int)
def tabF (t : Tb) (i : Nat) : List LV := [intsV (t.getD i ([], [])).1, intsV (t.getD i ([], [])).2]
def tabV (t : Tb) : LV := .agg [.rsl 2 t.length (tabF t)]
theorem tabF_eq (t : Tb) (i : Nat) : tabF t i = [.rsl 1 (t.getD i ([], [])).1.length (intsF (t.getD i ([], [])).1), .rsl 1 (t.getD i ([], [])).2.length (intsF (t.getD i ([], [])).2)] := rfl
theorem EVFS : (∀ (l : List Int) (i : Nat), intsF l i = [.sc (.int .i64 (l.getD i 0))]) ∧ (∀ (t : Tb) (i : Nat), tabF t i = [.rsl 1 (t.getD i ([], [])).1.length (intsF (t.getD i ([], [])).1), .rsl 1 (t.getD i ([], [])).2.length (intsF (t.getD i ([], [])).2)]) := ⟨fun _ _ => rfl, tabF_eq⟩
end Go.Proofs.YtcdepkflghcjpaaDoor
namespace Go.Proofs.YtcdepkflghcjpaaDoor
set_option linter.unusedSimpArgs false
set_option linter.unusedVariables false
open Go.RowKit
set_option maxRecDepth 20000

def chE (l : List Int) (cs : List Cb) (up : List Bool) (D : St → Int) (s : St) : Int := if D s < 1 then -1 else ((fstS l cs up D s (D s)).map fun q => (q.1 : Int)).getD (-1)
def entE (p : Pl) (l : List Int) (up : List Bool) (u : Nat) (ph : Bool) (to : Nat) : Int := if u = to then -2 else chE l p.cs up (dS p.ns.length l p.cs up (to : Int)) ((u : Int), ph)
def rowE (p : Pl) (l : List Int) (up : List Bool) (u : Nat) (ph : Bool) (k : Nat) : List Int := (List.range k).map fun to => entE p l up u ph to
theorem rowE_len (p : Pl) (l : List Int) (up : List Bool) (u : Nat) (ph : Bool) (k : Nat) : (rowE p l up u ph k).length = k := by simp [rowE]
theorem rowE_succ (p : Pl) (l : List Int) (up : List Bool) (u : Nat) (ph : Bool) (k : Nat) : rowE p l up u ph (k + 1) = rowE p l up u ph k ++ [entE p l up u ph k] := by
  unfold rowE; rw [List.range_succ, List.map_append]; rfl
def makeT (p : Pl) (l : List Int) (up : List Bool) : Tb := (List.range p.ns.length).map fun u => (rowE p l up u false p.ns.length, rowE p l up u true p.ns.length)
theorem makeT_len (p : Pl) (l : List Int) (up : List Bool) : (makeT p l up).length = p.ns.length := by simp [makeT]
theorem makeT_get (p : Pl) (l : List Int) (up : List Bool) {u : Nat} (h : u < p.ns.length) : (makeT p l up).getD u ([], []) = (rowE p l up u false p.ns.length, rowE p l up u true p.ns.length) := by
  unfold makeT
  rw [List.getD_eq_getElem?_getD, List.getElem?_map, List.getElem?_range h]; rfl
def makeE (p : Pl) (l : List Int) (up : List Bool) : Tb × Int := if ordB p l = true ∧ up.length = p.cs.length then (makeT p l up, 0) else ([], 1)
def fam (F : Nat → Nat × LO) : List (Nat × LO) := (List.range 16).map F
theorem fam_len (F : Nat → Nat × LO) : (fam F).length = 16 := by simp [fam]
theorem fam_lenA (F : Nat → Nat × LO) (l : List (Nat × LO)) : (fam F ++ l).length = l.length + 16 := by simp [fam]; omega
theorem fam_app (F : Nat → Nat × LO) (l m : List (Nat × LO)) : (fam F ++ l) ++ m = fam F ++ (l ++ m) := List.append_assoc _ _ _
theorem fam_hi (F : Nat → Nat × LO) (l : List (Nat × LO)) (j : Nat) (d : Nat × LO) : (fam F ++ l).getD (j + 16) d = l.getD j d := by
  rw [List.getD_eq_getElem?_getD, List.getElem?_append_right (by rw [fam_len]; omega), fam_len, Nat.add_sub_cancel, ← List.getD_eq_getElem?_getD]
theorem fam_lo (F : Nat → Nat × LO) (l : List (Nat × LO)) {i : Nat} (hi : i < 16) (d : Nat × LO) : (fam F ++ l).getD i d = F i := by
  rw [List.getD_eq_getElem?_getD, List.getElem?_append_left (by rw [fam_len]; exact hi)]
  unfold fam
  rw [List.getElem?_map, List.getElem?_range hi]; rfl
theorem fam_setH (F : Nat → Nat × LO) (l : List (Nat × LO)) (j : Nat) (v : Nat × LO) : (fam F ++ l).set (j + 16) v = fam F ++ l.set j v := by
  rw [List.set_append_right _ _ (by rw [fam_len]; omega), fam_len, Nat.add_sub_cancel]
def updF (F : Nat → Nat × LO) (i : Nat) (v : Nat × LO) (j : Nat) : Nat × LO := if j = i then v else F j
theorem fam_setL (F : Nat → Nat × LO) (l : List (Nat × LO)) {i : Nat} (hi : i < 16) (v : Nat × LO) : (fam F ++ l).set i v = fam (updF F i v) ++ l := by
  rw [List.set_append_left _ _ (by rw [fam_len]; exact hi)]
  congr 1
  unfold fam
  apply List.ext_getElem?
  intro j
  by_cases e : j = i
  · subst e
    rw [List.getElem?_set_self (by simp; exact hi), List.getElem?_map, List.getElem?_range hi]
    simp [updF]
  · rw [List.getElem?_set_ne (fun h => e h.symm), List.getElem?_map, List.getElem?_map]
    by_cases hj : j < 16
    · rw [List.getElem?_range hj]; simp [updF, e]
    · rw [List.getElem?_eq_none (by simp; omega)]; rfl
end Go.Proofs.YtcdepkflghcjpaaDoor
namespace Go.Proofs.YtcdepkflghcjpaaDoor
set_option linter.unusedSimpArgs false
set_option linter.unusedVariables false
open Go.RowKit
set_option maxRecDepth 20000

theorem ev_across19 (c : Cb) (x : Int) : Ev Tryd.prog 39 [.agg (cbL c), .sc (.int .i64 x)] (.tup [.sc (.int .i64 (acrE c x).1), .sc (.bool (acrE c x).2)]) := by
  unfold cbL acrE
  refine ev_fn Tryd.func39 comp39 (show 2 ≤ Tryd.f39.ntmps by decide) ?_; unfold cf39 rf39; simp only [↓EVP0, EVQ0, EVQ1, EVQ2, EVQ3, EVQ4, EVA, EVK, EVF, ↓reduceIte, Nat.reduceEqDiff, Nat.reduceAdd, Nat.reduceSub, Nat.reduceMul, Nat.reduceLT, Nat.reduceLeDiff, reduceCtorEq, Int.reduceToNat, Int.reduceLT, Int.reduceLE, Int.reduceAdd, Int.reduceSub, Int.reduceMul, Int.reduceNeg, Int.reduceEq, Nat.reduceMod, forall_eq_or_imp, forall_eq, forall_const, cond_true, cond_false, decide_true, decide_false, true_imp_iff, implies_true, Int.cast_ofNat_Int, forall_eq']
  refine ⟨fun h => ?_, fun h => ⟨fun h2 => ?_, fun h2 => ?_⟩⟩
  · rw [h]; exact ⟨rfl, rfl⟩
  · rw [h, h2]; exact ⟨rfl, rfl⟩
  · rw [h, h2]; exact ⟨rfl, rfl⟩
theorem ev_choose (p : Pl) (hv : validE p = 0) (l : List Int) (up : List Bool) (hup : up.length = p.cs.length) (F R : List Int) (hR : R.length = p.ns.length) (hF : F.length = p.ns.length) (x left : Int) (hx : inN p.ns.length x) (hl : -1 ≤ left ∧ left ≤ 1000) (b : Bool)
    (D : St → Int) (hD1 : ∀ y, inN p.ns.length y → D (y, false) = R.getD y.toNat 0) (hD2 : ∀ y, inN p.ns.length y → D (y, true) = F.getD y.toNat 0) (hlow : ∀ s, -1 ≤ D s) :
    Ev Tryd.prog 38 [.sc (.int .i64 x), .sc (.int .i64 left), .sc (.bool b), .rptr [.rsl 3 p.ns.length (ndsF p.ns), .rsl 6 p.cs.length (cbsF p.cs)], .rptr [.rsl 1 up.length (boolsF up)], .rptr [.rsl 1 l.length (intsF l)], .rptr [.rsl 1 R.length (intsF R)], .rptr [.rsl 1 F.length (intsF F)]]
      (.sc (.int .i64 (if left < 1 then -1 else ((fstS l p.cs up D (x, !b) left).map fun q => (q.1 : Int)).getD (-1)))) := by
  have h1 := ev_across19
  have h2 := fun y => ev_above l y x
  unfold cbL at h1
  unfold intsV at h2
  have h32 := (valid_of hv).c32
  refine ev_fn Tryd.func38 comp38 (show 8 ≤ Tryd.f38.ntmps by decide) ?_; unfold cf38 rf38; simp only [↓EVP0, EVQ0, EVQ1, EVQ2, EVQ3, EVQ4, EVA, EVK, EVF, ↓reduceIte, Nat.reduceEqDiff, Nat.reduceAdd, Nat.reduceSub, Nat.reduceMul, Nat.reduceLT, Nat.reduceLeDiff, reduceCtorEq, Int.reduceToNat, Int.reduceLT, Int.reduceLE, Int.reduceAdd, Int.reduceSub, Int.reduceMul, Int.reduceNeg, Int.reduceEq, Nat.reduceMod, forall_eq_or_imp, forall_eq, forall_const, cond_true, cond_false, decide_true, decide_false, true_imp_iff, implies_true, Int.cast_ofNat_Int, forall_eq']
  intro _
  refine lwp_for (α := Unit) p.cs.length (fun i _ => left < 1 ∨ ∀ j, j < i → hitS l p.cs up D (x, !b) left j = none) (fun i _ => [(0, .sc (.int .i64 x)), (1, .sc (.int .i64 left)), (2, .sc (.bool b)), (4, .rptr [.rsl 1 up.length (boolsF up)]), (5, .rptr [.rsl 1 l.length (intsF l)]), (6, .rptr [.rsl 1 R.length (intsF R)]), (7, .rptr [.rsl 1 F.length (intsF F)]), (18, .rsl 6 p.cs.length (cbsF p.cs)), (19, .sc (.int .i64 p.cs.length)), (20, .sc (.int .i64 i))])
    (fun _ _ => []) () (.inr fun j hj => absurd hj (Nat.not_lt_zero _)) ?_ (fun _ _ => Nat.zero_le _) ?_
  · simp only [↓EVP0, EVQ0, EVQ1, EVQ2, EVQ3, EVQ4, EVA, EVK, EVF, ↓reduceIte, Nat.reduceEqDiff, Nat.reduceAdd, Nat.reduceSub, Nat.reduceMul, Nat.reduceLT, Nat.reduceLeDiff, reduceCtorEq, Int.reduceToNat, Int.reduceLT, Int.reduceLE, Int.reduceAdd, Int.reduceSub, Int.reduceMul, Int.reduceNeg, Int.reduceEq, Nat.reduceMod, forall_eq_or_imp, forall_eq, forall_const, cond_true, cond_false, decide_true, decide_false, true_imp_iff, implies_true, Int.cast_ofNat_Int, forall_eq']
  intro i _ hi hI
  unfold lb38_0
  simp only [↓EVP0, EVQ0, EVQ1, EVQ2, EVQ3, EVQ4, EVA, EVK, EVF, ↓reduceIte, Nat.reduceEqDiff, Nat.reduceAdd, Nat.reduceSub, Nat.reduceMul, Nat.reduceLT, Nat.reduceLeDiff, reduceCtorEq, Int.reduceToNat, Int.reduceLT, Int.reduceLE, Int.reduceAdd, Int.reduceSub, Int.reduceMul, Int.reduceNeg, Int.reduceEq, Nat.reduceMod, forall_eq_or_imp, forall_eq, forall_const, cond_true, cond_false, decide_true, decide_false, true_imp_iff, implies_true, Int.cast_ofNat_Int, forall_eq']
  refine ⟨fun hg => ?_, fun hg => ?_⟩
  · have hi2 : i < p.cs.length := by have := of_decide_eq_true hg; omega
    refine ⟨⟨by omega, by omega⟩, ?_⟩
    refine callK_ro (h1 (p.cs.getD i default) x) ?_ ?_
    · simp only [↓EVP0, EVQ0, EVQ1, EVQ2, EVQ3, EVQ4, EVA, EVK, EVF, ↓reduceIte, Nat.reduceEqDiff, Nat.reduceAdd, Nat.reduceSub, Nat.reduceMul, Nat.reduceLT, Nat.reduceLeDiff, reduceCtorEq, Int.reduceToNat, Int.reduceLT, Int.reduceLE, Int.reduceAdd, Int.reduceSub, Int.reduceMul, Int.reduceNeg, Int.reduceEq, Nat.reduceMod, forall_eq_or_imp, forall_eq, forall_const, cond_true, cond_false, decide_true, decide_false, true_imp_iff, implies_true, Int.cast_ofNat_Int, forall_eq']
    simp only [↓EVP0, EVQ0, EVQ1, EVQ2, EVQ3, EVQ4, EVA, EVK, EVF, ↓reduceIte, Nat.reduceEqDiff, Nat.reduceAdd, Nat.reduceSub, Nat.reduceMul, Nat.reduceLT, Nat.reduceLeDiff, reduceCtorEq, Int.reduceToNat, Int.reduceLT, Int.reduceLE, Int.reduceAdd, Int.reduceSub, Int.reduceMul, Int.reduceNeg, Int.reduceEq, Nat.reduceMod, forall_eq_or_imp, forall_eq, forall_const, cond_true, cond_false, decide_true, decide_false, true_imp_iff, implies_true, Int.cast_ofNat_Int, forall_eq']
    have hH : hitS l p.cs up D (x, !b) left i = hitQ l (up.getD i false) D (x, !b) left (acrE (p.cs.getD i default) x) := rfl
    have hin := fun ho => acr_in hv (i := (i : Int)) (x := x) ⟨by omega, by omega⟩ ho
    simp only [Int.toNat_natCast] at hin
    have hnext : (left < 1 ∨ hitS l p.cs up D (x, !b) left i = none) → (left < 1 ∨ ∀ j, j < i + 1 → hitS l p.cs up D (x, !b) left j = none) := by
      intro h
      rcases hI with h0 | h0
      · exact .inl h0
      · rcases h with h | h
        · exact .inl h
        · right
          intro j hj
          by_cases e : j = i
          · subst e; exact h
          · exact h0 j (by omega)
    generalize acrE (p.cs.getD i default) x = q at *
    unfold hitQ at hH
    refine ⟨fun _ => ⟨by omega, by omega⟩, fun h => ⟨by unfold In64; omega, hi2, (), hnext ?_⟩, fun h => ?_⟩
    · by_cases h0 : left < 1
      · exact .inl h0
      · right
        have : (q.2 && up.getD i false) = false := by
          rw [decide_eq_false h0] at h
          revert h; cases q.2 <;> cases up.getD i false <;> simp
        rw [hH, this]; rfl
    have h0 : ¬ left < 1 := fun h0 => by rw [decide_eq_true h0] at h; simp at h
    have hqu : q.2 = true ∧ up.getD i false = true := by
      rw [decide_eq_false h0] at h
      revert h; cases q.2 <;> cases up.getD i false <;> simp
    have hy := hin hqu.1
    rw [hqu.1, hqu.2] at hH
    simp only [Bool.and_self, cond_true, Bool.not_not] at hH
    have d1 := hD1 _ hy
    have d2 := hD2 _ hy
    unfold inN at hy hx
    generalize q.1 = y at *
    refine callK_ro (h2 y) ?_ ?_
    · simp only [↓EVP0, EVQ0, EVQ1, EVQ2, EVQ3, EVQ4, EVA, EVK, EVF, ↓reduceIte, Nat.reduceEqDiff, Nat.reduceAdd, Nat.reduceSub, Nat.reduceMul, Nat.reduceLT, Nat.reduceLeDiff, reduceCtorEq, Int.reduceToNat, Int.reduceLT, Int.reduceLE, Int.reduceAdd, Int.reduceSub, Int.reduceMul, Int.reduceNeg, Int.reduceEq, Nat.reduceMod, forall_eq_or_imp, forall_eq, forall_const, cond_true, cond_false, decide_true, decide_false, true_imp_iff, implies_true, Int.cast_ofNat_Int, forall_eq']
    simp only [↓EVP0, EVQ0, EVQ1, EVQ2, EVQ3, EVQ4, EVA, EVK, EVF, ↓reduceIte, Nat.reduceEqDiff, Nat.reduceAdd, Nat.reduceSub, Nat.reduceMul, Nat.reduceLT, Nat.reduceLeDiff, reduceCtorEq, Int.reduceToNat, Int.reduceLT, Int.reduceLE, Int.reduceAdd, Int.reduceSub, Int.reduceMul, Int.reduceNeg, Int.reduceEq, Nat.reduceMod, forall_eq_or_imp, forall_eq, forall_const, cond_true, cond_false, decide_true, decide_false, true_imp_iff, implies_true, Int.cast_ofNat_Int, forall_eq']
    rw [decide_eq_true (show 0 ≤ left - 1 by omega), Bool.true_and] at hH
    have e3 : (bif bif bif aboveB l y x then b else false then decide (R.getD y.toNat 0 = left - 1) else false then true else bif !aboveB l y x then decide (F.getD y.toNat 0 = left - 1) else false) = ((!aboveB l y x || b) && decide (D (y, !aboveB l y x) = left - 1)) := by
      cases aboveB l y x
      · rw [Bool.not_false, d2]; rfl
      · rw [Bool.not_true, d1]
        cases b <;> cases decide (R.getD y.toNat 0 = left - 1) <;> rfl
    rw [e3]
    refine ⟨fun _ => ⟨by omega, by omega⟩, fun _ => by unfold In64; omega, fun _ => ⟨by omega, by omega⟩, fun _ => by unfold In64; omega, fun h5 => ?_, fun h5 => ?_⟩
    · rw [h5, cond_true] at hH
      have e : fstS l p.cs up D (x, !b) left = some (i, (y, !aboveB l y x)) := findSome_at hi2 (fun j hj => by
        rcases hI with h6 | h6
        · exact absurd h6 h0
        · rw [h6 j hj]; rfl) (by rw [hH]; rfl)
      rw [if_neg h0, e]; rfl
    · rw [h5, cond_false] at hH
      exact ⟨by unfold In64; omega, hi2, (), hnext (.inr hH)⟩
  · have hii : i = p.cs.length := by have := of_decide_eq_false hg; omega
    subst hii
    by_cases h0 : left < 1
    · rw [if_pos h0]
    · rw [if_neg h0]
      rcases hI with h1 | h1
      · exact absurd h1 h0
      · have e : fstS l p.cs up D (x, !b) left = none := findSome_none fun j hj => by rw [h1 j hj]; rfl
        rw [e]; rfl
end Go.Proofs.YtcdepkflghcjpaaDoor
namespace Go.Proofs.YtcdepkflghcjpaaDoor
set_option linter.unusedSimpArgs false
set_option linter.unusedVariables false
open Go.RowKit
set_option maxRecDepth 20000

theorem lopsQ_calv {P : Program} {s : LS} {h : LH} {K : LS → Prop} {d : Option Nat} {x : Operand} {al : List Operand} : lopsQ P ⟨d, none, .e (.calv x al)⟩ K s h = (opC true s x ∧ (∀ y, y ∈ al → opC true s y) ∧ evk (op1 s x) (fun xv => isFn xv ∧ okF P (fnOf xv) = true ∧ @qCallK P (fnOf xv) (al.map (op1 s) ++ capsOf xv) h ⟨fun v => K (updO s d v)⟩)) := by
  simp only [lopsQ, LStep, eff, qCallK, evk, eq_iff_iff]
  constructor
  · rintro ⟨v, ⟨h1, h2, h3, h4, h5⟩, h6⟩; exact ⟨h1, h2, h3, h4, v, h5, h6⟩
  · rintro ⟨h1, h2, h3, h4, v, h5, h6⟩; exact ⟨v, ⟨h1, h2, h3, h4, h5⟩, h6⟩
theorem EVFN : (∀ (l : List Int) (i : Nat), intsF l i = [.sc (.int .i64 (l.getD i 0))]) ∧ (∀ (F : Nat → Nat × LO) (l : List (Nat × LO)), (fam F ++ l).length = l.length + 16) ∧ (∀ (F : Nat → Nat × LO) (l m : List (Nat × LO)), (fam F ++ l) ++ m = fam F ++ (l ++ m)) ∧
    (∀ (F : Nat → Nat × LO) (l : List (Nat × LO)) (j : Nat) (d : Nat × LO), (fam F ++ l).getD (j + 16) d = l.getD j d) ∧ (∀ (F : Nat → Nat × LO) (l : List (Nat × LO)) (j : Nat) (v : Nat × LO), (fam F ++ l).set (j + 16) v = fam F ++ l.set j v) ∧
    (∀ (P : Program) (s : LS) (h : LH) (K : LS → Prop) (d : Option Nat) (x : Operand) (al : List Operand), lopsQ P ⟨d, none, .e (.calv x al)⟩ K s h = (opC true s x ∧ (∀ y, y ∈ al → opC true s y) ∧ evk (op1 s x) (fun xv => isFn xv ∧ okF P (fnOf xv) = true ∧ @qCallK P (fnOf xv) (al.map (op1 s) ++ capsOf xv) h ⟨fun v => K (updO s d v)⟩))) :=
  ⟨fun _ _ => rfl, fam_lenA, fam_app, fam_hi, fam_setH, fun _ _ _ _ _ _ _ => lopsQ_calv⟩
def cnt (n to m j : Nat) : Nat := if 2 * n ≤ j then 0 else if j < m then to + 1 else to
def phB (j : Nat) : Bool := decide (j % 2 = 1)
def famF (p : Pl) (l : List Int) (up : List Bool) (to m : Nat) (j : Nat) : Nat × LO :=
  if cnt p.ns.length to m j = 0 then (0, .dead) else (cnt p.ns.length to m j - 1, .ints (rowE p l up (j / 2) (phB j) (cnt p.ns.length to m j)))
def slv (n to m j : Nat) : LV := if cnt n to m j = 0 then .nsl else .sl (j + 6) (cnt n to m j - 1) 1 0 (cnt n to m j)
def nxtF (n to m : Nat) (u : Nat) : List LV := [slv n to m (2 * u), slv n to m (2 * u + 1)]
theorem cnt_end (n to j : Nat) : cnt n to (2 * n) j = cnt n (to + 1) 0 j := by
  unfold cnt
  by_cases h : 2 * n ≤ j
  · rw [if_pos h, if_pos h]
  · rw [if_neg h, if_neg h, if_pos (by omega), if_neg (by omega)]
theorem famF_end (p : Pl) (l : List Int) (up : List Bool) (to : Nat) : famF p l up to (2 * p.ns.length) = famF p l up (to + 1) 0 := by
  funext j; unfold famF; rw [cnt_end]
theorem nxtF_end (n to : Nat) : nxtF n to (2 * n) = nxtF n (to + 1) 0 := by
  funext j; unfold nxtF slv; rw [cnt_end, cnt_end]
theorem nxtF_zero (n : Nat) : nxtF n 0 0 = fun _ => [.nsl, .nsl] := by
  funext j
  unfold nxtF slv cnt
  simp
theorem famF_zero (p : Pl) (l : List Int) (up : List Bool) (j : Nat) : famF p l up 0 0 j = (0, .dead) := by
  unfold famF cnt; simp
theorem famF_below (p : Pl) (l : List Int) (up : List Bool) (to m j n : Nat) : belowO n (famF p l up to m j).2 := by
  unfold famF; split <;> trivial
theorem weakH_app {n : Nat} {h : LH} : ∀ {A B : List (Nat × LO)} {k : Nat}, (∀ i, i < A.length → h.f (k + i) = A.getD i (0, .dead) ∧ belowO n (A.getD i (0, .dead)).2) → weakH n h (k + A.length) B → weakH n h k (A ++ B)
  | [], B, k, _, h2 => h2
  | x :: A, B, k, h1, h2 => by
    refine ⟨(h1 0 (by simp)).1, (h1 0 (by simp)).2, weakH_app (A := A) (fun i hi => ?_) ?_⟩
    · have := h1 (i + 1) (by simpa using hi)
      rw [show k + (i + 1) = k + 1 + i by omega] at this
      simpa using this
    · rw [show k + 1 + A.length = k + (x :: A).length by simp; omega]; exact h2
theorem weakH_fam {n k : Nat} {h : LH} {F : Nat → Nat × LO} {post : List (Nat × LO)} (h1 : ∀ i, i < 16 → h.f (k + i) = F i ∧ belowO n (F i).2) (h2 : weakH n h (k + 16) post) : weakH n h k (fam F ++ post) := by
  refine weakH_app (fun i hi => ?_) (by rw [fam_len]; exact h2)
  rw [fam_len] at hi
  have := fam_lo F [] hi (0, .dead)
  rw [List.append_nil] at this
  rw [this]; exact h1 i hi
theorem slv_allC {n to m j N : Nat} (h : j + 6 < N ∨ 2 * n ≤ j) : belowC N (slv n to m j) := by
  unfold slv
  split
  · trivial
  · rename_i h0
    rcases h with h | h
    · exact h
    · exact absurd (by unfold cnt; rw [if_pos h]) h0
theorem heap6 {a b c d e f : Nat × LO} {F : Nat → Nat × LO} {post : List (Nat × LO)} {i : Nat} (hi : i < 16) : (mkH (a :: b :: c :: d :: e :: f :: (fam F ++ post))).f (6 + i) = F i := by
  rw [Nat.add_comm]; exact fam_lo F post hi _
theorem heap22 {a b c d e f : Nat × LO} {F : Nat → Nat × LO} {post : List (Nat × LO)} (j : Nat) : (mkH (a :: b :: c :: d :: e :: f :: (fam F ++ post))).f (j + 22) = post.getD j (0, .dead) := fam_hi F post j _
theorem heapN {a b c d e f : Nat × LO} {F : Nat → Nat × LO} {post : List (Nat × LO)} : (mkH (a :: b :: c :: d :: e :: f :: (fam F ++ post))).n = post.length + 22 := by
  show (a :: b :: c :: d :: e :: f :: (fam F ++ post)).length = _
  simp [fam]; omega
theorem roTo2_box {h : LH} {k ver : Nat} {cs ds : List LV} (hk : k < h.n) (hv : h.f k = (ver, .box cs)) (hl : roToL h cs ds) : roTo2 h (.ptr k ver 0 0 0) (.rptr ds) := by
  refine ⟨hk, by rw [hv], rfl, rfl, rfl, ?_⟩
  rw [hv]; exact hl
theorem roCaps {p : Pl} {l R F : List Int} {up : List Bool} {d e f : Nat × LO} {G : Nat → Nat × LO} {x : Nat × LO} : let h := mkH ((0, LO.box [.rsl 3 p.ns.length (ndsF p.ns), .rsl 6 p.cs.length (cbsF p.cs)]) :: (0, .box [.rsl 1 l.length (intsF l)]) :: (0, .box [.rsl 1 up.length (boolsF up)]) :: d :: e :: f :: (fam G ++ [(0, .box [.rsl 1 p.ns.length (intsF R)]), (0, .box [.rsl 1 p.ns.length (intsF F)]), x]))
    roTo2 h (.ptr 0 0 0 0 0) (.rptr [.rsl 3 p.ns.length (ndsF p.ns), .rsl 6 p.cs.length (cbsF p.cs)]) ∧ roTo2 h (.ptr 2 0 0 0 0) (.rptr [.rsl 1 up.length (boolsF up)]) ∧ roTo2 h (.ptr 1 0 0 0 0) (.rptr [.rsl 1 l.length (intsF l)]) ∧ roTo2 h (.ptr 22 0 0 0 0) (.rptr [.rsl 1 p.ns.length (intsF R)]) ∧ roTo2 h (.ptr 23 0 0 0 0) (.rptr [.rsl 1 p.ns.length (intsF F)]) := by
  intro h
  have hn : h.n = 25 := heapN
  exact ⟨roTo2_box (by omega) rfl ⟨⟨rfl, trivial⟩, ⟨rfl, trivial⟩, trivial⟩, roTo2_box (by omega) rfl ⟨⟨rfl, trivial⟩, trivial⟩, roTo2_box (by omega) rfl ⟨⟨rfl, trivial⟩, trivial⟩, roTo2_box (by omega) (heap22 0) ⟨⟨rfl, trivial⟩, trivial⟩, roTo2_box (by omega) (heap22 1) ⟨⟨rfl, trivial⟩, trivial⟩⟩
theorem nxt_at (n to u q : Nat) (hu : u < n) (hq : q < 2) : cnt n to (2 * u + q) (2 * u + q) = to := by
  unfold cnt; rw [if_neg (by omega), if_neg (by omega)]
theorem nxt_all {n to m N : Nat} (h8 : n ≤ 8) (hN : 22 ≤ N) : ∀ i, i < n → allC N (List.take 2 (nxtF n to m i)) := by
  intro i hi
  exact ⟨slv_allC (.inl (by omega)), slv_allC (.inl (by omega)), trivial⟩
theorem dL_get19 {n : Nat} {l : List Int} {cs : List Cb} {up : List Bool} {to : Int} {b : Bool} {y : Int} (hy : inN n y) : dS n l cs up to (y, b) = (dL n l cs up to b n).getD y.toNat 0 := by
  unfold inN at hy
  unfold dL
  rw [List.getD_eq_getElem?_getD, List.getElem?_map, List.getElem?_range (by omega)]
  show _ = dS n l cs up to (((y.toNat : Nat) : Int), b)
  rw [show ((y.toNat : Nat) : Int) = y by omega]
theorem ren_zero (p : Pl) (l : List Int) (up : List Bool) : RenOk 0 id (mkH [(0, .box [.rsl 3 p.ns.length (ndsF p.ns), .rsl 6 p.cs.length (cbsF p.cs)]), (0, .box [.rsl 1 l.length (intsF l)]), (0, .box [.rsl 1 up.length (boolsF up)]), (0, .box [.nsl]), (0, .row 2 p.ns.length fun _ => [.nsl, .nsl]), (0, .box [.sl 4 0 2 0 p.ns.length])])
    (mkH ((0, .box [.rsl 3 p.ns.length (ndsF p.ns), .rsl 6 p.cs.length (cbsF p.cs)]) :: (0, .box [.rsl 1 l.length (intsF l)]) :: (0, .box [.rsl 1 up.length (boolsF up)]) :: (0, .box [.nsl]) :: (0, .row 2 p.ns.length (nxtF p.ns.length 0 (0))) :: (0, .box [.sl 4 0 2 0 p.ns.length]) :: (fam (famF p l up 0 (0)) ++ []))) := by
  have hf : ∀ k, 6 ≤ k → ((mkH ((0, .box [.rsl 3 p.ns.length (ndsF p.ns), .rsl 6 p.cs.length (cbsF p.cs)]) :: (0, .box [.rsl 1 l.length (intsF l)]) :: (0, .box [.rsl 1 up.length (boolsF up)]) :: (0, .box [.nsl]) :: (0, .row 2 p.ns.length (nxtF p.ns.length 0 (0))) :: (0, .box [.sl 4 0 2 0 p.ns.length]) :: (fam (famF p l up 0 (0)) ++ []))).f k).2.live = false := by
    intro k hk
    obtain ⟨j, rfl⟩ := Nat.exists_eq_add_of_le' hk
    show (((fam (famF p l up 0 0)) ++ []).getD j (0, .dead)).2.live = false
    by_cases h : j < 16
    · rw [fam_lo _ _ h, famF_zero]; rfl
    · rw [List.getD_eq_getElem?_getD, List.getElem?_eq_none (by simp [fam]; omega)]; rfl
  refine ⟨Nat.zero_le _, fun k hk => absurd hk (Nat.not_lt_zero _), fun k hk hl => ?_, fun k j hk hj _ _ h => h⟩
  by_cases h6 : 6 ≤ k
  · rw [hf k h6] at hl; simp at hl
  have : k = 0 ∨ k = 1 ∨ k = 2 ∨ k = 3 ∨ k = 4 ∨ k = 5 := by omega
  rcases this with rfl | rfl | rfl | rfl | rfl | rfl
  · exact ⟨by simp [mkH], rfl, ⟨rfl, trivial⟩, ⟨rfl, trivial⟩, trivial⟩
  · exact ⟨by simp [mkH], rfl, ⟨rfl, trivial⟩, trivial⟩
  · exact ⟨by simp [mkH], rfl, ⟨rfl, trivial⟩, trivial⟩
  · exact ⟨by simp [mkH], rfl, ⟨rfl, trivial⟩, trivial⟩
  · refine ⟨by simp [mkH], rfl, rfl, rfl, fun i hi => ?_⟩
    show renCl _ _ _ [LV.nsl, .nsl] (nxtF p.ns.length 0 0 i)
    rw [nxtF_zero]
    exact ⟨⟨rfl, trivial⟩, ⟨rfl, trivial⟩, trivial⟩
  · exact ⟨by simp [mkH], rfl, ⟨⟨rfl, by simp [mkH], by simp [mkH], rfl⟩, rfl, rfl, rfl, rfl⟩, trivial⟩
theorem cnt_other {n to m j : Nat} (h : j ≠ m) : cnt n to (m + 1) j = cnt n to m j := by
  unfold cnt
  by_cases h1 : 2 * n ≤ j
  · rw [if_pos h1, if_pos h1]
  · rw [if_neg h1, if_neg h1]
    by_cases h2 : j < m
    · rw [if_pos h2, if_pos (by omega)]
    · rw [if_neg h2, if_neg (by omega)]
theorem cnt_new {n to m : Nat} (h : m < 2 * n) : cnt n to (m + 1) m = to + 1 := by
  unfold cnt; rw [if_neg (by omega), if_pos (by omega)]
theorem famF_other {p : Pl} {l : List Int} {up : List Bool} {to m j : Nat} (h : j ≠ m) : famF p l up to (m + 1) j = famF p l up to m j := by
  unfold famF; rw [cnt_other h]
theorem famF_new {p : Pl} {l : List Int} {up : List Bool} {to m : Nat} (h : m < 2 * p.ns.length) : famF p l up to (m + 1) m = (to, .ints (rowE p l up (m / 2) (phB m) (to + 1))) := by
  unfold famF; rw [cnt_new h, if_neg (by omega), Nat.add_sub_cancel]
theorem slv_ren {σ : Nat → Nat} {h h' : LH} {n to m j : Nat} (hj : j ≠ m) (hk : cnt n to m j ≠ 0 → kOk σ h h' (j + 6) (j + 6)) : renC σ h h' (slv n to m j) (slv n to (m + 1) j) := by
  unfold slv
  rw [cnt_other hj]
  by_cases h0 : cnt n to m j = 0
  · rw [if_pos h0]; exact ⟨rfl, trivial⟩
  · rw [if_neg h0]; exact ⟨hk h0, rfl, rfl, rfl, rfl⟩
theorem ren_step {p : Pl} {l R F : List Int} {up : List Bool} (h8 : p.ns.length ≤ 8) {to m T : Nat} (hm : m < 2 * p.ns.length) (hT : T = 24 ∨ T = m + 6) {h : LH} (hn : 24 ≤ h.n) (hTn : T < h.n)
    (q0 : h.f 0 = (0, .box [.rsl 3 p.ns.length (ndsF p.ns), .rsl 6 p.cs.length (cbsF p.cs)])) (q1 : h.f 1 = (0, .box [.rsl 1 l.length (intsF l)])) (q2 : h.f 2 = (0, .box [.rsl 1 up.length (boolsF up)])) (q3 : h.f 3 = (0, .box [.nsl])) (q5 : h.f 5 = (0, .box [.sl 4 0 2 0 p.ns.length])) (q22 : h.f 22 = (0, .box [.rsl 1 p.ns.length (intsF R)])) (q23 : h.f 23 = (0, .box [.rsl 1 p.ns.length (intsF F)]))
    {f : Nat → List LV} (q4 : h.f 4 = (0, .row 2 p.ns.length f)) (hf : ∀ i, i < p.ns.length → f i = [if 2 * i = m then .sl T to 1 0 (to + 1) else slv p.ns.length to m (2 * i), if 2 * i + 1 = m then .sl T to 1 0 (to + 1) else slv p.ns.length to m (2 * i + 1)])
    (hfam : ∀ j, j < 16 → j ≠ m → h.f (j + 6) = famF p l up to m j) (hnew : h.f T = famF p l up to (m + 1) m) :
    let h' := mkH ((0, .box [.rsl 3 p.ns.length (ndsF p.ns), .rsl 6 p.cs.length (cbsF p.cs)]) :: (0, .box [.rsl 1 l.length (intsF l)]) :: (0, .box [.rsl 1 up.length (boolsF up)]) :: (0, .box [.nsl]) :: (0, .row 2 p.ns.length (nxtF p.ns.length to (m + 1))) :: (0, .box [.sl 4 0 2 0 p.ns.length]) :: (fam (famF p l up to (m + 1)) ++ [(0, .box [.rsl 1 p.ns.length (intsF R)]), (0, .box [.rsl 1 p.ns.length (intsF F)])]))
    RenOk 0 (fun k => if k = m + 6 then T else k) h h' ∧ ∀ k, (k < 6 ∨ k = 22 ∨ k = 23) → kOk (fun k => if k = m + 6 then T else k) h h' k k := by
  intro h'
  have hn' : h'.n = 24 := heapN
  have g4 : h'.f 4 = (0, .row 2 p.ns.length (nxtF p.ns.length to (m + 1))) := rfl
  have gf : ∀ j, j < 16 → h'.f (j + 6) = famF p l up to (m + 1) j := fun j hj => by rw [Nat.add_comm]; exact heap6 hj
  have g22 : h'.f 22 = (0, .box [.rsl 1 p.ns.length (intsF R)]) := heap22 0
  have g23 : h'.f 23 = (0, .box [.rsl 1 p.ns.length (intsF F)]) := heap22 1
  have hK : ∀ k, (k < 6 ∨ k = 22 ∨ k = 23) → kOk (fun k => if k = m + 6 then T else k) h h' k k := by
    intro k hk
    refine ⟨?_, by omega, by omega, ?_⟩
    · show k = if k = m + 6 then T else k
      rw [if_neg (by omega)]
    · have : k = 0 ∨ k = 1 ∨ k = 2 ∨ k = 3 ∨ k = 4 ∨ k = 5 ∨ k = 22 ∨ k = 23 := by omega
      rcases this with rfl | rfl | rfl | rfl | rfl | rfl | rfl | rfl
      · rw [q0]; rfl
      · rw [q1]; rfl
      · rw [q2]; rfl
      · rw [q3]; rfl
      · rw [q4, g4]
      · rw [q5]; rfl
      · rw [q22, g22]
      · rw [q23, g23]
  have hS : ∀ j, j < 16 → j ≠ m → kOk (fun k => if k = m + 6 then T else k) h h' (j + 6) (j + 6) := by
    intro j hj hne
    refine ⟨?_, by omega, by omega, ?_⟩
    · show j + 6 = if j + 6 = m + 6 then T else j + 6
      rw [if_neg (by omega)]
    · rw [gf j hj, hfam j hj hne, famF_other hne]
  have hM : kOk (fun k => if k = m + 6 then T else k) h h' T (m + 6) := by
    refine ⟨?_, by omega, hTn, ?_⟩
    · show T = if m + 6 = m + 6 then T else m + 6
      rw [if_pos rfl]
    · rw [gf m (by omega), hnew]
  have hEl : ∀ j, j < 16 → renC (fun k => if k = m + 6 then T else k) h h' (if j = m then .sl T to 1 0 (to + 1) else slv p.ns.length to m j) (slv p.ns.length to (m + 1) j) := by
    intro j hj
    by_cases e : j = m
    · subst e
      rw [if_pos rfl]
      unfold slv
      rw [cnt_new hm, if_neg (by omega), Nat.add_sub_cancel]
      exact ⟨hM, rfl, rfl, rfl, rfl⟩
    · rw [if_neg e]
      exact slv_ren e fun _ => hS j hj e
  refine ⟨⟨Nat.zero_le _, fun k hk => absurd hk (Nat.not_lt_zero _), fun k hk hl => ?_, fun k j hk hj _ _ he => ?_⟩, hK⟩
  · have hk24 : k < 24 := by omega
    by_cases h6 : k < 6 ∨ k = 22 ∨ k = 23
    · show (if k = m + 6 then T else k) < h.n ∧ (h'.f k).1 = (h.f (if k = m + 6 then T else k)).1 ∧ renO _ h h' (h.f (if k = m + 6 then T else k)).2 (h'.f k).2
      rw [if_neg (by omega)]
      refine ⟨by omega, (hK k h6).2.2.2, ?_⟩
      have : k = 0 ∨ k = 1 ∨ k = 2 ∨ k = 3 ∨ k = 4 ∨ k = 5 ∨ k = 22 ∨ k = 23 := by omega
      rcases this with rfl | rfl | rfl | rfl | rfl | rfl | rfl | rfl
      · rw [q0]; exact ⟨⟨rfl, trivial⟩, ⟨rfl, trivial⟩, trivial⟩
      · rw [q1]; exact ⟨⟨rfl, trivial⟩, trivial⟩
      · rw [q2]; exact ⟨⟨rfl, trivial⟩, trivial⟩
      · rw [q3]; exact ⟨⟨rfl, trivial⟩, trivial⟩
      · rw [q4, g4]
        refine ⟨rfl, rfl, fun i hi => ?_⟩
        rw [hf i hi]
        exact ⟨hEl (2 * i) (by omega), hEl (2 * i + 1) (by omega), trivial⟩
      · rw [q5]; exact ⟨⟨hK 4 (by omega), rfl, rfl, rfl, rfl⟩, trivial⟩
      · rw [q22, g22]; exact ⟨⟨rfl, trivial⟩, trivial⟩
      · rw [q23, g23]; exact ⟨⟨rfl, trivial⟩, trivial⟩
    · obtain ⟨j, rfl⟩ : ∃ j, k = j + 6 := ⟨k - 6, by omega⟩
      have hj : j < 16 := by omega
      rw [gf j hj] at hl ⊢
      by_cases e : j = m
      · subst e
        show (if j + 6 = j + 6 then T else j + 6) < h.n ∧ _ = (h.f (if j + 6 = j + 6 then T else j + 6)).1 ∧ renO _ h h' (h.f (if j + 6 = j + 6 then T else j + 6)).2 _
        rw [if_pos rfl, hnew, famF_new hm]
        exact ⟨hTn, rfl, rfl⟩
      · show (if j + 6 = m + 6 then T else j + 6) < h.n ∧ _ = (h.f (if j + 6 = m + 6 then T else j + 6)).1 ∧ renO _ h h' (h.f (if j + 6 = m + 6 then T else j + 6)).2 _
        rw [if_neg (by omega), hfam j hj e, famF_other e]
        refine ⟨by omega, rfl, ?_⟩
        rw [famF_other e] at hl
        unfold famF at hl ⊢
        split
        · rename_i h0; rw [if_pos h0] at hl; simp [LO.live] at hl
        · rfl
  · have hk24 : k < 24 := by omega
    have hj24 : j < 24 := by omega
    have he' : (if k = m + 6 then T else k) = (if j = m + 6 then T else j) := he
    by_cases a : k = m + 6
    · rw [if_pos a] at he'
      by_cases b : j = m + 6
      · omega
      · rw [if_neg b] at he'; omega
    · rw [if_neg a] at he'
      by_cases b : j = m + 6
      · rw [if_pos b] at he'; omega
      · rw [if_neg b] at he'; exact he'
theorem nxt_set0 (n to u T v : Nat) (i : Nat) : (if i = u then (nxtF n to (2 * u) u).set 0 (.sl T v 1 0 (to + 1)) else nxtF n to (2 * u) i) = [if 2 * i = 2 * u then .sl T v 1 0 (to + 1) else slv n to (2 * u) (2 * i), if 2 * i + 1 = 2 * u then .sl T v 1 0 (to + 1) else slv n to (2 * u) (2 * i + 1)] := by
  by_cases e : i = u
  · subst e
    rw [if_pos rfl, if_pos rfl, if_neg (by omega)]; rfl
  · rw [if_neg e, if_neg (by omega), if_neg (by omega)]; rfl
theorem nxt_set1 (n to u T v : Nat) (i : Nat) : (if i = u then (nxtF n to (2 * u + 1) u).set 1 (.sl T v 1 0 (to + 1)) else nxtF n to (2 * u + 1) i) = [if 2 * i = 2 * u + 1 then .sl T v 1 0 (to + 1) else slv n to (2 * u + 1) (2 * i), if 2 * i + 1 = 2 * u + 1 then .sl T v 1 0 (to + 1) else slv n to (2 * u + 1) (2 * i + 1)] := by
  by_cases e : i = u
  · subst e
    rw [if_pos rfl, if_neg (by omega), if_pos rfl]; rfl
  · rw [if_neg e, if_neg (by omega), if_neg (by omega)]; rfl
theorem roTo_list {p : Pl} {l : List Int} {up : List Bool} (h8 : p.ns.length ≤ 8) {a b c d e f : Nat × LO} {j : Nat} (hj : j < 2 * p.ns.length) :
    roTo1 (mkH (a :: b :: c :: d :: e :: f :: (fam (famF p l up p.ns.length 0) ++ []))) (slv p.ns.length p.ns.length 0 j) (intsV (rowE p l up (j / 2) (phB j) p.ns.length)) := by
  have hc : cnt p.ns.length p.ns.length 0 j = p.ns.length := by unfold cnt; rw [if_neg (by omega), if_neg (by omega)]
  have hf : (mkH (a :: b :: c :: d :: e :: f :: (fam (famF p l up p.ns.length 0) ++ []))).f (j + 6) = (p.ns.length - 1, .ints (rowE p l up (j / 2) (phB j) p.ns.length)) := by
    rw [Nat.add_comm j 6, heap6 (by omega)]
    unfold famF; rw [hc, if_neg (by omega)]
  have hl := rowE_len p l up (j / 2) (phB j) p.ns.length
  unfold slv intsV
  rw [hc, if_neg (by omega)]
  refine ⟨rfl, hl, ?_, by rw [hf], ?_, fun i hi => ?_⟩
  · rw [heapN]; simp; omega
  · rw [hf]; exact ⟨rfl, by rw [hl]; omega⟩
  · rw [hf, Nat.zero_add]; exact ⟨rfl, trivial, trivial⟩
theorem renS_make {σ : Nat → Nat} {h h' : LH} {s : LS} {fc : FuncId} {a9 a38 a39 a58 a14 a59 a82 e0 e1 : Value} (hK : ∀ k, (k < 6 ∨ k = 22 ∨ k = 23) → kOk σ h h' k k) (s3 : s 3 = .ptr 0 0 0 0 0) (s4 : s 4 = .ptr 1 0 0 0 0) (s5 : s 5 = .ptr 2 0 0 0 0) (s6 : s 6 = .ptr 3 0 0 0 0) (s8 : s 8 = .ptr 5 0 0 0 0) (s10 : s 10 = .ptr 22 0 0 0 0) (s11 : s 11 = .ptr 23 0 0 0 0) (s9 : s 9 = .sc a9) (s13 : s 13 = .fn fc [.ptr 0 0 0 0 0, .ptr 2 0 0 0 0, .ptr 1 0 0 0 0, .ptr 22 0 0 0 0, .ptr 23 0 0 0 0]) (s38 : s 38 = .sc a38) (s39 : s 39 = .sc a39) (s58 : s 58 = .sc a58) (s14 : s 14 = .sc a14) (s59 : s 59 = .sc a59) (s81 : s 81 = .agg [.sc e0, .sc e1]) (s82 : s 82 = .sc a82) :
    renS σ h h' s [(3, .ptr 0 0 0 0 0), (4, .ptr 1 0 0 0 0), (5, .ptr 2 0 0 0 0), (6, .ptr 3 0 0 0 0), (8, .ptr 5 0 0 0 0), (9, .sc a9), (10, .ptr 22 0 0 0 0), (11, .ptr 23 0 0 0 0), (13, .fn fc [.ptr 0 0 0 0 0, .ptr 2 0 0 0 0, .ptr 1 0 0 0 0, .ptr 22 0 0 0 0, .ptr 23 0 0 0 0]), (38, .sc a38), (39, .sc a39), (58, .sc a58), (14, .sc a14), (59, .sc a59), (81, .agg [.sc e0, .sc e1]), (82, .sc a82)] := by
  have P : ∀ k, (k < 6 ∨ k = 22 ∨ k = 23) → renB σ h h' (.ptr k 0 0 0 0) (.ptr k 0 0 0 0) := fun k hk => ⟨hK k hk, rfl, rfl, rfl, rfl⟩
  unfold renS
  refine ⟨by rw [s3]; exact P 0 (by omega), by rw [s4]; exact P 1 (by omega), by rw [s5]; exact P 2 (by omega), by rw [s6]; exact P 3 (by omega), by rw [s8]; exact P 5 (by omega), by rw [s9]; exact ⟨rfl, trivial⟩, by rw [s10]; exact P 22 (by omega), by rw [s11]; exact P 23 (by omega),
    by rw [s13]; exact ⟨rfl, P 0 (by omega), P 2 (by omega), P 1 (by omega), P 22 (by omega), P 23 (by omega), trivial⟩, by rw [s38]; exact ⟨rfl, trivial⟩, by rw [s39]; exact ⟨rfl, trivial⟩, by rw [s58]; exact ⟨rfl, trivial⟩, by rw [s14]; exact ⟨rfl, trivial⟩, by rw [s59]; exact ⟨rfl, trivial⟩, by rw [s81]; exact ⟨⟨rfl, trivial⟩, ⟨rfl, trivial⟩, trivial⟩, by rw [s82]; exact ⟨rfl, trivial⟩, trivial⟩
theorem ev_make (p : Pl) (hp : PlOk p) (l : List Int) (up : List Bool) (h8 : p.ns.length ≤ 8) : Ev Tryd.prog 13 [plV p, .agg [intsV l], boolsV up] (.tup [tabV (makeE p l up).1, .sc (.int .i64 (makeE p l up).2)]) := by
  have h1 := ev_ordValid p hp l
  have h2 := fun to => ev_Dist p hp l up to
  have h3 := fun hv hup => ev_choose p hv l up hup
  unfold tabV
  unfold plV boolsV intsV at *
  refine ev_fnD Tryd.func13 comp13 (show 3 ≤ Tryd.f13.ntmps by decide) ?_
  unfold cf13 rf13
  simp only [↓EVP0, EVQ0, EVQ1, EVQ2, EVQ3, EVQ4, EVA, EVK, EVFN, ↓reduceIte, Nat.reduceEqDiff, Nat.reduceAdd, Nat.reduceSub, Nat.reduceMul, Nat.reduceLT, Nat.reduceLeDiff, reduceCtorEq, Int.reduceToNat, Int.reduceLT, Int.reduceLE, Int.reduceAdd, Int.reduceSub, Int.reduceMul, Int.reduceNeg, Int.reduceEq, Nat.reduceMod, forall_eq_or_imp, forall_eq, forall_const, cond_true, cond_false, decide_true, decide_false, true_imp_iff, implies_true, Int.cast_ofNat_Int, forall_eq']
  refine callK_ro (h1) ?_ ?_
  · simp only [↓EVP0, EVQ0, EVQ1, EVQ2, EVQ3, EVQ4, EVA, EVK, EVFN, ↓reduceIte, Nat.reduceEqDiff, Nat.reduceAdd, Nat.reduceSub, Nat.reduceMul, Nat.reduceLT, Nat.reduceLeDiff, reduceCtorEq, Int.reduceToNat, Int.reduceLT, Int.reduceLE, Int.reduceAdd, Int.reduceSub, Int.reduceMul, Int.reduceNeg, Int.reduceEq, Nat.reduceMod, forall_eq_or_imp, forall_eq, forall_const, cond_true, cond_false, decide_true, decide_false, true_imp_iff, implies_true, Int.cast_ofNat_Int, forall_eq']
  simp only [↓EVP0, EVQ0, EVQ1, EVQ2, EVQ3, EVQ4, EVA, EVK, EVFN, ↓reduceIte, Nat.reduceEqDiff, Nat.reduceAdd, Nat.reduceSub, Nat.reduceMul, Nat.reduceLT, Nat.reduceLeDiff, reduceCtorEq, Int.reduceToNat, Int.reduceLT, Int.reduceLE, Int.reduceAdd, Int.reduceSub, Int.reduceMul, Int.reduceNeg, Int.reduceEq, Nat.reduceMod, forall_eq_or_imp, forall_eq, forall_const, cond_true, cond_false, decide_true, decide_false, true_imp_iff, implies_true, Int.cast_ofNat_Int, forall_eq']
  refine ⟨fun hg => ?_, fun hg _ => ⟨by unfold mksC; omega, ?_⟩⟩
  · have e : makeE p l up = ([], 1) := by
      unfold makeE
      rw [if_neg]
      rintro ⟨a, b⟩
      rw [a, decide_eq_true (show (up.length : Int) = p.cs.length by omega)] at hg; simp at hg
    rw [e]
    unfold finD
    simp only [↓EVP0, EVQ0, EVQ1, EVQ2, EVQ3, EVQ4, EVA, EVK, EVFN, ↓reduceIte, Nat.reduceEqDiff, Nat.reduceAdd, Nat.reduceSub, Nat.reduceMul, Nat.reduceLT, Nat.reduceLeDiff, reduceCtorEq, Int.reduceToNat, Int.reduceLT, Int.reduceLE, Int.reduceAdd, Int.reduceSub, Int.reduceMul, Int.reduceNeg, Int.reduceEq, Nat.reduceMod, forall_eq_or_imp, forall_eq, forall_const, cond_true, cond_false, decide_true, decide_false, true_imp_iff, implies_true, Int.cast_ofNat_Int, forall_eq']
    exact ⟨⟨rfl, trivial⟩, ⟨rfl, trivial⟩, trivial⟩
  have e1 : ordB p l = true := by
    cases h : ordB p l
    · rw [h] at hg; simp at hg
    · rfl
  have e2 : up.length = p.cs.length := by
    by_cases h : (up.length : Int) = p.cs.length
    · omega
    · rw [e1, decide_eq_false h] at hg; simp at hg
  have e3 : makeE p l up = (makeT p l up, 0) := by unfold makeE; rw [if_pos ⟨e1, e2⟩]
  have hO := ord_of e1
  rw [e3]
  refine lwp_ren (α := Unit) (fun _ => True) (fun _ => [(3, .ptr 0 0 0 0 0), (4, .ptr 1 0 0 0 0), (5, .ptr 2 0 0 0 0), (6, .ptr 3 0 0 0 0), (8, .ptr 5 0 0 0 0), (38, .sc (.int .i64 p.ns.length)), (39, .sc (.int .i64 0))]) (fun _ => (0, .box [.rsl 3 p.ns.length (ndsF p.ns), .rsl 6 p.cs.length (cbsF p.cs)]) :: (0, .box [.rsl 1 l.length (intsF l)]) :: (0, .box [.rsl 1 up.length (boolsF up)]) :: (0, .box [.nsl]) :: (0, .row 2 p.ns.length (nxtF p.ns.length 0 (0))) :: (0, .box [.sl 4 0 2 0 p.ns.length]) :: (fam (famF p l up 0 (0)) ++ [])) ?_ ?_
  · simp only [↓EVP0, EVQ0, EVQ1, EVQ2, EVQ3, EVQ4, EVA, EVK, EVFN, ↓reduceIte, Nat.reduceEqDiff, Nat.reduceAdd, Nat.reduceSub, Nat.reduceMul, Nat.reduceLT, Nat.reduceLeDiff, reduceCtorEq, Int.reduceToNat, Int.reduceLT, Int.reduceLE, Int.reduceAdd, Int.reduceSub, Int.reduceMul, Int.reduceNeg, Int.reduceEq, Nat.reduceMod, forall_eq_or_imp, forall_eq, forall_const, cond_true, cond_false, decide_true, decide_false, true_imp_iff, implies_true, Int.cast_ofNat_Int, forall_eq']
    refine fun _ => ⟨(), id, ren_zero p l up, ?_⟩
    simp only [renS, ↓EVP0, EVQ0, EVQ1, EVQ2, EVQ3, EVQ4, EVA, EVK, EVFN, ↓reduceIte, Nat.reduceEqDiff, Nat.reduceAdd, Nat.reduceSub, Nat.reduceMul, Nat.reduceLT, Nat.reduceLeDiff, reduceCtorEq, Int.reduceToNat, Int.reduceLT, Int.reduceLE, Int.reduceAdd, Int.reduceSub, Int.reduceMul, Int.reduceNeg, Int.reduceEq, Nat.reduceMod, forall_eq_or_imp, forall_eq, forall_const, cond_true, cond_false, decide_true, decide_false, true_imp_iff, implies_true, Int.cast_ofNat_Int, forall_eq']
    exact ⟨⟨⟨rfl, by simp [mkH], by simp [mkH], rfl⟩, rfl, rfl, rfl, rfl⟩, ⟨⟨rfl, by simp [mkH], by simp [mkH], rfl⟩, rfl, rfl, rfl, rfl⟩, ⟨⟨rfl, by simp [mkH], by simp [mkH], rfl⟩, rfl, rfl, rfl, rfl⟩, ⟨⟨rfl, by simp [mkH], by simp [mkH], rfl⟩, rfl, rfl, rfl, rfl⟩, ⟨⟨rfl, by simp [mkH], by simp [mkH], rfl⟩, rfl, rfl, rfl, rfl⟩, ⟨rfl, trivial⟩, ⟨rfl, trivial⟩⟩
  intro _ _
  simp only [↓EVP0, EVQ0, EVQ1, EVQ2, EVQ3, EVQ4, EVA, EVK, EVFN, ↓reduceIte, Nat.reduceEqDiff, Nat.reduceAdd, Nat.reduceSub, Nat.reduceMul, Nat.reduceLT, Nat.reduceLeDiff, reduceCtorEq, Int.reduceToNat, Int.reduceLT, Int.reduceLE, Int.reduceAdd, Int.reduceSub, Int.reduceMul, Int.reduceNeg, Int.reduceEq, Nat.reduceMod, forall_eq_or_imp, forall_eq, forall_const, cond_true, cond_false, decide_true, decide_false, true_imp_iff, implies_true, Int.cast_ofNat_Int, forall_eq']
  refine lwp_for (α := Unit) p.ns.length (fun _ _ => True) (fun to _ => [(3, .ptr 0 0 0 0 0), (4, .ptr 1 0 0 0 0), (5, .ptr 2 0 0 0 0), (6, .ptr 3 0 0 0 0), (8, .ptr 5 0 0 0 0), (38, .sc (.int .i64 p.ns.length)), (39, .sc (.int .i64 to))])
    (fun to _ => (0, .box [.rsl 3 p.ns.length (ndsF p.ns), .rsl 6 p.cs.length (cbsF p.cs)]) :: (0, .box [.rsl 1 l.length (intsF l)]) :: (0, .box [.rsl 1 up.length (boolsF up)]) :: (0, .box [.nsl]) :: (0, .row 2 p.ns.length (nxtF p.ns.length to (0))) :: (0, .box [.sl 4 0 2 0 p.ns.length]) :: (fam (famF p l up to (0)) ++ [])) () trivial ?_ (fun _ _ => Nat.zero_le _) ?_
  · simp only [↓EVP0, EVQ0, EVQ1, EVQ2, EVQ3, EVQ4, EVA, EVK, EVFN, ↓reduceIte, Nat.reduceEqDiff, Nat.reduceAdd, Nat.reduceSub, Nat.reduceMul, Nat.reduceLT, Nat.reduceLeDiff, reduceCtorEq, Int.reduceToNat, Int.reduceLT, Int.reduceLE, Int.reduceAdd, Int.reduceSub, Int.reduceMul, Int.reduceNeg, Int.reduceEq, Nat.reduceMod, forall_eq_or_imp, forall_eq, forall_const, cond_true, cond_false, decide_true, decide_false, true_imp_iff, implies_true, Int.cast_ofNat_Int, forall_eq']
    exact ⟨nxt_all h8 (by omega), weakH_fam (fun i hi => ⟨heap6 hi, famF_below _ _ _ _ _ _ _⟩) trivial⟩
  intro to _ hto _
  unfold lb13_2
  simp only [↓EVP0, EVQ0, EVQ1, EVQ2, EVQ3, EVQ4, EVA, EVK, EVFN, ↓reduceIte, Nat.reduceEqDiff, Nat.reduceAdd, Nat.reduceSub, Nat.reduceMul, Nat.reduceLT, Nat.reduceLeDiff, reduceCtorEq, Int.reduceToNat, Int.reduceLT, Int.reduceLE, Int.reduceAdd, Int.reduceSub, Int.reduceMul, Int.reduceNeg, Int.reduceEq, Nat.reduceMod, forall_eq_or_imp, forall_eq, forall_const, cond_true, cond_false, decide_true, decide_false, true_imp_iff, implies_true, Int.cast_ofNat_Int, forall_eq']
  refine ⟨fun hg2 => ?_, fun hg2 => ?_⟩
  rotate_left
  · have hto2 : to = p.ns.length := by have := of_decide_eq_false hg2; omega
    unfold finD
    simp only [↓EVP0, EVQ0, EVQ1, EVQ2, EVQ3, EVQ4, EVA, EVK, EVFN, ↓reduceIte, Nat.reduceEqDiff, Nat.reduceAdd, Nat.reduceSub, Nat.reduceMul, Nat.reduceLT, Nat.reduceLeDiff, reduceCtorEq, Int.reduceToNat, Int.reduceLT, Int.reduceLE, Int.reduceAdd, Int.reduceSub, Int.reduceMul, Int.reduceNeg, Int.reduceEq, Nat.reduceMod, forall_eq_or_imp, forall_eq, forall_const, cond_true, cond_false, decide_true, decide_false, true_imp_iff, implies_true, Int.cast_ofNat_Int, forall_eq']
    subst hto2
    have hml := makeT_len p l up
    refine ⟨⟨⟨rfl, hml, by rw [heapN]; simp, rfl, ⟨rfl, by omega, fun i hi => rfl⟩, fun i hi => ?_⟩, trivial⟩, ⟨rfl, trivial⟩, trivial⟩
    rw [Nat.zero_add]
    show roToL _ (nxtF p.ns.length p.ns.length 0 i) (tabF (makeT p l up) i)
    unfold tabF
    rw [makeT_get p l up hi]
    have t1 := fun a b c d e f => roTo_list (p := p) (l := l) (up := up) h8 (a := a) (b := b) (c := c) (d := d) (e := e) (f := f) (j := 2 * i) (by omega)
    have t2 := fun a b c d e f => roTo_list (p := p) (l := l) (up := up) h8 (a := a) (b := b) (c := c) (d := d) (e := e) (f := f) (j := 2 * i + 1) (by omega)
    rw [show 2 * i / 2 = i by omega, show phB (2 * i) = false from decide_eq_false (by omega)] at t1
    rw [show (2 * i + 1) / 2 = i by omega, show phB (2 * i + 1) = true from decide_eq_true (by omega)] at t2
    exact ⟨t1 _ _ _ _ _ _, t2 _ _ _ _ _ _, trivial⟩
  have hto2 : to < p.ns.length := by have := of_decide_eq_true hg2; omega
  have hD := h2 to
  rw [show distE p l up to = ((dL p.ns.length l p.cs up to false p.ns.length, dL p.ns.length l p.cs up to true p.ns.length), 0) by
    unfold distE
    rw [if_pos ⟨e1, e2⟩, if_pos (by unfold nodB; rw [decide_eq_true (show (0 : Int) ≤ to by omega), decide_eq_true (show (to : Int) < p.ns.length by omega)]; rfl)]] at hD
  have hRl := dL_len p.ns.length l p.cs up to false p.ns.length
  have hFl := dL_len p.ns.length l p.cs up to true p.ns.length
  have hRg := fun y (hy : inN p.ns.length y) => dL_get19 (l := l) (cs := p.cs) (up := up) (to := to) (b := false) hy
  have hFg := fun y (hy : inN p.ns.length y) => dL_get19 (l := l) (cs := p.cs) (up := up) (to := to) (b := true) hy
  generalize dL p.ns.length l p.cs up to false p.ns.length = R at *
  generalize dL p.ns.length l p.cs up to true p.ns.length = F at *
  rw [hRl, hFl] at hD
  refine callK_ro (hD) ?_ ?_
  · simp only [↓EVP0, EVQ0, EVQ1, EVQ2, EVQ3, EVQ4, EVA, EVK, EVFN, ↓reduceIte, Nat.reduceEqDiff, Nat.reduceAdd, Nat.reduceSub, Nat.reduceMul, Nat.reduceLT, Nat.reduceLeDiff, reduceCtorEq, Int.reduceToNat, Int.reduceLT, Int.reduceLE, Int.reduceAdd, Int.reduceSub, Int.reduceMul, Int.reduceNeg, Int.reduceEq, Nat.reduceMod, forall_eq_or_imp, forall_eq, forall_const, cond_true, cond_false, decide_true, decide_false, true_imp_iff, implies_true, Int.cast_ofNat_Int, forall_eq']
  simp only [↓EVP0, EVQ0, EVQ1, EVQ2, EVQ3, EVQ4, EVA, EVK, EVFN, ↓reduceIte, Nat.reduceEqDiff, Nat.reduceAdd, Nat.reduceSub, Nat.reduceMul, Nat.reduceLT, Nat.reduceLeDiff, reduceCtorEq, Int.reduceToNat, Int.reduceLT, Int.reduceLE, Int.reduceAdd, Int.reduceSub, Int.reduceMul, Int.reduceNeg, Int.reduceEq, Nat.reduceMod, forall_eq_or_imp, forall_eq, forall_const, cond_true, cond_false, decide_true, decide_false, true_imp_iff, implies_true, Int.cast_ofNat_Int, forall_eq']
  intro _
  refine lwp_for (α := Unit) p.ns.length (fun _ _ => True) (fun u _ => [(3, .ptr 0 0 0 0 0), (4, .ptr 1 0 0 0 0), (5, .ptr 2 0 0 0 0), (6, .ptr 3 0 0 0 0), (8, .ptr 5 0 0 0 0), (9, .sc (.int .i64 to)), (10, .ptr 22 0 0 0 0), (11, .ptr 23 0 0 0 0), (13, .fn 38 [.ptr 0 0 0 0 0, .ptr 2 0 0 0 0, .ptr 1 0 0 0 0, .ptr 22 0 0 0 0, .ptr 23 0 0 0 0]), (38, .sc (.int .i64 p.ns.length)), (39, .sc (.int .i64 to)), (58, .sc (.int .i64 p.ns.length)), (59, .sc (.int .i64 u))])
    (fun u _ => (0, .box [.rsl 3 p.ns.length (ndsF p.ns), .rsl 6 p.cs.length (cbsF p.cs)]) :: (0, .box [.rsl 1 l.length (intsF l)]) :: (0, .box [.rsl 1 up.length (boolsF up)]) :: (0, .box [.nsl]) :: (0, .row 2 p.ns.length (nxtF p.ns.length to (2 * u))) :: (0, .box [.sl 4 0 2 0 p.ns.length]) :: (fam (famF p l up to (2 * u)) ++ [(0, .box [.rsl 1 p.ns.length (intsF R)]), (0, .box [.rsl 1 p.ns.length (intsF F)])])) () trivial ?_ (fun _ _ => Nat.zero_le _) ?_
  · simp only [↓EVP0, EVQ0, EVQ1, EVQ2, EVQ3, EVQ4, EVA, EVK, EVFN, ↓reduceIte, Nat.reduceEqDiff, Nat.reduceAdd, Nat.reduceSub, Nat.reduceMul, Nat.reduceLT, Nat.reduceLeDiff, reduceCtorEq, Int.reduceToNat, Int.reduceLT, Int.reduceLE, Int.reduceAdd, Int.reduceSub, Int.reduceMul, Int.reduceNeg, Int.reduceEq, Nat.reduceMod, forall_eq_or_imp, forall_eq, forall_const, cond_true, cond_false, decide_true, decide_false, true_imp_iff, implies_true, Int.cast_ofNat_Int, forall_eq']
    exact ⟨nxt_all h8 (by omega), weakH_fam (fun i hi => ⟨heap6 hi, famF_below _ _ _ _ _ _ _⟩) ⟨rfl, ⟨trivial, trivial⟩, rfl, ⟨trivial, trivial⟩, trivial⟩⟩
  intro u _ hu _
  unfold lb13_1
  simp only [↓EVP0, EVQ0, EVQ1, EVQ2, EVQ3, EVQ4, EVA, EVK, EVFN, ↓reduceIte, Nat.reduceEqDiff, Nat.reduceAdd, Nat.reduceSub, Nat.reduceMul, Nat.reduceLT, Nat.reduceLeDiff, reduceCtorEq, Int.reduceToNat, Int.reduceLT, Int.reduceLE, Int.reduceAdd, Int.reduceSub, Int.reduceMul, Int.reduceNeg, Int.reduceEq, Nat.reduceMod, forall_eq_or_imp, forall_eq, forall_const, cond_true, cond_false, decide_true, decide_false, true_imp_iff, implies_true, Int.cast_ofNat_Int, forall_eq']
  refine ⟨fun hg3 => ?_, fun hg3 => ?_⟩
  rotate_left
  · have hu2 : u = p.ns.length := by have := of_decide_eq_false hg3; omega
    subst hu2
    rw [nxtF_end, famF_end]
    exact ⟨by unfold In64; omega, hto2, (), rfl, nxt_all h8 (by omega), weakH_fam (fun i hi => ⟨heap6 hi, famF_below _ _ _ _ _ _ _⟩) trivial⟩
  have hu2 : u < p.ns.length := by have := of_decide_eq_true hg3; omega
  refine lwp_join (α := Unit) (fun _ => True) (fun _ => [(3, .ptr 0 0 0 0 0), (4, .ptr 1 0 0 0 0), (5, .ptr 2 0 0 0 0), (6, .ptr 3 0 0 0 0), (8, .ptr 5 0 0 0 0), (9, .sc (.int .i64 to)), (10, .ptr 22 0 0 0 0), (11, .ptr 23 0 0 0 0), (13, .fn 38 [.ptr 0 0 0 0 0, .ptr 2 0 0 0 0, .ptr 1 0 0 0 0, .ptr 22 0 0 0 0, .ptr 23 0 0 0 0]), (38, .sc (.int .i64 p.ns.length)), (39, .sc (.int .i64 to)), (58, .sc (.int .i64 p.ns.length)), (14, .sc (.int .i64 u)), (15, .ptr 24 0 0 0 0), (59, .sc (.int .i64 u))]) (fun _ => (0, .box [.rsl 3 p.ns.length (ndsF p.ns), .rsl 6 p.cs.length (cbsF p.cs)]) :: (0, .box [.rsl 1 l.length (intsF l)]) :: (0, .box [.rsl 1 up.length (boolsF up)]) :: (0, .box [.nsl]) :: (0, .row 2 p.ns.length (nxtF p.ns.length to (2 * u))) :: (0, .box [.sl 4 0 2 0 p.ns.length]) :: (fam (famF p l up to (2 * u)) ++ [(0, .box [.rsl 1 p.ns.length (intsF R)]), (0, .box [.rsl 1 p.ns.length (intsF F)]), (0, .box [.sc (.int .i64 (entE p l up u false to)), .sc (.int .i64 (entE p l up u true to))])])) (fun _ => Nat.zero_le _) ?_ ?_
  · simp only [↓EVP0, EVQ0, EVQ1, EVQ2, EVQ3, EVQ4, EVA, EVK, EVFN, ↓reduceIte, Nat.reduceEqDiff, Nat.reduceAdd, Nat.reduceSub, Nat.reduceMul, Nat.reduceLT, Nat.reduceLeDiff, reduceCtorEq, Int.reduceToNat, Int.reduceLT, Int.reduceLE, Int.reduceAdd, Int.reduceSub, Int.reduceMul, Int.reduceNeg, Int.reduceEq, Nat.reduceMod, forall_eq_or_imp, forall_eq, forall_const, cond_true, cond_false, decide_true, decide_false, true_imp_iff, implies_true, Int.cast_ofNat_Int, forall_eq']
    refine ⟨fun hg4 => ⟨⟨by omega, by omega⟩, ?_⟩, fun hg4 => ?_⟩
    · have hne : u ≠ to := by intro h; subst h; rw [decide_eq_true rfl] at hg4; simp at hg4
      have hux : inN p.ns.length (u : Int) := by unfold inN; omega
      have htx : inN p.ns.length (to : Int) := by unfold inN; omega
      have hDF := d_facts (l := l) (cs := p.cs) (up := up) (show p.ns.length ≤ 100 by omega) (valid_of hO.1).cab htx
      have hlow : ∀ s, -1 ≤ dS p.ns.length l p.cs up to s := fun s => by rcases hDF.low s with h | h <;> omega
      have hb : ∀ b, dS p.ns.length l p.cs up to ((u : Int), b) ≤ 1000 := fun b => by rcases hDF.low ((u : Int), b) with h | h <;> omega
      have r0 := hRg u hux
      have f0 := hFg u hux
      rw [Int.toNat_natCast] at r0 f0
      have c1 := h3 hO.1 e2 F R hRl hFl u (R.getD u 0) hux ⟨by rw [← r0]; exact hlow _, by rw [← r0]; exact hb _⟩ true _ hRg hFg hlow
      have c2 := h3 hO.1 e2 F R hRl hFl u (F.getD u 0) hux ⟨by rw [← f0]; exact hlow _, by rw [← f0]; exact hb _⟩ false _ hRg hFg hlow
      rw [hRl, hFl] at c1 c2
      have n1 : entE p l up u false to = if R.getD u 0 < 1 then -1 else ((fstS l p.cs up (dS p.ns.length l p.cs up to) ((u : Int), !true) (R.getD u 0)).map fun q => (q.1 : Int)).getD (-1) := by
        unfold entE chE; rw [if_neg hne, r0]; rfl
      have n2 : entE p l up u true to = if F.getD u 0 < 1 then -1 else ((fstS l p.cs up (dS p.ns.length l p.cs up to) ((u : Int), !false) (F.getD u 0)).map fun q => (q.1 : Int)).getD (-1) := by
        unfold entE chE; rw [if_neg hne, f0]; rfl
      rw [← n1] at c1
      rw [← n2] at c2
      refine ⟨by kernel_rfl, qCallK_frz c1 ?_ trivial ?_⟩
      · simp only [↓EVP0, EVQ0, EVQ1, EVQ2, EVQ3, EVQ4, EVA, EVK, EVFN, ↓reduceIte, Nat.reduceEqDiff, Nat.reduceAdd, Nat.reduceSub, Nat.reduceMul, Nat.reduceLT, Nat.reduceLeDiff, reduceCtorEq, Int.reduceToNat, Int.reduceLT, Int.reduceLE, Int.reduceAdd, Int.reduceSub, Int.reduceMul, Int.reduceNeg, Int.reduceEq, Nat.reduceMod, forall_eq_or_imp, forall_eq, forall_const, cond_true, cond_false, decide_true, decide_false, true_imp_iff, implies_true, Int.cast_ofNat_Int, forall_eq']
        exact roCaps
      simp only [↓EVP0, EVQ0, EVQ1, EVQ2, EVQ3, EVQ4, EVA, EVK, EVFN, ↓reduceIte, Nat.reduceEqDiff, Nat.reduceAdd, Nat.reduceSub, Nat.reduceMul, Nat.reduceLT, Nat.reduceLeDiff, reduceCtorEq, Int.reduceToNat, Int.reduceLT, Int.reduceLE, Int.reduceAdd, Int.reduceSub, Int.reduceMul, Int.reduceNeg, Int.reduceEq, Nat.reduceMod, forall_eq_or_imp, forall_eq, forall_const, cond_true, cond_false, decide_true, decide_false, true_imp_iff, implies_true, Int.cast_ofNat_Int, forall_eq']
      refine ⟨⟨by omega, by omega⟩, by kernel_rfl, qCallK_frz c2 ?_ trivial ?_⟩
      · simp only [↓EVP0, EVQ0, EVQ1, EVQ2, EVQ3, EVQ4, EVA, EVK, EVFN, ↓reduceIte, Nat.reduceEqDiff, Nat.reduceAdd, Nat.reduceSub, Nat.reduceMul, Nat.reduceLT, Nat.reduceLeDiff, reduceCtorEq, Int.reduceToNat, Int.reduceLT, Int.reduceLE, Int.reduceAdd, Int.reduceSub, Int.reduceMul, Int.reduceNeg, Int.reduceEq, Nat.reduceMod, forall_eq_or_imp, forall_eq, forall_const, cond_true, cond_false, decide_true, decide_false, true_imp_iff, implies_true, Int.cast_ofNat_Int, forall_eq']
        exact roCaps
      simp only [↓EVP0, EVQ0, EVQ1, EVQ2, EVQ3, EVQ4, EVA, EVK, EVFN, ↓reduceIte, Nat.reduceEqDiff, Nat.reduceAdd, Nat.reduceSub, Nat.reduceMul, Nat.reduceLT, Nat.reduceLeDiff, reduceCtorEq, Int.reduceToNat, Int.reduceLT, Int.reduceLE, Int.reduceAdd, Int.reduceSub, Int.reduceMul, Int.reduceNeg, Int.reduceEq, Nat.reduceMod, forall_eq_or_imp, forall_eq, forall_const, cond_true, cond_false, decide_true, decide_false, true_imp_iff, implies_true, Int.cast_ofNat_Int, forall_eq']
      exact ⟨(), nxt_all h8 (by omega), weakH_fam (fun i hi => ⟨heap6 hi, famF_below _ _ _ _ _ _ _⟩) ⟨rfl, ⟨trivial, trivial⟩, rfl, ⟨trivial, trivial⟩, rfl, ⟨trivial, trivial, trivial⟩, trivial⟩⟩
    · have hne : u = to := by have := hg4; simp at this; omega
      subst hne
      have e0 : ∀ b, entE p l up u b u = -2 := fun b => by unfold entE; rw [if_pos rfl]
      rw [e0, e0]
      exact ⟨(), nxt_all h8 (by omega), weakH_fam (fun i hi => ⟨heap6 hi, famF_below _ _ _ _ _ _ _⟩) ⟨rfl, ⟨trivial, trivial⟩, rfl, ⟨trivial, trivial⟩, rfl, ⟨trivial, trivial, trivial⟩, trivial⟩⟩
  intro _ _
  simp only [↓EVP0, EVQ0, EVQ1, EVQ2, EVQ3, EVQ4, EVA, EVK, EVFN, ↓reduceIte, Nat.reduceEqDiff, Nat.reduceAdd, Nat.reduceSub, Nat.reduceMul, Nat.reduceLT, Nat.reduceLeDiff, reduceCtorEq, Int.reduceToNat, Int.reduceLT, Int.reduceLE, Int.reduceAdd, Int.reduceSub, Int.reduceMul, Int.reduceNeg, Int.reduceEq, Nat.reduceMod, forall_eq_or_imp, forall_eq, forall_const, cond_true, cond_false, decide_true, decide_false, true_imp_iff, implies_true, Int.cast_ofNat_Int, forall_eq']
  refine lwp_for (α := Unit) 2 (fun _ _ => True) (fun ph _ => [(3, .ptr 0 0 0 0 0), (4, .ptr 1 0 0 0 0), (5, .ptr 2 0 0 0 0), (6, .ptr 3 0 0 0 0), (8, .ptr 5 0 0 0 0), (9, .sc (.int .i64 to)), (10, .ptr 22 0 0 0 0), (11, .ptr 23 0 0 0 0), (13, .fn 38 [.ptr 0 0 0 0 0, .ptr 2 0 0 0 0, .ptr 1 0 0 0 0, .ptr 22 0 0 0 0, .ptr 23 0 0 0 0]), (38, .sc (.int .i64 p.ns.length)), (39, .sc (.int .i64 to)), (58, .sc (.int .i64 p.ns.length)), (14, .sc (.int .i64 u)), (59, .sc (.int .i64 u)), (81, .agg [.sc (.int .i64 (entE p l up u false to)), .sc (.int .i64 (entE p l up u true to))]), (82, .sc (.int .i64 ph))])
    (fun ph _ => (0, .box [.rsl 3 p.ns.length (ndsF p.ns), .rsl 6 p.cs.length (cbsF p.cs)]) :: (0, .box [.rsl 1 l.length (intsF l)]) :: (0, .box [.rsl 1 up.length (boolsF up)]) :: (0, .box [.nsl]) :: (0, .row 2 p.ns.length (nxtF p.ns.length to (2 * u + ph))) :: (0, .box [.sl 4 0 2 0 p.ns.length]) :: (fam (famF p l up to (2 * u + ph)) ++ [(0, .box [.rsl 1 p.ns.length (intsF R)]), (0, .box [.rsl 1 p.ns.length (intsF F)])])) () trivial ?_ (fun _ _ => Nat.zero_le _) ?_
  · simp only [↓EVP0, EVQ0, EVQ1, EVQ2, EVQ3, EVQ4, EVA, EVK, EVFN, ↓reduceIte, Nat.reduceEqDiff, Nat.reduceAdd, Nat.reduceSub, Nat.reduceMul, Nat.reduceLT, Nat.reduceLeDiff, reduceCtorEq, Int.reduceToNat, Int.reduceLT, Int.reduceLE, Int.reduceAdd, Int.reduceSub, Int.reduceMul, Int.reduceNeg, Int.reduceEq, Nat.reduceMod, forall_eq_or_imp, forall_eq, forall_const, cond_true, cond_false, decide_true, decide_false, true_imp_iff, implies_true, Int.cast_ofNat_Int, forall_eq']
    exact ⟨nxt_all h8 (by omega), weakH_fam (fun i hi => ⟨heap6 hi, famF_below _ _ _ _ _ _ _⟩) ⟨rfl, ⟨trivial, trivial⟩, rfl, ⟨trivial, trivial⟩, trivial⟩⟩
  intro ph _ hph _
  have h3c : ph = 0 ∨ ph = 1 ∨ ph = 2 := by omega
  rcases h3c with rfl | rfl | rfl
  · unfold lb13_0
    simp only [↓EVP0, EVQ0, EVQ1, EVQ2, EVQ3, EVQ4, EVA, EVK, EVFN, ↓reduceIte, Nat.reduceEqDiff, Nat.reduceAdd, Nat.reduceSub, Nat.reduceMul, Nat.reduceLT, Nat.reduceLeDiff, reduceCtorEq, Int.reduceToNat, Int.reduceLT, Int.reduceLE, Int.reduceAdd, Int.reduceSub, Int.reduceMul, Int.reduceNeg, Int.reduceEq, Nat.reduceMod, forall_eq_or_imp, forall_eq, forall_const, cond_true, cond_false, decide_true, decide_false, true_imp_iff, implies_true, Int.cast_ofNat_Int, forall_eq']
    refine lwp_ren (α := Unit) (fun _ => True) (fun _ => [(3, .ptr 0 0 0 0 0), (4, .ptr 1 0 0 0 0), (5, .ptr 2 0 0 0 0), (6, .ptr 3 0 0 0 0), (8, .ptr 5 0 0 0 0), (9, .sc (.int .i64 to)), (10, .ptr 22 0 0 0 0), (11, .ptr 23 0 0 0 0), (13, .fn 38 [.ptr 0 0 0 0 0, .ptr 2 0 0 0 0, .ptr 1 0 0 0 0, .ptr 22 0 0 0 0, .ptr 23 0 0 0 0]), (38, .sc (.int .i64 p.ns.length)), (39, .sc (.int .i64 to)), (58, .sc (.int .i64 p.ns.length)), (14, .sc (.int .i64 u)), (59, .sc (.int .i64 u)), (81, .agg [.sc (.int .i64 (entE p l up u false to)), .sc (.int .i64 (entE p l up u true to))]), (82, .sc (.int .i64 0))]) (fun _ => (0, .box [.rsl 3 p.ns.length (ndsF p.ns), .rsl 6 p.cs.length (cbsF p.cs)]) :: (0, .box [.rsl 1 l.length (intsF l)]) :: (0, .box [.rsl 1 up.length (boolsF up)]) :: (0, .box [.nsl]) :: (0, .row 2 p.ns.length (nxtF p.ns.length to (2 * u + 1))) :: (0, .box [.sl 4 0 2 0 p.ns.length]) :: (fam (famF p l up to (2 * u + 1)) ++ [(0, .box [.rsl 1 p.ns.length (intsF R)]), (0, .box [.rsl 1 p.ns.length (intsF F)])])) ?_ ?_
    · have e0 : cnt p.ns.length to (2 * u) (2 * u) = to := nxt_at p.ns.length to u 0 hu2 (by omega)
      have hdiv : (2 * u) / 2 = u := by omega
      have hphb : phB (2 * u) = false := by unfold phB; exact decide_eq_false (by omega)
      by_cases ht0 : to = 0
      · subst ht0
        have hx0 : (nxtF p.ns.length 0 (2 * u) u).getD 0 LV.any = .nsl := by
          show slv p.ns.length 0 (2 * u) (2 * u) = _
          unfold slv; rw [if_pos e0]

        have hR := ren_step (p := p) (l := l) (R := R) (F := F) (up := up) h8 (to := 0) (m := 2 * u) (T := 24) (by omega) (.inl rfl) (h := mkH ((0, .box [.rsl 3 p.ns.length (ndsF p.ns), .rsl 6 p.cs.length (cbsF p.cs)]) :: (0, .box [.rsl 1 l.length (intsF l)]) :: (0, .box [.rsl 1 up.length (boolsF up)]) :: (0, .box [.nsl]) :: (0, .row 2 p.ns.length (fun j => if j = u then (nxtF p.ns.length 0 (2 * u) u).set 0 (.sl 24 0 1 0 1) else nxtF p.ns.length 0 (2 * u) j)) :: (0, .box [.sl 4 0 2 0 p.ns.length]) :: (fam (famF p l up 0 (2 * u)) ++ [(0, .box [.rsl 1 p.ns.length (intsF R)]), (0, .box [.rsl 1 p.ns.length (intsF F)]), (0, .ints [entE p l up u false 0])]))) (by rw [heapN]; simp) (by rw [heapN]; simp) rfl rfl rfl rfl rfl (heap22 0) (heap22 1) rfl (fun i _ => nxt_set0 p.ns.length 0 u 24 0 i) (fun j hj _ => by rw [Nat.add_comm j 6]; exact heap6 hj) (by
          rw [show (24 : Nat) = 2 + 22 from rfl, heap22, famF_new (by omega), hdiv, hphb]; rfl)
        simp only [↓EVP0, EVQ0, EVQ1, EVQ2, EVQ3, EVQ4, EVA, EVK, EVFN, ↓reduceIte, Nat.reduceEqDiff, Nat.reduceAdd, Nat.reduceSub, Nat.reduceMul, Nat.reduceLT, Nat.reduceLeDiff, reduceCtorEq, Int.reduceToNat, Int.reduceLT, Int.reduceLE, Int.reduceAdd, Int.reduceSub, Int.reduceMul, Int.reduceNeg, Int.reduceEq, Nat.reduceMod, forall_eq_or_imp, forall_eq, forall_const, cond_true, cond_false, decide_true, decide_false, true_imp_iff, implies_true, Int.cast_ofNat_Int, forall_eq']
        refine ⟨⟨by omega, by omega⟩, ⟨by decide, hu2, rfl⟩, intsF [entE p l up u false 0], fun i hi => ?_, ?_⟩
        · rw [show i = 0 by omega]; rfl
        simp only [hx0, ↓EVP0, EVQ0, EVQ1, EVQ2, EVQ3, EVQ4, EVA, EVK, EVFN, ↓reduceIte, Nat.reduceEqDiff, Nat.reduceAdd, Nat.reduceSub, Nat.reduceMul, Nat.reduceLT, Nat.reduceLeDiff, reduceCtorEq, Int.reduceToNat, Int.reduceLT, Int.reduceLE, Int.reduceAdd, Int.reduceSub, Int.reduceMul, Int.reduceNeg, Int.reduceEq, Nat.reduceMod, forall_eq_or_imp, forall_eq, forall_const, cond_true, cond_false, decide_true, decide_false, true_imp_iff, implies_true, Int.cast_ofNat_Int, forall_eq']
        refine ⟨⟨by unfold appRoom; omega, ⟨by omega, by omega⟩, ⟨hu2, rfl⟩, (), _, hR.1, renS_make hR.2 rfl rfl rfl rfl rfl rfl rfl rfl rfl rfl rfl rfl rfl rfl rfl rfl⟩, ?_, ?_⟩
        · exact ⟨⟨by omega, by omega⟩, by unfold appRoom; omega, ⟨hu2, rfl⟩, (), _, hR.1, renS_make hR.2 rfl rfl rfl rfl rfl rfl rfl rfl rfl rfl rfl rfl rfl rfl rfl rfl⟩
        · exact ⟨by unfold appRoom; omega, ⟨by omega, by omega⟩, ⟨hu2, rfl⟩, (), _, hR.1, renS_make hR.2 rfl rfl rfl rfl rfl rfl rfl rfl rfl rfl rfl rfl rfl rfl rfl rfl⟩
      · have hx0 : (nxtF p.ns.length to (2 * u) u).getD 0 LV.any = .sl (2 * u + 6) (to - 1) 1 0 to := by
          show slv p.ns.length to (2 * u) (2 * u) = _
          unfold slv; rw [e0, if_neg ht0]
        have hlo := fam_lo (famF p l up to (2 * u)) [(0, .box [.rsl 1 p.ns.length (intsF R)]), (0, .box [.rsl 1 p.ns.length (intsF F)])] (show 2 * u < 16 by omega)
        have hse := fam_setL (famF p l up to (2 * u)) [(0, .box [.rsl 1 p.ns.length (intsF R)]), (0, .box [.rsl 1 p.ns.length (intsF F)])] (show 2 * u < 16 by omega)
        have h24 : 2 * u + 6 < 24 := by omega
        have hf0 : famF p l up to (2 * u) (2 * u) = (to - 1, .ints (rowE p l up u false to)) := by
          unfold famF; rw [e0, if_neg ht0, hdiv, hphb]
        have hR := ren_step (p := p) (l := l) (R := R) (F := F) (up := up) h8 (to := to) (m := 2 * u) (T := 2 * u + 6) (by omega) (.inr rfl) (h := mkH ((0, .box [.rsl 3 p.ns.length (ndsF p.ns), .rsl 6 p.cs.length (cbsF p.cs)]) :: (0, .box [.rsl 1 l.length (intsF l)]) :: (0, .box [.rsl 1 up.length (boolsF up)]) :: (0, .box [.nsl]) :: (0, .row 2 p.ns.length (fun j => if j = u then (nxtF p.ns.length to (2 * u) u).set 0 (.sl (2 * u + 6) (to - 1 + 1) 1 0 (to + 1)) else nxtF p.ns.length to (2 * u) j)) :: (0, .box [.sl 4 0 2 0 p.ns.length]) :: (fam (updF (famF p l up to (2 * u)) (2 * u) (to - 1 + 1, .ints (List.take to (rowE p l up u false to) ++ [entE p l up u false to]))) ++ [(0, .box [.rsl 1 p.ns.length (intsF R)]), (0, .box [.rsl 1 p.ns.length (intsF F)])]))) (by rw [heapN]; simp) (by rw [heapN]; simp; omega) rfl rfl rfl rfl rfl (heap22 0) (heap22 1) rfl (fun i _ => by rw [show to - 1 + 1 = to by omega]; exact nxt_set0 p.ns.length to u (2 * u + 6) to i) (fun j hj hne => by
          rw [Nat.add_comm j 6, heap6 hj]; unfold updF; rw [if_neg hne]) (by
          rw [Nat.add_comm (2 * u) 6, heap6 (by omega), famF_new (by omega), hdiv, hphb, rowE_succ]; unfold updF; rw [if_pos rfl, show to - 1 + 1 = to by omega, List.take_of_length_le (by rw [rowE_len]; exact Nat.le_refl _)])
        simp only [↓EVP0, EVQ0, EVQ1, EVQ2, EVQ3, EVQ4, EVA, EVK, EVFN, ↓reduceIte, Nat.reduceEqDiff, Nat.reduceAdd, Nat.reduceSub, Nat.reduceMul, Nat.reduceLT, Nat.reduceLeDiff, reduceCtorEq, Int.reduceToNat, Int.reduceLT, Int.reduceLE, Int.reduceAdd, Int.reduceSub, Int.reduceMul, Int.reduceNeg, Int.reduceEq, Nat.reduceMod, forall_eq_or_imp, forall_eq, forall_const, cond_true, cond_false, decide_true, decide_false, true_imp_iff, implies_true, Int.cast_ofNat_Int, forall_eq']
        refine ⟨⟨by omega, by omega⟩, ⟨by decide, hu2, rfl⟩, intsF [entE p l up u false to], fun i hi => ?_, ?_⟩
        · rw [show i = 0 by omega]; rfl
        simp only [hx0, hlo, hse, h24, hf0, ↓EVP0, EVQ0, EVQ1, EVQ2, EVQ3, EVQ4, EVA, EVK, EVFN, ↓reduceIte, Nat.reduceEqDiff, Nat.reduceAdd, Nat.reduceSub, Nat.reduceMul, Nat.reduceLT, Nat.reduceLeDiff, reduceCtorEq, Int.reduceToNat, Int.reduceLT, Int.reduceLE, Int.reduceAdd, Int.reduceSub, Int.reduceMul, Int.reduceNeg, Int.reduceEq, Nat.reduceMod, forall_eq_or_imp, forall_eq, forall_const, cond_true, cond_false, decide_true, decide_false, true_imp_iff, implies_true, Int.cast_ofNat_Int, forall_eq']
        have hrl := rowE_len p l up u false to
        refine ⟨⟨by rw [hrl]; exact Nat.le_refl _, by unfold appRoom; omega, ⟨by omega, by omega⟩, ⟨hu2, rfl⟩, (), _, hR.1, renS_make hR.2 rfl rfl rfl rfl rfl rfl rfl rfl rfl rfl rfl rfl rfl rfl rfl rfl⟩, ?_, ?_⟩
        · exact ⟨⟨by omega, by omega⟩, by rw [hrl]; exact Nat.le_refl _, by unfold appRoom; omega, ⟨hu2, rfl⟩, (), _, hR.1, renS_make hR.2 rfl rfl rfl rfl rfl rfl rfl rfl rfl rfl rfl rfl rfl rfl rfl rfl⟩
        · exact ⟨by rw [hrl]; exact Nat.le_refl _, by unfold appRoom; omega, ⟨by omega, by omega⟩, ⟨hu2, rfl⟩, (), _, hR.1, renS_make hR.2 rfl rfl rfl rfl rfl rfl rfl rfl rfl rfl rfl rfl rfl rfl rfl rfl⟩
    intro _ _
    simp only [↓EVP0, EVQ0, EVQ1, EVQ2, EVQ3, EVQ4, EVA, EVK, EVFN, ↓reduceIte, Nat.reduceEqDiff, Nat.reduceAdd, Nat.reduceSub, Nat.reduceMul, Nat.reduceLT, Nat.reduceLeDiff, reduceCtorEq, Int.reduceToNat, Int.reduceLT, Int.reduceLE, Int.reduceAdd, Int.reduceSub, Int.reduceMul, Int.reduceNeg, Int.reduceEq, Nat.reduceMod, forall_eq_or_imp, forall_eq, forall_const, cond_true, cond_false, decide_true, decide_false, true_imp_iff, implies_true, Int.cast_ofNat_Int, forall_eq']
    exact ⟨by unfold In64; omega, (), nxt_all h8 (by omega), weakH_fam (fun i hi => ⟨heap6 hi, famF_below _ _ _ _ _ _ _⟩) ⟨rfl, ⟨trivial, trivial⟩, rfl, ⟨trivial, trivial⟩, trivial⟩⟩
  · unfold lb13_0
    simp only [↓EVP0, EVQ0, EVQ1, EVQ2, EVQ3, EVQ4, EVA, EVK, EVFN, ↓reduceIte, Nat.reduceEqDiff, Nat.reduceAdd, Nat.reduceSub, Nat.reduceMul, Nat.reduceLT, Nat.reduceLeDiff, reduceCtorEq, Int.reduceToNat, Int.reduceLT, Int.reduceLE, Int.reduceAdd, Int.reduceSub, Int.reduceMul, Int.reduceNeg, Int.reduceEq, Nat.reduceMod, forall_eq_or_imp, forall_eq, forall_const, cond_true, cond_false, decide_true, decide_false, true_imp_iff, implies_true, Int.cast_ofNat_Int, forall_eq']
    refine lwp_ren (α := Unit) (fun _ => True) (fun _ => [(3, .ptr 0 0 0 0 0), (4, .ptr 1 0 0 0 0), (5, .ptr 2 0 0 0 0), (6, .ptr 3 0 0 0 0), (8, .ptr 5 0 0 0 0), (9, .sc (.int .i64 to)), (10, .ptr 22 0 0 0 0), (11, .ptr 23 0 0 0 0), (13, .fn 38 [.ptr 0 0 0 0 0, .ptr 2 0 0 0 0, .ptr 1 0 0 0 0, .ptr 22 0 0 0 0, .ptr 23 0 0 0 0]), (38, .sc (.int .i64 p.ns.length)), (39, .sc (.int .i64 to)), (58, .sc (.int .i64 p.ns.length)), (14, .sc (.int .i64 u)), (59, .sc (.int .i64 u)), (81, .agg [.sc (.int .i64 (entE p l up u false to)), .sc (.int .i64 (entE p l up u true to))]), (82, .sc (.int .i64 1))]) (fun _ => (0, .box [.rsl 3 p.ns.length (ndsF p.ns), .rsl 6 p.cs.length (cbsF p.cs)]) :: (0, .box [.rsl 1 l.length (intsF l)]) :: (0, .box [.rsl 1 up.length (boolsF up)]) :: (0, .box [.nsl]) :: (0, .row 2 p.ns.length (nxtF p.ns.length to (2 * u + 1 + 1))) :: (0, .box [.sl 4 0 2 0 p.ns.length]) :: (fam (famF p l up to (2 * u + 1 + 1)) ++ [(0, .box [.rsl 1 p.ns.length (intsF R)]), (0, .box [.rsl 1 p.ns.length (intsF F)])])) ?_ ?_
    · have e0 : cnt p.ns.length to (2 * u + 1) (2 * u + 1) = to := nxt_at p.ns.length to u 1 hu2 (by omega)
      have hdiv : (2 * u + 1) / 2 = u := by omega
      have hphb : phB (2 * u + 1) = true := by unfold phB; exact decide_eq_true (by omega)
      by_cases ht0 : to = 0
      · subst ht0
        have hx0 : (List.drop 1 (nxtF p.ns.length 0 (2 * u + 1) u)).getD 0 LV.any = .nsl := by
          show slv p.ns.length 0 (2 * u + 1) (2 * u + 1) = _
          unfold slv; rw [if_pos e0]

        have hR := ren_step (p := p) (l := l) (R := R) (F := F) (up := up) h8 (to := 0) (m := 2 * u + 1) (T := 24) (by omega) (.inl rfl) (h := mkH ((0, .box [.rsl 3 p.ns.length (ndsF p.ns), .rsl 6 p.cs.length (cbsF p.cs)]) :: (0, .box [.rsl 1 l.length (intsF l)]) :: (0, .box [.rsl 1 up.length (boolsF up)]) :: (0, .box [.nsl]) :: (0, .row 2 p.ns.length (fun j => if j = u then (nxtF p.ns.length 0 (2 * u + 1) u).set 1 (.sl 24 0 1 0 1) else nxtF p.ns.length 0 (2 * u + 1) j)) :: (0, .box [.sl 4 0 2 0 p.ns.length]) :: (fam (famF p l up 0 (2 * u + 1)) ++ [(0, .box [.rsl 1 p.ns.length (intsF R)]), (0, .box [.rsl 1 p.ns.length (intsF F)]), (0, .ints [entE p l up u true 0])]))) (by rw [heapN]; simp) (by rw [heapN]; simp) rfl rfl rfl rfl rfl (heap22 0) (heap22 1) rfl (fun i _ => nxt_set1 p.ns.length 0 u 24 0 i) (fun j hj _ => by rw [Nat.add_comm j 6]; exact heap6 hj) (by
          rw [show (24 : Nat) = 2 + 22 from rfl, heap22, famF_new (by omega), hdiv, hphb]; rfl)
        simp only [↓EVP0, EVQ0, EVQ1, EVQ2, EVQ3, EVQ4, EVA, EVK, EVFN, ↓reduceIte, Nat.reduceEqDiff, Nat.reduceAdd, Nat.reduceSub, Nat.reduceMul, Nat.reduceLT, Nat.reduceLeDiff, reduceCtorEq, Int.reduceToNat, Int.reduceLT, Int.reduceLE, Int.reduceAdd, Int.reduceSub, Int.reduceMul, Int.reduceNeg, Int.reduceEq, Nat.reduceMod, forall_eq_or_imp, forall_eq, forall_const, cond_true, cond_false, decide_true, decide_false, true_imp_iff, implies_true, Int.cast_ofNat_Int, forall_eq']
        refine ⟨⟨by omega, by omega⟩, ⟨by decide, hu2, rfl⟩, intsF [entE p l up u true 0], fun i hi => ?_, ?_⟩
        · rw [show i = 0 by omega]; rfl
        simp only [hx0, ↓EVP0, EVQ0, EVQ1, EVQ2, EVQ3, EVQ4, EVA, EVK, EVFN, ↓reduceIte, Nat.reduceEqDiff, Nat.reduceAdd, Nat.reduceSub, Nat.reduceMul, Nat.reduceLT, Nat.reduceLeDiff, reduceCtorEq, Int.reduceToNat, Int.reduceLT, Int.reduceLE, Int.reduceAdd, Int.reduceSub, Int.reduceMul, Int.reduceNeg, Int.reduceEq, Nat.reduceMod, forall_eq_or_imp, forall_eq, forall_const, cond_true, cond_false, decide_true, decide_false, true_imp_iff, implies_true, Int.cast_ofNat_Int, forall_eq']
        refine ⟨⟨by unfold appRoom; omega, ⟨by omega, by omega⟩, ⟨hu2, rfl⟩, (), _, hR.1, renS_make hR.2 rfl rfl rfl rfl rfl rfl rfl rfl rfl rfl rfl rfl rfl rfl rfl rfl⟩, ?_, ?_⟩
        · exact ⟨⟨by omega, by omega⟩, by unfold appRoom; omega, ⟨hu2, rfl⟩, (), _, hR.1, renS_make hR.2 rfl rfl rfl rfl rfl rfl rfl rfl rfl rfl rfl rfl rfl rfl rfl rfl⟩
        · exact ⟨by unfold appRoom; omega, ⟨by omega, by omega⟩, ⟨hu2, rfl⟩, (), _, hR.1, renS_make hR.2 rfl rfl rfl rfl rfl rfl rfl rfl rfl rfl rfl rfl rfl rfl rfl rfl⟩
      · have hx0 : (List.drop 1 (nxtF p.ns.length to (2 * u + 1) u)).getD 0 LV.any = .sl (2 * u + 1 + 6) (to - 1) 1 0 to := by
          show slv p.ns.length to (2 * u + 1) (2 * u + 1) = _
          unfold slv; rw [e0, if_neg ht0]
        have hlo := fam_lo (famF p l up to (2 * u + 1)) [(0, .box [.rsl 1 p.ns.length (intsF R)]), (0, .box [.rsl 1 p.ns.length (intsF F)])] (show 2 * u + 1 < 16 by omega)
        have hse := fam_setL (famF p l up to (2 * u + 1)) [(0, .box [.rsl 1 p.ns.length (intsF R)]), (0, .box [.rsl 1 p.ns.length (intsF F)])] (show 2 * u + 1 < 16 by omega)
        have h24 : 2 * u + 1 + 6 < 24 := by omega
        have hf0 : famF p l up to (2 * u + 1) (2 * u + 1) = (to - 1, .ints (rowE p l up u true to)) := by
          unfold famF; rw [e0, if_neg ht0, hdiv, hphb]
        have hR := ren_step (p := p) (l := l) (R := R) (F := F) (up := up) h8 (to := to) (m := 2 * u + 1) (T := 2 * u + 1 + 6) (by omega) (.inr rfl) (h := mkH ((0, .box [.rsl 3 p.ns.length (ndsF p.ns), .rsl 6 p.cs.length (cbsF p.cs)]) :: (0, .box [.rsl 1 l.length (intsF l)]) :: (0, .box [.rsl 1 up.length (boolsF up)]) :: (0, .box [.nsl]) :: (0, .row 2 p.ns.length (fun j => if j = u then (nxtF p.ns.length to (2 * u + 1) u).set 1 (.sl (2 * u + 1 + 6) (to - 1 + 1) 1 0 (to + 1)) else nxtF p.ns.length to (2 * u + 1) j)) :: (0, .box [.sl 4 0 2 0 p.ns.length]) :: (fam (updF (famF p l up to (2 * u + 1)) (2 * u + 1) (to - 1 + 1, .ints (List.take to (rowE p l up u true to) ++ [entE p l up u true to]))) ++ [(0, .box [.rsl 1 p.ns.length (intsF R)]), (0, .box [.rsl 1 p.ns.length (intsF F)])]))) (by rw [heapN]; simp) (by rw [heapN]; simp; omega) rfl rfl rfl rfl rfl (heap22 0) (heap22 1) rfl (fun i _ => by rw [show to - 1 + 1 = to by omega]; exact nxt_set1 p.ns.length to u (2 * u + 1 + 6) to i) (fun j hj hne => by
          rw [Nat.add_comm j 6, heap6 hj]; unfold updF; rw [if_neg hne]) (by
          rw [Nat.add_comm (2 * u + 1) 6, heap6 (by omega), famF_new (by omega), hdiv, hphb, rowE_succ]; unfold updF; rw [if_pos rfl, show to - 1 + 1 = to by omega, List.take_of_length_le (by rw [rowE_len]; exact Nat.le_refl _)])
        simp only [↓EVP0, EVQ0, EVQ1, EVQ2, EVQ3, EVQ4, EVA, EVK, EVFN, ↓reduceIte, Nat.reduceEqDiff, Nat.reduceAdd, Nat.reduceSub, Nat.reduceMul, Nat.reduceLT, Nat.reduceLeDiff, reduceCtorEq, Int.reduceToNat, Int.reduceLT, Int.reduceLE, Int.reduceAdd, Int.reduceSub, Int.reduceMul, Int.reduceNeg, Int.reduceEq, Nat.reduceMod, forall_eq_or_imp, forall_eq, forall_const, cond_true, cond_false, decide_true, decide_false, true_imp_iff, implies_true, Int.cast_ofNat_Int, forall_eq']
        refine ⟨⟨by omega, by omega⟩, ⟨by decide, hu2, rfl⟩, intsF [entE p l up u true to], fun i hi => ?_, ?_⟩
        · rw [show i = 0 by omega]; rfl
        simp only [hx0, hlo, hse, h24, hf0, ↓EVP0, EVQ0, EVQ1, EVQ2, EVQ3, EVQ4, EVA, EVK, EVFN, ↓reduceIte, Nat.reduceEqDiff, Nat.reduceAdd, Nat.reduceSub, Nat.reduceMul, Nat.reduceLT, Nat.reduceLeDiff, reduceCtorEq, Int.reduceToNat, Int.reduceLT, Int.reduceLE, Int.reduceAdd, Int.reduceSub, Int.reduceMul, Int.reduceNeg, Int.reduceEq, Nat.reduceMod, forall_eq_or_imp, forall_eq, forall_const, cond_true, cond_false, decide_true, decide_false, true_imp_iff, implies_true, Int.cast_ofNat_Int, forall_eq']
        have hrl := rowE_len p l up u true to
        refine ⟨⟨by rw [hrl]; exact Nat.le_refl _, by unfold appRoom; omega, ⟨by omega, by omega⟩, ⟨hu2, rfl⟩, (), _, hR.1, renS_make hR.2 rfl rfl rfl rfl rfl rfl rfl rfl rfl rfl rfl rfl rfl rfl rfl rfl⟩, ?_, ?_⟩
        · exact ⟨⟨by omega, by omega⟩, by rw [hrl]; exact Nat.le_refl _, by unfold appRoom; omega, ⟨hu2, rfl⟩, (), _, hR.1, renS_make hR.2 rfl rfl rfl rfl rfl rfl rfl rfl rfl rfl rfl rfl rfl rfl rfl rfl⟩
        · exact ⟨by rw [hrl]; exact Nat.le_refl _, by unfold appRoom; omega, ⟨by omega, by omega⟩, ⟨hu2, rfl⟩, (), _, hR.1, renS_make hR.2 rfl rfl rfl rfl rfl rfl rfl rfl rfl rfl rfl rfl rfl rfl rfl rfl⟩
    intro _ _
    simp only [↓EVP0, EVQ0, EVQ1, EVQ2, EVQ3, EVQ4, EVA, EVK, EVFN, ↓reduceIte, Nat.reduceEqDiff, Nat.reduceAdd, Nat.reduceSub, Nat.reduceMul, Nat.reduceLT, Nat.reduceLeDiff, reduceCtorEq, Int.reduceToNat, Int.reduceLT, Int.reduceLE, Int.reduceAdd, Int.reduceSub, Int.reduceMul, Int.reduceNeg, Int.reduceEq, Nat.reduceMod, forall_eq_or_imp, forall_eq, forall_const, cond_true, cond_false, decide_true, decide_false, true_imp_iff, implies_true, Int.cast_ofNat_Int, forall_eq']
    exact ⟨by unfold In64; omega, (), nxt_all h8 (by omega), weakH_fam (fun i hi => ⟨heap6 hi, famF_below _ _ _ _ _ _ _⟩) ⟨rfl, ⟨trivial, trivial⟩, rfl, ⟨trivial, trivial⟩, trivial⟩⟩
  · unfold lb13_0
    simp only [↓EVP0, EVQ0, EVQ1, EVQ2, EVQ3, EVQ4, EVA, EVK, EVFN, ↓reduceIte, Nat.reduceEqDiff, Nat.reduceAdd, Nat.reduceSub, Nat.reduceMul, Nat.reduceLT, Nat.reduceLeDiff, reduceCtorEq, Int.reduceToNat, Int.reduceLT, Int.reduceLE, Int.reduceAdd, Int.reduceSub, Int.reduceMul, Int.reduceNeg, Int.reduceEq, Nat.reduceMod, forall_eq_or_imp, forall_eq, forall_const, cond_true, cond_false, decide_true, decide_false, true_imp_iff, implies_true, Int.cast_ofNat_Int, forall_eq']
    exact ⟨by unfold In64; omega, hu2, (), rfl, nxt_all h8 (by omega), weakH_fam (fun i hi => ⟨heap6 hi, famF_below _ _ _ _ _ _ _⟩) ⟨rfl, ⟨trivial, trivial⟩, rfl, ⟨trivial, trivial⟩, trivial⟩⟩
end Go.Proofs.YtcdepkflghcjpaaDoor
namespace Go.Proofs.YtcdepkflghcjpaaDoor
set_option linter.unusedSimpArgs false
set_option linter.unusedVariables false
open Go.RowKit
set_option maxRecDepth 20000

theorem EVFT : (∀ (l : List Int) (i : Nat), intsF l i = [.sc (.int .i64 (l.getD i 0))]) ∧ (∀ (t : Tb) (i : Nat), tabF t i = [.rsl 1 (t.getD i ([], [])).1.length (intsF (t.getD i ([], [])).1), .rsl 1 (t.getD i ([], [])).2.length (intsF (t.getD i ([], [])).2)]) ∧
    (∀ (P : Program) (s : LS) (h : LH) (K : LS → Prop) (d : Option Nat) (x : Operand) (al : List Operand), lopsQ P ⟨d, none, .e (.calv x al)⟩ K s h = (opC true s x ∧ (∀ y, y ∈ al → opC true s y) ∧ evk (op1 s x) (fun xv => isFn xv ∧ okF P (fnOf xv) = true ∧ @qCallK P (fnOf xv) (al.map (op1 s) ++ capsOf xv) h ⟨fun v => K (updO s d v)⟩))) :=
  ⟨fun _ _ => rfl, tabF_eq, fun _ _ _ _ _ _ _ => lopsQ_calv⟩
theorem rng_no19 {n : Nat} {q : Nat → Bool} {i : Nat} (hi : i < n) (h : q i = false) : (List.range n).all q = false := by
  rw [Bool.eq_false_iff]
  intro ha
  rw [List.all_eq_true] at ha
  have := ha i (List.mem_range.2 hi)
  rw [h] at this; simp at this
theorem rng_yes19 {n : Nat} {q : Nat → Bool} (h : ∀ i, i < n → q i = true) : (List.range n).all q = true := by
  rw [List.all_eq_true]
  intro x hx
  exact h x (List.mem_range.1 hx)
end Go.Proofs.YtcdepkflghcjpaaDoor
namespace Go.Proofs.YtcdepkflghcjpaaDoor
set_option linter.unusedSimpArgs false
set_option linter.unusedVariables false
open Go.RowKit
set_option maxRecDepth 20000

end Go.Proofs.YtcdepkflghcjpaaDoor
namespace Go.Proofs.YtcdepkflghcjpaaDoor
set_option linter.unusedSimpArgs false
set_option linter.unusedVariables false
open Go.RowKit
set_option maxRecDepth 20000

section
variable {p : Pl} {l : List Int} {up : List Bool} {to : Int} {D : St → Int}
end
end Go.Proofs.YtcdepkflghcjpaaDoor
namespace Go.Proofs.YtcdepkflghcjpaaDoor
set_option linter.unusedSimpArgs false
set_option linter.unusedVariables false
open Go.RowKit
set_option maxRecDepth 20000

section
variable {p : Pl} {up : List Bool} {r to : Int} {D : St → Int}
end
end Go.Proofs.YtcdepkflghcjpaaDoor
