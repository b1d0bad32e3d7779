/- The lifted layer, part 6: how the abstract heap changes with the world. Conditions: none. -/
import Derived.Test.YtfhifkcbdpgomaaL5
namespace Go.Proofs.Ytfhifkcbdpgomaa
set_option linter.unusedSimpArgs false
set_option linter.unusedVariables false
open Go.RowKit

def LH.push (h : LH) (ob : LO) : LH := ⟨h.n + 1, fun k => if k = h.n then (0, ob) else h.f k⟩
def LH.set (h : LH) (k : Nat) (vo : Nat × LO) : LH := ⟨h.n, fun j => if j = k then vo else h.f j⟩
def updI (ι : IM) (k : Nat) (x : IA) : IM := fun j => if j = k then x else ι j

structure Trans (B : Nat) (R : RO) (ι : IM) (h : LH) (w : World) (R' : RO) (ι' : IM) (h' : LH) (w' : World) : Prop where
  rep : Rep R' ι' h' B w'
  mono : Mono R ι h R' ι' h'
  below : Below B w w'
  rob : ∀ b, b < B → R' b = R b
  size : B ≤ w.heap.size

theorem Trans.trans {B R ι h w R1 ι1 h1 w1 R2 ι2 h2 w2} (a : Trans B R ι h w R1 ι1 h1 w1) (b : Trans B R1 ι1 h1 w1 R2 ι2 h2 w2) : Trans B R ι h w R2 ι2 h2 w2 :=
  ⟨b.rep, a.mono.trans b.mono, a.below.trans b.below, fun x hx => (b.rob x hx).trans (a.rob x hx), a.size⟩

section
variable {P : Program} {R : RO} {ι : IM} {h : LH} {B : Nat} {w : World}

theorem Trans.refl (hr : Rep R ι h B w) (hB : B ≤ w.heap.size) : Trans B R ι h w R ι h w := ⟨hr, Mono.refl _ _ _, Below.refl _ _, fun _ _ => rfl, hB⟩

theorem Rep.none_of_size (hr : Rep R ι h B w) {b : Nat} (hb : w.heap.size ≤ b) : R b = none := by
  cases hR : R b with
  | none => rfl
  | some o =>
    have := hr.ro b o hR
    have := (Array.getElem?_eq_some_iff.1 this).1
    omega

theorem Rep.push (hr : Rep R ι h B w) (hB : B ≤ w.heap.size) {c : Array Value} {e : TypeId} {ob : LO} (hl : ob.live = true) (hm : ob.isMap = false) (hsz : ob.size ≤ c.size)
    (hp : ∀ j, j < c.size → plainV (c.getD j undef) = true) (hc : ∀ i c' lv, cellAt ob i c' = some lv → ∃ v, c[i * ob.sz + c']? = some v ∧ Rv R ι h lv v) :
    Trans B R ι h w R (updI ι h.n ⟨w.heap.size, 0, c.size⟩) (h.push ob) { w with heap := w.heap.push (.cells c e) } := by
  have hmono : Mono R ι h R (updI ι h.n ⟨w.heap.size, 0, c.size⟩) (h.push ob) := by
    refine ⟨fun _ _ hx => hx, by simp [LH.push], fun k hk => ?_, fun k hk _ => ?_⟩
    · simp [LH.push, Nat.ne_of_lt hk]
    · simp [updI, Nat.ne_of_lt hk]
  have hold : ∀ b, b < w.heap.size → (w.heap.push (Obj.cells c e))[b]? = w.heap[b]? := fun b hb => by
    rw [Array.getElem?_push, if_neg (by omega)]
  have hf : ∀ k, k < h.n → (h.push ob).f k = h.f k := fun k hk => by simp [LH.push, Nat.ne_of_lt hk]
  have hi : ∀ k, k < h.n → updI ι h.n ⟨w.heap.size, 0, c.size⟩ k = ι k := fun k hk => by simp [updI, Nat.ne_of_lt hk]
  have hfn : (h.push ob).f h.n = (0, ob) := by simp [LH.push]
  have hin : updI ι h.n ⟨w.heap.size, 0, c.size⟩ h.n = ⟨w.heap.size, 0, c.size⟩ := by simp [updI]
  have hlt : ∀ k, k < (h.push ob).n → k ≠ h.n → k < h.n := fun k hk hne => by
    have : k < h.n + 1 := hk
    omega
  refine ⟨⟨?_, ?_, ?_, ?_, ?_, ?_⟩, hmono, ⟨rfl, rfl, rfl, by simp, fun k hk => hold k (by omega)⟩, fun _ _ => rfl, hB⟩
  · intro b o hb
    have := hr.ro b o hb
    show (w.heap.push _)[b]? = some o
    rw [hold b (Array.getElem?_eq_some_iff.1 this).1]; exact this
  · intro k hk hlv hmp hmz
    by_cases he : k = h.n
    · subst he
      rw [hfn, hin]
      refine ⟨c, e, by simp, by simp, hsz, hp, fun i c' lv hcl => ?_⟩
      obtain ⟨v, h1, h2⟩ := hc i c' lv hcl
      exact ⟨v, by simpa using h1, h2.mono hmono⟩
    · have hk' := hlt k hk he
      rw [hf k hk'] at hlv hmp ⊢
      rw [hi k hk'] at hmz ⊢
      obtain ⟨cl, e', hw, hs, hz, hpl, hcl⟩ := (hr.cells k hk' hlv hmp hmz).ex
      refine ⟨cl, e', ?_, hs, hz, hpl, fun i c' lv hx => ?_⟩
      · show (w.heap.push _)[_]? = _
        rw [hold _ (hr.base k hk' hlv (.inl hmz)).2.1]; exact hw
      · obtain ⟨v, h1, h2⟩ := hcl i c' lv hx
        exact ⟨v, h1, h2.mono hmono⟩
  · intro k hk hlv hmp hmz
    by_cases he : k = h.n
    · subst he
      rw [hfn]; rw [hin] at hmz
      simp only at hmz ⊢
      omega
    · have hk' := hlt k hk he
      rw [hf k hk'] at hlv hmp ⊢
      rw [hi k hk'] at hmz
      exact hr.empty k hk' hlv hmp hmz
  · intro k hk hlv hmz
    by_cases he : k = h.n
    · subst he
      rw [hin]
      exact ⟨hB, by simp, hr.none_of_size (Nat.le_refl _)⟩
    · have hk' := hlt k hk he
      rw [hf k hk'] at hlv hmz
      rw [hi k hk'] at hmz ⊢
      obtain ⟨h1, h2, h3⟩ := hr.base k hk' hlv hmz
      exact ⟨h1, by simp; omega, h3⟩
  · intro k k' hk hk' hlv hlv' hmz hmz' hbb
    by_cases he : k = h.n
    · by_cases he' : k' = h.n
      · omega
      · exfalso
        have hk2 := hlt k' hk' he'
        rw [hf k' hk2] at hlv' hmz'
        rw [hi k' hk2] at hmz' hbb
        subst he
        rw [hin] at hbb
        have := (hr.base k' hk2 hlv' hmz').2.1
        simp only at hbb; omega
    · have hk1 := hlt k hk he
      rw [hf k hk1] at hlv hmz
      rw [hi k hk1] at hmz hbb
      by_cases he' : k' = h.n
      · exfalso
        subst he'
        rw [hin] at hbb
        have := (hr.base k hk1 hlv hmz).2.1
        simp only at hbb; omega
      · have hk2 := hlt k' hk' he'
        rw [hf k' hk2] at hlv' hmz'
        rw [hi k' hk2] at hmz' hbb
        exact hr.apart k k' hk1 hk2 hlv hlv' hmz hmz' hbb
  · intro k es hk hes
    by_cases he : k = h.n
    · subst he
      rw [hfn] at hes
      simp only at hes
      subst hes
      simp [LO.isMap] at hm
    · have hk' := hlt k hk he
      rw [hf k hk'] at hes
      rw [hi k hk']
      obtain ⟨ents, clock, hw, h1, h2, h3⟩ := hr.maps k es hk' hes
      refine ⟨ents, clock, ?_, h1, h2, fun i kv hkv => ?_⟩
      · show (w.heap.push _)[_]? = _
        rw [hold _ (hr.base k hk' (by rw [hes]; rfl) (.inr (by rw [hes]; rfl))).2.1]; exact hw
      · obtain ⟨en, a1, a2, a3⟩ := h3 i kv hkv
        exact ⟨en, a1, a2, a3.mono hmono⟩

/-- One object changes; its place may change with its version. -/
theorem Rep.change (hr : Rep R ι h B w) (hB : B ≤ w.heap.size) {k : Nat} (hk : k < h.n) {ver' : Nat} {ob' : LO} {x' : IA} {w' : World} (hlive : (h.f k).2.live = true)
    (hver : (h.f k).1 ≤ ver') (hsame : (h.f k).1 = ver' → x' = ι k) (hl : ob'.live = true) (hm : ob'.isMap = false) (hm0 : (h.f k).2.isMap = false)
    (hos : w'.os = w.os) (htape : w'.tape = w.tape) (hout : w'.output = w.output) (hsize : w.heap.size ≤ w'.heap.size)
    (hother : ∀ b, b < w.heap.size → b ≠ x'.b → w'.heap[b]? = w.heap[b]?)
    (hplace : (x'.b = (ι k).b ∧ (ι k).m ≠ 0) ∨ (w.heap.size ≤ x'.b ∧ x'.b < w'.heap.size))
    (hcells : Mono R ι h R (updI ι k x') (h.set k (ver', ob')) → x'.m ≠ 0 → CellsOk R (updI ι k x') (h.set k (ver', ob')) w' x' ob') (hempty : x'.m = 0 → ob'.size = 0) :
    Trans B R ι h w R (updI ι k x') (h.set k (ver', ob')) w' := by
  have hmono : Mono R ι h R (updI ι k x') (h.set k (ver', ob')) := by
    refine ⟨fun _ _ hx => hx, Nat.le_refl _, fun j hj => ?_, fun j hj hv => ?_⟩
    · by_cases e : j = k
      · subst e; simp [LH.set, hver]
      · simp [LH.set, e]
    · by_cases e : j = k
      · subst e
        simp only [LH.set, if_true] at hv
        simp [updI, hsame hv]
      · simp [updI, e]
  have hf : ∀ j, j ≠ k → (h.set k (ver', ob')).f j = h.f j := fun j hj => by simp [LH.set, hj]
  have hi : ∀ j, j ≠ k → updI ι k x' j = ι j := fun j hj => by simp [updI, hj]
  have hfk : (h.set k (ver', ob')).f k = (ver', ob') := by simp [LH.set]
  have hik : updI ι k x' k = x' := by simp [updI]
  have hxb : B ≤ x'.b ∧ x'.b < w'.heap.size ∧ R x'.b = none := by
    rcases hplace with ⟨e, hmz⟩ | ⟨h1, h2⟩
    · rw [e]
      obtain ⟨a, b, c⟩ := hr.base k hk hlive (.inl hmz)
      exact ⟨a, by omega, c⟩
    · exact ⟨by omega, h2, hr.none_of_size h1⟩
  have hne : ∀ j, j < h.n → j ≠ k → (h.f j).2.live = true → ((ι j).m ≠ 0 ∨ (h.f j).2.isMap = true) → (ι j).b ≠ x'.b := by
    intro j hj hjk hlv hmz e
    rcases hplace with ⟨e2, hmz2⟩ | ⟨h1, h2⟩
    · exact hjk (hr.apart j k hj hk hlv hlive hmz (.inl hmz2) (e.trans e2))
    · have := (hr.base j hj hlv hmz).2.1
      omega
  refine ⟨⟨?_, ?_, ?_, ?_, ?_, ?_⟩, hmono, ⟨hos, htape, hout, hsize, fun b hb => ?_⟩, fun _ _ => rfl, hB⟩
  · intro b o hb
    have h1 := hr.ro b o hb
    have h2 := (Array.getElem?_eq_some_iff.1 h1).1
    rw [hother b h2 (fun e => by rw [e, hxb.2.2] at hb; simp at hb)]; exact h1
  · intro j hj hlv hmp hmz
    by_cases e : j = k
    · subst e
      rw [hfk, hik]; rw [hik] at hmz
      exact hcells hmono hmz
    · rw [hf j e] at hlv hmp ⊢
      rw [hi j e] at hmz ⊢
      obtain ⟨cl, e', hw, hs, hz, hpl, hcl⟩ := (hr.cells j hj hlv hmp hmz).ex
      refine ⟨cl, e', ?_, hs, hz, hpl, fun i c' lv hx => ?_⟩
      · rw [hother _ (hr.base j hj hlv (.inl hmz)).2.1 (hne j hj e hlv (.inl hmz))]; exact hw
      · obtain ⟨v, h1, h2⟩ := hcl i c' lv hx
        exact ⟨v, h1, h2.mono hmono⟩
  · intro j hj hlv hmp hmz
    by_cases e : j = k
    · subst e
      rw [hfk]; rw [hik] at hmz
      exact hempty hmz
    · rw [hf j e] at hlv hmp ⊢
      rw [hi j e] at hmz
      exact hr.empty j hj hlv hmp hmz
  · intro j hj hlv hmz
    by_cases e : j = k
    · subst e
      rw [hik]; exact hxb
    · rw [hf j e] at hlv hmz
      rw [hi j e] at hmz ⊢
      obtain ⟨a, b, c⟩ := hr.base j hj hlv hmz
      exact ⟨a, by omega, c⟩
  · intro j j' hj hj' hlv hlv' hmz hmz' hbb
    by_cases e : j = k
    · by_cases e' : j' = k
      · omega
      · exfalso
        subst e
        rw [hik] at hbb
        rw [hf j' e'] at hlv' hmz'
        rw [hi j' e'] at hmz' hbb
        exact hne j' hj' e' hlv' hmz' hbb.symm
    · rw [hf j e] at hlv hmz
      rw [hi j e] at hmz hbb
      by_cases e' : j' = k
      · exfalso
        subst e'
        rw [hik] at hbb
        exact hne j hj e hlv hmz hbb
      · rw [hf j' e'] at hlv' hmz'
        rw [hi j' e'] at hmz' hbb
        exact hr.apart j j' hj hj' hlv hlv' hmz hmz' hbb
  · intro j es hj hes
    by_cases e : j = k
    · subst e
      rw [hfk] at hes
      simp only at hes
      subst hes
      simp [LO.isMap] at hm
    · rw [hf j e] at hes
      rw [hi j e]
      obtain ⟨ents, clock, hw, h1, h2, h3⟩ := hr.maps j es hj hes
      have hlv : (h.f j).2.live = true := by rw [hes]; rfl
      have hmp : (h.f j).2.isMap = true := by rw [hes]; rfl
      refine ⟨ents, clock, ?_, h1, h2, fun i kv hkv => ?_⟩
      · rw [hother _ (hr.base j hj hlv (.inr hmp)).2.1 (hne j hj e hlv (.inr hmp))]; exact hw
      · obtain ⟨en, a1, a2, a3⟩ := h3 i kv hkv
        exact ⟨en, a1, a2, a3.mono hmono⟩
  · by_cases hbs : b < w.heap.size
    · exact hother b hbs (fun e => by omega)
    · omega

theorem Rep.pushMap (hr : Rep R ι h B w) (hB : B ≤ w.heap.size) :
    Trans B R ι h w R (updI ι h.n ⟨w.heap.size, 0, 0⟩) (h.push (.map [])) { w with heap := w.heap.push (.map #[] 0) } := by
  have hmono : Mono R ι h R (updI ι h.n ⟨w.heap.size, 0, 0⟩) (h.push (.map [])) := by
    refine ⟨fun _ _ hx => hx, by simp [LH.push], fun k hk => ?_, fun k hk _ => ?_⟩
    · simp [LH.push, Nat.ne_of_lt hk]
    · simp [updI, Nat.ne_of_lt hk]
  have hold : ∀ b, b < w.heap.size → (w.heap.push (Obj.map #[] 0))[b]? = w.heap[b]? := fun b hb => by
    rw [Array.getElem?_push, if_neg (by omega)]
  have hf : ∀ k, k < h.n → (h.push (.map [])).f k = h.f k := fun k hk => by simp [LH.push, Nat.ne_of_lt hk]
  have hi : ∀ k, k < h.n → updI ι h.n ⟨w.heap.size, 0, 0⟩ k = ι k := fun k hk => by simp [updI, Nat.ne_of_lt hk]
  have hfn : (h.push (.map [])).f h.n = (0, .map []) := by simp [LH.push]
  have hin : updI ι h.n ⟨w.heap.size, 0, 0⟩ h.n = ⟨w.heap.size, 0, 0⟩ := by simp [updI]
  have hlt : ∀ k, k < (h.push (.map [])).n → k ≠ h.n → k < h.n := fun k hk hne => by
    have : k < h.n + 1 := hk
    omega
  refine ⟨⟨?_, ?_, ?_, ?_, ?_, ?_⟩, hmono, ⟨rfl, rfl, rfl, by simp, fun k hk => hold k (by omega)⟩, fun _ _ => rfl, hB⟩
  · intro b o hb
    have := hr.ro b o hb
    show (w.heap.push _)[b]? = some o
    rw [hold b (Array.getElem?_eq_some_iff.1 this).1]; exact this
  · intro k hk hlv hmp hmz
    by_cases he : k = h.n
    · subst he; rw [hfn] at hmp; simp [LO.isMap] at hmp
    · have hk' := hlt k hk he
      rw [hf k hk'] at hlv hmp ⊢
      rw [hi k hk'] at hmz ⊢
      obtain ⟨cl, e', hw, hs, hz, hpl, hcl⟩ := (hr.cells k hk' hlv hmp hmz).ex
      refine ⟨cl, e', ?_, hs, hz, hpl, fun i c' lv hx => ?_⟩
      · show (w.heap.push _)[_]? = _
        rw [hold _ (hr.base k hk' hlv (.inl hmz)).2.1]; exact hw
      · obtain ⟨v, h1, h2⟩ := hcl i c' lv hx
        exact ⟨v, h1, h2.mono hmono⟩
  · intro k hk hlv hmp hmz
    by_cases he : k = h.n
    · subst he; rw [hfn] at hmp; simp [LO.isMap] at hmp
    · have hk' := hlt k hk he
      rw [hf k hk'] at hlv hmp ⊢
      rw [hi k hk'] at hmz
      exact hr.empty k hk' hlv hmp hmz
  · intro k hk hlv hmz
    by_cases he : k = h.n
    · subst he
      rw [hin]
      exact ⟨hB, by simp, hr.none_of_size (Nat.le_refl _)⟩
    · have hk' := hlt k hk he
      rw [hf k hk'] at hlv hmz
      rw [hi k hk'] at hmz ⊢
      obtain ⟨h1, h2, h3⟩ := hr.base k hk' hlv hmz
      exact ⟨h1, by simp; omega, h3⟩
  · intro k k' hk hk' hlv hlv' hmz hmz' hbb
    by_cases he : k = h.n
    · by_cases he' : k' = h.n
      · omega
      · exfalso
        have hk2 := hlt k' hk' he'
        rw [hf k' hk2] at hlv' hmz'
        rw [hi k' hk2] at hmz' hbb
        subst he
        rw [hin] at hbb
        have := (hr.base k' hk2 hlv' hmz').2.1
        simp only at hbb; omega
    · have hk1 := hlt k hk he
      rw [hf k hk1] at hlv hmz
      rw [hi k hk1] at hmz hbb
      by_cases he' : k' = h.n
      · exfalso
        subst he'
        rw [hin] at hbb
        have := (hr.base k hk1 hlv hmz).2.1
        simp only at hbb; omega
      · have hk2 := hlt k' hk' he'
        rw [hf k' hk2] at hlv' hmz'
        rw [hi k' hk2] at hmz' hbb
        exact hr.apart k k' hk1 hk2 hlv hlv' hmz hmz' hbb
  · intro k es hk hes
    by_cases he : k = h.n
    · subst he
      rw [hfn] at hes
      simp only [LO.map.injEq] at hes
      subst hes
      rw [hin]
      refine ⟨#[], 0, by simp, rfl, ⟨fun i e hi => by simp at hi, List.nodup_nil⟩, fun i kv hi => by simp at hi⟩
    · have hk' := hlt k hk he
      rw [hf k hk'] at hes
      rw [hi k hk']
      obtain ⟨ents, clock, hw, h1, h2, h3⟩ := hr.maps k es hk' hes
      refine ⟨ents, clock, ?_, h1, h2, fun i kv hkv => ?_⟩
      · show (w.heap.push _)[_]? = _
        rw [hold _ (hr.base k hk' (by rw [hes]; rfl) (.inr (by rw [hes]; rfl))).2.1]; exact hw
      · obtain ⟨en, a1, a2, a3⟩ := h3 i kv hkv
        exact ⟨en, a1, a2, a3.mono hmono⟩

/-- A map's entries change. -/
theorem Rep.changeMap (hr : Rep R ι h B w) (hB : B ≤ w.heap.size) {k : Nat} (hk : k < h.n) {es' : List (Value × LV)} {ents' : Array MapEntry} {clock' : Nat} (hm0 : (h.f k).2.isMap = true)
    (hsz : ents'.size = es'.length) (hborn : ∀ (i : Nat) (e : MapEntry), ents'[i]? = some e → e.born < clock') (hnd : (es'.map (·.1)).Nodup)
    (hent : ∀ (i : Nat) (kv : Value × LV), es'[i]? = some kv → ∃ e : MapEntry, ents'[i]? = some e ∧ e.key = kv.1 ∧ Rv R ι h kv.2 e.val) :
    Trans B R ι h w R ι (h.set k ((h.f k).1, .map es')) { w with heap := w.heap.setIfInBounds (ι k).b (.map ents' clock') } := by
  have hmono : Mono R ι h R ι (h.set k ((h.f k).1, .map es')) := by
    refine ⟨fun _ _ hx => hx, Nat.le_refl _, fun j hj => ?_, fun j hj hv => rfl⟩
    by_cases e : j = k
    · subst e; simp [LH.set]
    · simp [LH.set, e]
  have hlive : (h.f k).2.live = true := by cases hob : (h.f k).2 <;> rw [hob] at hm0 <;> simp_all [LO.isMap, LO.live]
  have hf : ∀ j, j ≠ k → (h.set k ((h.f k).1, .map es')).f j = h.f j := fun j hj => by simp [LH.set, hj]
  have hfk : (h.set k ((h.f k).1, .map es')).f k = ((h.f k).1, .map es') := by simp [LH.set]
  obtain ⟨xb1, xb2, xb3⟩ := hr.base k hk hlive (.inr hm0)
  have hold : ∀ b, b ≠ (ι k).b → (w.heap.setIfInBounds (ι k).b (Obj.map ents' clock'))[b]? = w.heap[b]? := fun b hb => by
    rw [Array.getElem?_setIfInBounds, if_neg (fun e => hb e.symm)]
  have hne : ∀ j, j < h.n → j ≠ k → (h.f j).2.live = true → ((ι j).m ≠ 0 ∨ (h.f j).2.isMap = true) → (ι j).b ≠ (ι k).b := by
    intro j hj hjk hlv hmz e
    exact hjk (hr.apart j k hj hk hlv hlive hmz (.inr hm0) e)
  refine ⟨⟨?_, ?_, ?_, ?_, ?_, ?_⟩, hmono, ⟨rfl, rfl, rfl, by simp, fun b hb => hold b (by omega)⟩, fun _ _ => rfl, hB⟩
  · intro b o hb
    have h1 := hr.ro b o hb
    show (w.heap.setIfInBounds _ _)[b]? = some o
    rw [hold b (fun e => by rw [e, xb3] at hb; simp at hb)]; exact h1
  · intro j hj hlv hmp hmz
    by_cases e : j = k
    · subst e; rw [hfk] at hmp; simp [LO.isMap] at hmp
    · rw [hf j e] at hlv hmp ⊢
      obtain ⟨cl, e', hw, hs, hz, hpl, hcl⟩ := (hr.cells j hj hlv hmp hmz).ex
      refine ⟨cl, e', ?_, hs, hz, hpl, fun i c' lv hx => ?_⟩
      · show (w.heap.setIfInBounds _ _)[_]? = _
        rw [hold _ (hne j hj e hlv (.inl hmz))]; exact hw
      · obtain ⟨v, h1, h2⟩ := hcl i c' lv hx
        exact ⟨v, h1, h2.mono hmono⟩
  · intro j hj hlv hmp hmz
    by_cases e : j = k
    · subst e; rw [hfk] at hmp; simp [LO.isMap] at hmp
    · rw [hf j e] at hlv hmp ⊢
      exact hr.empty j hj hlv hmp hmz
  · intro j hj hlv hmz
    by_cases e : j = k
    · subst e; exact ⟨xb1, by simpa using xb2, xb3⟩
    · rw [hf j e] at hlv hmz
      obtain ⟨a, b, c⟩ := hr.base j hj hlv hmz
      exact ⟨a, by simpa using b, c⟩
  · intro j j' hj hj' hlv hlv' hmz hmz' hbb
    by_cases e : j = k
    · by_cases e' : j' = k
      · omega
      · exfalso
        subst e
        rw [hf j' e'] at hlv' hmz'
        exact hne j' hj' e' hlv' hmz' hbb.symm
    · rw [hf j e] at hlv hmz
      by_cases e' : j' = k
      · exfalso
        subst e'
        exact hne j hj e hlv hmz hbb
      · rw [hf j' e'] at hlv' hmz'
        exact hr.apart j j' hj hj' hlv hlv' hmz hmz' hbb
  · intro j es hj hes
    by_cases e : j = k
    · subst e
      rw [hfk] at hes
      simp only [LO.map.injEq] at hes
      subst hes
      refine ⟨ents', clock', ?_, hsz, ⟨hborn, hnd⟩, fun i kv hkv => ?_⟩
      · show (w.heap.setIfInBounds _ _)[_]? = _
        rw [Array.getElem?_setIfInBounds]; simp [xb2]
      · obtain ⟨en, a1, a2, a3⟩ := hent i kv hkv
        exact ⟨en, a1, a2, a3.mono hmono⟩
    · rw [hf j e] at hes
      obtain ⟨ents, clock, hw, h1, h2, h3⟩ := hr.maps j es hj hes
      have hlv : (h.f j).2.live = true := by rw [hes]; rfl
      have hmp : (h.f j).2.isMap = true := by rw [hes]; rfl
      refine ⟨ents, clock, ?_, h1, h2, fun i kv hkv => ?_⟩
      · show (w.heap.setIfInBounds _ _)[_]? = _
        rw [hold _ (hne j hj e hlv (.inr hmp))]; exact hw
      · obtain ⟨en, a1, a2, a3⟩ := h3 i kv hkv
        exact ⟨en, a1, a2, a3.mono hmono⟩

def stV1 : LO → Nat → Nat → LV → LO
  | .box cs, _, c, v => .box (cs.set c v)
  | .ints xs, i, _, v => .ints (xs.set i (intOfV v))
  | .bools xs, i, _, v => .bools (xs.set i (boolOf v))
  | .row sz n f, i, c, v => .row sz n (fun j => if j = i then (f i).set c v else f j)
  | ob, _, _, _ => ob
def isI64 : LV → Prop
  | .sc (.int .i64 _) => True
  | _ => False
def stC1 : LO → Nat → Nat → Nat → LV → Prop
  | .box cs, sz, i, c, v => sz = 0 ∧ i = 0 ∧ c < cs.length ∧ isCell v = true
  | .ints xs, sz, i, c, v => sz = 1 ∧ c = 0 ∧ i < xs.length ∧ isI64 v
  | .bools xs, sz, i, c, v => sz = 1 ∧ c = 0 ∧ i < xs.length ∧ isBool v
  | .row sz' n f, sz, i, c, v => sz = sz' ∧ c < sz ∧ i < n ∧ (f i).length = sz ∧ isCell v = true
  | _, _, _, _, _ => False
def stV : LO → Nat → Nat → List LV → LO
  | ob, _, _, [] => ob
  | ob, i, c, v :: r => stV (stV1 ob i c v) i (c + 1) r
def stC : LO → Nat → Nat → Nat → List LV → Prop
  | _, _, _, _, [] => True
  | ob, sz, i, c, v :: r => stC1 ob sz i c v ∧ stC (stV1 ob i c v) sz i (c + 1) r

theorem setCell_cells {a : Addr} {v : Value} {c : Array Value} {e : TypeId} (hs : a.spot = none) (hw : w.heap[a.block]? = some (.cells c e (0, 0))) :
    (w.setCell a v).heap[a.block]? = some (.cells (c.setIfInBounds a.off v) e (0, 0)) := by
  simp [World.setCell, Array.getElem?_modify, hw, hs]

end
end Go.Proofs.Ytfhifkcbdpgomaa
