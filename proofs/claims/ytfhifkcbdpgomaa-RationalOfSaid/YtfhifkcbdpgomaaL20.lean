/- The lifted layer, part 20: what is handed to a call may become read-only for good. Conditions: none. -/
import Derived.Test.YtfhifkcbdpgomaaL19
namespace Go.Proofs.Ytfhifkcbdpgomaa
set_option linter.unusedSimpArgs false
set_option linter.unusedVariables false
open Go.RowKit

/-- The handles of a value stand for objects of a list. -/
def hd1 (D : List Nat) : LV → Prop
  | .sl k _ _ _ _ => k ∈ D
  | .mp k _ => k ∈ D
  | _ => True
def hdL (D : List Nat) : List LV → Prop
  | [] => True
  | x :: r => hd1 D x ∧ hdL D r
def hdO (D : List Nat) : LO → Prop
  | .box cs => hdL D cs
  | _ => True
def hd2 (D : List Nat) (h : LH) : LV → Prop
  | .agg cs => hdL D cs
  | .ptr k _ _ _ _ => k ∈ D ∧ hdO D (h.f k).2
  | .fn _ cs => hdL D cs
  | x => hd1 D x
def hdL2 (D : List Nat) (h : LH) : List LV → Prop
  | [] => True
  | x :: r => hd2 D h x ∧ hdL2 D h r
/-- Objects that may no longer be named. -/
def killH (h : LH) : List Nat → LH
  | [] => h
  | k :: r => killH (h.set k ((h.f k).1, .dead)) r

section
variable {P : Program} {N B : Nat} {R R' R0 : RO} {ι ι0 : IM} {h h0 : LH} {w w0 : World} {s : LS} {a : Act} {D : List Nat}

theorem hdL_get : ∀ {l : List LV} {i : Nat} {x : LV}, hdL D l → l[i]? = some x → hd1 D x
  | [], _, _, _, hx => by simp at hx
  | y :: r, 0, x, h, hx => by simp at hx; subst hx; exact h.1
  | y :: r, i + 1, x, h, hx => hdL_get h.2 (by simpa using hx)
theorem hdL2_get : ∀ {l : List LV} {i : Nat} {x : LV}, hdL2 D h l → l[i]? = some x → hd2 D h x
  | [], _, _, _, hx => by simp at hx
  | y :: r, 0, x, h, hx => by simp at hx; subst hx; exact h.1
  | y :: r, i + 1, x, h, hx => hdL2_get h.2 (by simpa using hx)

theorem roTo1_okD (hrep : Rep R ι h B w) (hl : RoLe R R') (hfz : ∀ k, k ∈ D → k < h.n → (h.f k).2.live = true → ((ι k).m ≠ 0 ∨ (h.f k).2.isMap = true) → R' (ι k).b = w.heap[(ι k).b]?)
    {lv r : LV} {v : Value} (hr : Rv R ι h lv v) (ht : roTo1 h lv r) (hd : hd1 D lv) : Ro R' r v := by
  unfold roTo1 at ht
  split at ht
  · subst ht
    rw [hr.nsl_inv]
    exact .rsl _ _ _ none 0 0 0 (fun _ _ => undef) (Nat.le_refl _) (by unfold maxLen; omega) (fun h => absurd h (Nat.lt_irrefl _)) (fun i hi => absurd hi (Nat.not_lt_zero _)) (fun i j hi => absurd hi (Nat.not_lt_zero _)) (fun i j c hi => absurd hi (Nat.not_lt_zero _)) (fun i j hi => absurd hi (Nat.not_lt_zero _))
  · rename_i k ver sz off len sz' n f
    have hd' : k ∈ D := hd
    obtain ⟨rfl, rfl, hk, hver, hrng, hel⟩ := ht
    obtain ⟨a, cap, rfl, _, _, hlc, hm, hcase⟩ := hr.sl_inv
    have hlen : ∀ i, i < n → (f i).length = sz' := by
      intro i hi
      rw [← (hel i hi).1]
      generalize (h.f k).2 = ob at hrng
      cases ob with
      | ints xs => exact hrng.1.symm
      | bools xs => exact hrng.1.symm
      | row s' n' f' => exact hrng.2.2 i hi
      | _ => exact hrng.elim
    have hall : ∀ i j, ∃ v, i < n → j < sz' → ∃ lv, (f i)[j]? = some lv ∧ w.cell? ⟨(ι k).b, (ι k).o + ((off + i) * sz' + j), none⟩ = some v ∧ Rv R ι h lv v ∧ plainV v = true ∧ R' (ι k).b = w.heap[(ι k).b]? := by
      intro i j
      by_cases hi : i < n
      · by_cases hj : j < sz'
        · obtain ⟨lv, v, e1, e2, e3, e4⟩ := rng_cells hrep hk hrng hi hj
          obtain ⟨_, _, _, _, g1, g2, g3⟩ := rngC_cell hrng hi hj
          rw [(hel i hi).1] at e1
          exact ⟨v, fun _ _ => ⟨lv, e1, e2, e3, e4, hfz k hd' hk g1 (.inl (fun e => g3 (hrep.empty k hk g1 g2 e)))⟩⟩
        · exact ⟨undef, fun _ h => absurd h hj⟩
      · exact ⟨undef, fun h => absurd h hi⟩
    have hall2 : ∀ i, ∃ g : Nat → Value, ∀ j, i < n → j < sz' → ∃ lv, (f i)[j]? = some lv ∧ w.cell? ⟨(ι k).b, (ι k).o + ((off + i) * sz' + j), none⟩ = some (g j) ∧ Rv R ι h lv (g j) ∧ plainV (g j) = true ∧ R' (ι k).b = w.heap[(ι k).b]? :=
      fun i => Classical.axiomOfChoice (hall i)
    obtain ⟨g, hg⟩ := Classical.axiomOfChoice hall2
    refine .rsl _ _ _ a cap (ι k).b ((ι k).o + off * sz') g hlc hm ?_ hlen ?_ ?_ ?_
    · intro h0
      rcases hcase with h9 | h9
      · omega
      · exact (h9 hver.symm).1
    · intro i j hi hj
      obtain ⟨lv, _, e2, _, _, e5⟩ := hg i j hi hj
      unfold roCell
      rw [e5]
      unfold World.cell? at e2
      simp only at e2
      have e9 : (ι k).o + off * sz' + i * sz' + j = (ι k).o + ((off + i) * sz' + j) := by rw [Nat.add_mul]; omega
      rw [e9]
      split at e2
      · rename_i c _ _ hw
        rw [hw]
        simpa using e2
      · simp at e2
    · intro i j c hi hc
      have hj : j < sz' := by
        have := (List.getElem?_eq_some_iff.1 hc).1
        rw [hlen i hi] at this; exact this
      obtain ⟨lv, e1, _, e3, _⟩ := hg i j hi hj
      rw [e1] at hc
      injection hc with hc
      subst hc
      exact roish1_ok e3 hl (roishL_get (hel i hi).2 e1)
    · intro i j hi hj
      exact (hg i j hi hj).choose_spec.2.2.2.1
  · rename_i k ver ds
    have hd' : k ∈ D := hd
    obtain ⟨hk, hver, hob, hro⟩ := ht
    obtain ⟨b, rfl, _, _, hb⟩ := hr.mp_inv
    have := hb hver.symm
    subst this
    obtain ⟨ents, clock, h1, h2, h3, h4⟩ := hrep.maps k ds hk hob
    refine .rmp ds _ ents clock ?_ h2 h3.2 (fun i kv hi => let ⟨e, a, b, _⟩ := h4 i kv hi; ⟨e, a, b⟩) (fun i kv e hi he => ?_)
    · rw [hfz k hd' hk (by rw [hob]; rfl) (.inr (by rw [hob]; rfl))]; exact h1
    · obtain ⟨e', a, _, c⟩ := h4 i kv hi
      rw [he] at a
      injection a with a
      subst a
      exact roish1_ok c hl (hro kv (List.mem_of_getElem? hi))
  · obtain ⟨rfl, hi⟩ := ht
    exact roish1_ok hr hl hi

theorem roTo2_okD (hrep : Rep R ι h B w) (hl : RoLe R R') (hfz : ∀ k, k ∈ D → k < h.n → (h.f k).2.live = true → ((ι k).m ≠ 0 ∨ (h.f k).2.isMap = true) → R' (ι k).b = w.heap[(ι k).b]?)
    {lv r : LV} {v : Value} (hr : Rv R ι h lv v) (ht : roTo2 h lv r) (hd : hd2 D h lv) : Ro R' r v := by
  unfold roTo2 at ht
  split at ht
  · rename_i cs ds
    obtain ⟨vs, rfl, h1, h2, h3⟩ := hr.agg_inv
    obtain ⟨g1, g2⟩ := roToL_get ht
    refine .agg _ _ (by omega) (fun i c hi => ?_) h3
    obtain ⟨x, hx, hx2⟩ := g2 i c hi
    exact roTo1_okD hrep hl hfz (h2 i x hx) hx2 (hdL_get hd hx)
  · rename_i k ver sz i c ds
    obtain ⟨hd1', hd2'⟩ := hd
    obtain ⟨hk, hver, rfl, rfl, rfl, hm⟩ := ht
    obtain ⟨a, rfl, _, _, ha⟩ := hr.ptr_inv
    rw [ha hver.symm]
    split at hm
    · rename_i cs hob
      rw [hob] at hd2'
      obtain ⟨g1, g2⟩ := roToL_get hm
      by_cases h0 : cs.length = 0
      · have : ds = [] := List.length_eq_zero_iff.1 (by omega)
        subst this
        exact .rptr _ _ _ (fun _ => undef) (fun j hj => absurd hj (Nat.not_lt_zero _)) (fun j c hc => by simp at hc) (fun j hj => absurd hj (Nat.not_lt_zero _))
      · have hlive : (h.f k).2.live = true := by rw [hob]; rfl
        have hmap : (h.f k).2.isMap = false := by rw [hob]; rfl
        have hm0 : (ι k).m ≠ 0 := fun e => by
          have := hrep.empty k hk hlive hmap e
          rw [hob] at this; exact h0 this
        obtain ⟨cl, e, hw, hsz, _, hp, hcl⟩ := (hrep.cells k hk hlive hmap hm0).ex
        have hfzk := hfz k hd1' hk hlive (.inl hm0)
        rw [hob] at hcl
        have key : ∀ j y, ds[j]? = some y → ∃ x u, cs[j]? = some x ∧ roTo1 h x y ∧ cl[(ι k).o + j]? = some u ∧ Rv R ι h x u := by
          intro j y hy
          obtain ⟨x, hx, hx2⟩ := g2 j y hy
          obtain ⟨u, hu1, hu2⟩ := hcl 0 j x (by simp [cellAt, hx])
          exact ⟨x, u, hx, hx2, by simpa [LO.sz] using hu1, hu2⟩
        refine .rptr _ _ _ (fun j => cl.getD ((ι k).o + j) undef) (fun j hj => ?_) (fun j y hy => ?_) (fun j hj => ?_)
        · obtain ⟨x, u, _, _, e3, _⟩ := key j ds[j] (List.getElem?_eq_getElem hj)
          unfold roCell
          rw [hfzk, hw]
          simp only [Nat.zero_mul, Nat.add_zero]
          rw [Array.getD_eq_getD_getElem?, e3]; rfl
        · obtain ⟨x, u, e1, e2, e3, e4⟩ := key j y hy
          rw [Array.getD_eq_getD_getElem?, e3]
          exact roTo1_okD hrep hl hfz e4 e2 (hdL_get hd2' e1)
        · obtain ⟨x, u, _, _, e3, _⟩ := key j ds[j] (List.getElem?_eq_getElem hj)
          exact hp _ (Array.getElem?_eq_some_iff.1 e3).1
    · exact hm.elim
  · rename_i f cs g ds
    obtain ⟨rfl, ht⟩ := ht
    obtain ⟨vs, rfl, h1, h2⟩ := hr.fn_inv
    obtain ⟨g1, g2⟩ := roToL_get ht
    refine .fn _ _ _ (by omega) (fun i c hi => ?_)
    obtain ⟨x, hx, hx2⟩ := g2 i c hi
    exact roTo1_okD hrep hl hfz (h2 i x hx) hx2 (hdL_get hd hx)
  · rename_i h1 h2 h3
    refine roTo1_okD hrep hl hfz hr ht ?_
    cases lv with
    | agg cs =>
      unfold roTo1 at ht
      split at ht
      · contradiction
      · contradiction
      · contradiction
      · exact ht.2.elim
    | ptr k ver sz i c =>
      unfold roTo1 at ht
      split at ht
      · contradiction
      · contradiction
      · contradiction
      · exact ht.2.elim
    | fn f cs =>
      unfold roTo1 at ht
      split at ht
      · contradiction
      · contradiction
      · contradiction
      · exact ht.2.elim
    | _ => exact hd

theorem killH_n : ∀ (D : List Nat) (h : LH), (killH h D).n = h.n
  | [], _ => rfl
  | k :: r, h => by rw [killH, killH_n r]; rfl
theorem killH_f : ∀ (D : List Nat) (h : LH) (k : Nat), (killH h D).f k = if k ∈ D then ((h.f k).1, .dead) else h.f k
  | [], _, _ => by simp [killH]
  | j :: r, h, k => by
    rw [killH, killH_f r]
    have hs : (h.set j ((h.f j).1, .dead)).f k = if k = j then ((h.f j).1, LO.dead) else h.f k := rfl
    rw [hs]
    by_cases e : k = j
    · subst e; simp
    · simp [e]
/-- The read-only part grows by the objects that are given up. -/
theorem trans_kill (hB : B ≤ w.heap.size) (hr : Rep R ι h B w) (D : List Nat) :
    ∃ R', RoLe R R' ∧ (∀ k, k ∈ D → k < h.n → (h.f k).2.live = true → ((ι k).m ≠ 0 ∨ (h.f k).2.isMap = true) → R' (ι k).b = w.heap[(ι k).b]?) ∧ Trans B R ι h w R' ι (killH h D) w := by
  have hcl : ∀ b, ∃ o : Option Obj, (∀ k, k ∈ D → k < h.n → (h.f k).2.live = true → ((ι k).m ≠ 0 ∨ (h.f k).2.isMap = true) → b = (ι k).b → o = w.heap[b]?) ∧ ((∀ k, k ∈ D → k < h.n → (h.f k).2.live = true → ((ι k).m ≠ 0 ∨ (h.f k).2.isMap = true) → b ≠ (ι k).b) → o = R b) := by
    intro b
    by_cases hx : ∃ k, k ∈ D ∧ k < h.n ∧ (h.f k).2.live = true ∧ ((ι k).m ≠ 0 ∨ (h.f k).2.isMap = true) ∧ b = (ι k).b
    · obtain ⟨k, h1, h2, h3, h4, h5⟩ := hx
      exact ⟨w.heap[b]?, fun _ _ _ _ _ _ => rfl, fun hn => absurd h5 (hn k h1 h2 h3 h4)⟩
    · exact ⟨R b, fun k h1 h2 h3 h4 h5 => absurd ⟨k, h1, h2, h3, h4, h5⟩ hx, fun _ => rfl⟩
  obtain ⟨R', hR'⟩ := Classical.axiomOfChoice hcl
  have hle : RoLe R R' := by
    intro b o hb
    have : R' b = R b := (hR' b).2 fun k h1 h2 h3 h4 h5 => by
      have := (hr.base k h2 h3 h4).2.2
      rw [← h5, hb] at this; simp at this
    rw [this]; exact hb
  have hfz : ∀ k, k ∈ D → k < h.n → (h.f k).2.live = true → ((ι k).m ≠ 0 ∨ (h.f k).2.isMap = true) → R' (ι k).b = w.heap[(ι k).b]? := fun k h1 h2 h3 h4 => (hR' _).1 k h1 h2 h3 h4 rfl
  have hn := killH_n D h
  have hlv : ∀ k, ((killH h D).f k).2.live = true → k ∉ D ∧ (killH h D).f k = h.f k := by
    intro k hk
    rw [killH_f] at hk ⊢
    by_cases e : k ∈ D
    · rw [if_pos e] at hk; simp [LO.live] at hk
    · rw [if_neg e]; exact ⟨e, rfl⟩
  have hmono : Mono R ι h R' ι (killH h D) := ⟨hle, by omega, fun k _ => by rw [killH_f]; split <;> exact Nat.le_refl _, fun _ _ _ => rfl⟩
  refine ⟨R', hle, hfz, ⟨?_, ?_, ?_, ?_, ?_, ?_⟩, hmono, Below.refl _ _, fun b hb => ?_, hB⟩
  · intro b o hb
    by_cases hx : ∃ k, k ∈ D ∧ k < h.n ∧ (h.f k).2.live = true ∧ ((ι k).m ≠ 0 ∨ (h.f k).2.isMap = true) ∧ b = (ι k).b
    · obtain ⟨k, h1, h2, h3, h4, rfl⟩ := hx
      rw [hfz k h1 h2 h3 h4] at hb; exact hb
    · rw [(hR' b).2 fun k h1 h2 h3 h4 h5 => hx ⟨k, h1, h2, h3, h4, h5⟩] at hb
      exact hr.ro b o hb
  · intro k hk h1 h2 h3
    obtain ⟨_, e⟩ := hlv k h1
    rw [e] at h1 h2 ⊢
    obtain ⟨cl, el, q1, q2, q3, q4, q5⟩ := (hr.cells k (by omega) h1 h2 h3).ex
    exact ⟨cl, el, q1, q2, q3, q4, fun i c lv hx => let ⟨v, a1, a2⟩ := q5 i c lv hx; ⟨v, a1, a2.mono hmono⟩⟩
  · intro k hk h1 h2 h3
    obtain ⟨_, e⟩ := hlv k h1
    rw [e] at h1 h2 ⊢
    exact hr.empty k (by omega) h1 h2 h3
  · intro k hk h1 h2
    obtain ⟨hD, e⟩ := hlv k h1
    rw [e] at h1 h2
    obtain ⟨g1, g2, g3⟩ := hr.base k (by omega) h1 h2
    refine ⟨g1, g2, ?_⟩
    rw [(hR' _).2 fun j j1 j2 j3 j4 j5 => hD (by rw [hr.apart k j (by omega) j2 h1 j3 h2 j4 j5]; exact j1)]
    exact g3
  · intro k k' hk hk' h1 h2 h3 h4
    obtain ⟨_, e⟩ := hlv k h1
    obtain ⟨_, e'⟩ := hlv k' h2
    rw [e] at h1 h3
    rw [e'] at h2 h4
    exact hr.apart k k' (by omega) (by omega) h1 h2 h3 h4
  · intro k es hk he
    obtain ⟨_, e⟩ := hlv k (by rw [he]; rfl)
    rw [e] at he
    obtain ⟨ents, clock, q1, q2, q3, q4⟩ := hr.maps k es (by omega) he
    exact ⟨ents, clock, q1, q2, q3, fun i kv hkv => let ⟨en, a1, a2, a3⟩ := q4 i kv hkv; ⟨en, a1, a2, a3.mono hmono⟩⟩
  · exact (hR' b).2 fun k h1 h2 h3 h4 h5 => by
      have := (hr.base k h2 h3 h4).1
      omega
/-- A call whose arguments are read-only from then on, and may no longer be named. -/
theorem lcall_kill {f : FuncId} {args args' : List LV} {r : LV} (D : List Nat) (he : Ev P f args' r) (ha : roToL2 h args args') (hd : hdL2 D h args) : LCall P f args h r (killH h D) := by
  intro B R ι w vs hB hr hsz hargs
  obtain ⟨g1, g2⟩ := roToL2_get ha
  obtain ⟨R', hle, hfz, hT⟩ := trans_kill hB hr D
  refine (he R' w vs hT.rep.ro (by omega) (fun i a hi => ?_)).mono ?_
  · obtain ⟨x, hx, hx2⟩ := g2 i a hi
    exact roTo2_okD hr hle hfz (hargs i x hx) hx2 (hdL2_get hd hx)
  · intro e w' hx
    obtain ⟨v, R2, rfl, h1, h2, h3, h4, h5⟩ := hx
    exact ⟨v, R2, ι, rfl, hT.trans (trans_call hB hT.rep h3 h4 h1 h2 rfl), .ro h5⟩
theorem callK_kill {al al' : List LV} {f : FuncId} {k : LV → LH → Prop} {r : LV} (D : List Nat) (he : Ev P f al' r) (ha : roToL2 h al al') (hd : hdL2 D h al) (hk : k r (killH h D)) : @callK P f al h ⟨k⟩ := ⟨r, _, lcall_kill D he ha hd, hk⟩
/-- Some slots are seen as read-only from now on, and the objects that they name may no longer be named. -/
def frzC (h : LH) (s : LS) (D : List Nat) : List (Nat × LV) → Prop
  | [] => True
  | (t, v) :: r => roTo2 h (s t) v ∧ hd2 D h (s t) ∧ frzC h s D r
def updL (s : LS) : List (Nat × LV) → LS
  | [] => s
  | (t, v) :: r => upd (updL s r) t v
theorem frz_to {l : List (Nat × LV)} (hc : frzC h s D l) : FrzTo s h (updL s l) (killH h D) := by
  intro B R ι w hB hr
  obtain ⟨R', hle, hfz, hT⟩ := trans_kill hB hr D
  refine ⟨R', hT, ?_⟩
  intro t x hx
  induction l with
  | nil => exact hx.mono hT.mono
  | cons q l ih =>
    obtain ⟨u, v⟩ := q
    obtain ⟨h1, h2, h3⟩ := hc
    show Rv R' ι (killH h D) (if t = u then v else updL s l t) x
    by_cases e : t = u
    · subst e
      rw [if_pos rfl]
      exact .ro (roTo2_okD hr hle hfz hx h1 h2)
    · rw [if_neg e]; exact ih h3
theorem lwp_frz {nb : Nat} {a b : LC} {K : LS → LH → Prop} {E : Nat → LS → LH → Prop} {T : LS → LH → Prop} (D : List Nat) (l : List (Nat × LV))
    (h1 : lwp P nb a (fun s h => frzC h s D l ∧ lwp P nb b K E T (updL s l) (killH h D)) E T s h) : @lwpJ P nb a b ⟨K, E, T⟩ s h :=
  lwp_mono_k (c := a) h1 fun _ _ ⟨h2, h3⟩ => ⟨_, _, .inr (.inr (frz_to h2)), h3⟩
end

/-- Rules of the library, under one name. -/
theorem EVA :
    (∀ (p : Prop), (True ∧ p) = p)
    ∧ (∀ (p : Prop), (p ∧ True) = p)
    ∧ (∀ (p : Prop), (p ∧ p) = p)
    ∧ (∀ {α : Type}, List.length ([] : List α) = 0)
    ∧ (∀ {α : Type} {a : α} {xs : List α}, List.length (a :: xs) = List.length xs + 1)
    ∧ (∀ {α : Type} (xs : List α), [] ++ xs = xs)
    ∧ (∀ {α : Type} {a : α} {xs bs : List α}, a :: xs ++ bs = a :: (xs ++ bs))
    ∧ (∀ {α : Type} {x : α} {xs : List α} {d : α}, List.getD (x :: xs) 0 d = x)
    ∧ (∀ {α : Type} {x : α} {xs : List α} {n : Nat} {d : α}, List.getD (x :: xs) (n + 1) d = List.getD xs n d)
    ∧ (∀ {α : Type} {l : List α}, List.drop 0 l = l)
    ∧ (∀ {α : Type} {a : α} {l : List α} {i : Nat}, List.drop (i + 1) (a :: l) = List.drop i l)
    ∧ (∀ {α : Type} {a : α} {xs : List α} {i : Nat}, List.take (i + 1) (a :: xs) = a :: List.take i xs)
    ∧ (∀ {α : Type} {l : List α}, List.take 0 l = ([] : List α))
    ∧ (∀ {α : Type} {x : α} {xs : List α} {a : α}, List.set (x :: xs) 0 a = a :: xs)
    ∧ (∀ {α : Type} {x : α} {xs : List α} {i : Nat} {a : α}, List.set (x :: xs) (i + 1) a = x :: List.set xs i a)
    ∧ (∀ {α : Type} {β : Type} {f : α → β}, List.map f ([] : List α) = [])
    ∧ (∀ {α : Type} {β : Type} {f : α → β} {a : α} {l : List α}, List.map f (a :: l) = f a :: List.map f l)
    ∧ (∀ {α : Type} {b : α} {l : List α} {a : α}, a ∈ b :: l ↔ a = b ∨ a ∈ l)
    ∧ (∀ {α : Type} {a : α}, ¬a ∈ ([] : List α))
    ∧ (∀ (a : Prop), False → a ↔ True)
    ∧ (∀ (p : Prop), (p ∨ False) = p)
    ∧ (∀ {a : Prop}, a → a ↔ True)
    ∧ (∀ (n : Nat), 0 + n = n)
    ∧ (∀ (n : Nat), n + 0 = n)
    ∧ (∀ (b : Bool), (true && b) = b)
    ∧ (∀ (b : Bool), (b && true) = b)
    ∧ ((!true) = false)
    ∧ ((!false) = true)
    ∧ (∀ (b : Bool), (b && false) = false)
    ∧ (∀ (b : Bool), (false && b) = false)
    ∧ (∀ (n : Nat), Int.toNat ↑n = n)
    ∧ (∀ (n m : Nat), ((n + m : Nat) : Int) = (n : Int) + (m : Int))
    ∧ (∀ (v v_1 : Value), (LV.sc v = LV.sc v_1) = (v = v_1))
    ∧ (∀ (k : IntKind) (n : Int) (k_1 : IntKind) (n_1 : Int), (Value.int k n = Value.int k_1 n_1) = (k = k_1 ∧ n = n_1))
    ∧ (∀ (b b_1 : Bool), (Value.bool b = Value.bool b_1) = (b = b_1))
    ∧ (∀ (s s_1 : ByteArray), (Value.string s = Value.string s_1) = (s = s_1))
    ∧ (∀ {α : Type} {β : Type} (fst : α) (snd : β) (fst_1 : α) (snd_1 : β), ((fst, snd) = (fst_1, snd_1)) = (fst = fst_1 ∧ snd = snd_1))
    ∧ (∀ (es es_1 : List (Value × LV)), (LO.map es = LO.map es_1) = (es = es_1))
    ∧ (∀ (xs xs_1 : List Int), (LO.ints xs = LO.ints xs_1) = (xs = xs_1))
    ∧ (∀ (xs xs_1 : List Bool), (LO.bools xs = LO.bools xs_1) = (xs = xs_1))
    ∧ (∀ (cs cs_1 : List LV), (LO.box cs = LO.box cs_1) = (cs = cs_1))
    ∧ (∀ (n : Nat), 0 * n = 0)
    ∧ (∀ (n : Nat), 1 * n = n)
    ∧ (∀ (b : Bool), (!!b) = b)
    ∧ (∀ {n : Nat}, List.range (Nat.succ n) = List.range n ++ [n])
    ∧ (List.range 0 = [])
    ∧ (∀ {α : Type} {β : Type} {f : α → β} {l₁ l₂ : List α}, List.map f (l₁ ++ l₂) = List.map f l₁ ++ List.map f l₂)
    ∧ (∀ {α : Type} {β : Type} (a : α) (f : α → β), Option.map f (some a) = some (f a))
    ∧ (∀ {α : Type} {β : Type} (f : α → β), Option.map f none = none)
    ∧ (∀ {α : Type} (val val_1 : α), (some val = some val_1) = (val = val_1)) :=
  ⟨@true_and,
    @and_true,
    @and_self,
    @List.length_nil,
    @List.length_cons,
    @List.nil_append,
    @List.cons_append,
    @List.getD_cons_zero,
    @List.getD_cons_succ,
    @List.drop_zero,
    @List.drop_succ_cons,
    @List.take_succ_cons,
    @List.take_zero,
    @List.set_cons_zero,
    @List.set_cons_succ,
    @List.map_nil,
    @List.map_cons,
    @List.mem_cons,
    @List.not_mem_nil,
    @false_imp_iff,
    @or_false,
    @imp_self,
    @Nat.zero_add,
    @Nat.add_zero,
    @Bool.true_and,
    @Bool.and_true,
    @Bool.not_true,
    @Bool.not_false,
    @Bool.and_false,
    @Bool.false_and,
    @Int.toNat_natCast,
    @Int.natCast_add,
    @LV.sc.injEq,
    @Value.int.injEq,
    @Value.bool.injEq,
    @Value.string.injEq,
    @Prod.mk.injEq,
    @LO.map.injEq,
    @LO.ints.injEq,
    @LO.bools.injEq,
    @LO.box.injEq,
    @Nat.zero_mul,
    @Nat.one_mul,
    @Bool.not_not,
    @List.range_succ,
    @List.range_zero,
    @List.map_append,
    @Option.map_some,
    @Option.map_none,
    @Option.some.injEq⟩
theorem EVK :
    (∀ (h : LH), killH h [] = h)
    ∧ (∀ (h : LH) (k : Nat) (r : List Nat), killH h (k :: r) = killH (h.set k ((h.f k).1, .dead)) r)
    ∧ (∀ (D : List Nat) (h : LH), hdL2 D h [] = True)
    ∧ (∀ (D : List Nat) (h : LH) (x : LV) (r : List LV), hdL2 D h (x :: r) = (hd2 D h x ∧ hdL2 D h r))
    ∧ (∀ (D : List Nat), hdL D [] = True)
    ∧ (∀ (D : List Nat) (x : LV) (r : List LV), hdL D (x :: r) = (hd1 D x ∧ hdL D r))
    ∧ (∀ (D : List Nat) (h : LH) (cs : List LV), hd2 D h (.agg cs) = hdL D cs)
    ∧ (∀ (D : List Nat) (h : LH) (k v z i c : Nat), hd2 D h (.ptr k v z i c) = (k ∈ D ∧ hdO D (h.f k).2))
    ∧ (∀ (D : List Nat) (h : LH) (f : FuncId) (cs : List LV), hd2 D h (.fn f cs) = hdL D cs)
    ∧ (∀ (D : List Nat) (h : LH) (v : Value), hd2 D h (.sc v) = True)
    ∧ (∀ (D : List Nat) (h : LH), hd2 D h .nsl = True)
    ∧ (∀ (D : List Nat) (h : LH) (z n : Nat) (f : Nat → List LV), hd2 D h (.rsl z n f) = True)
    ∧ (∀ (D : List Nat) (h : LH) (cs : List LV), hd2 D h (.rptr cs) = True)
    ∧ (∀ (D : List Nat) (h : LH) (es : List (Value × LV)), hd2 D h (.rmp es) = True)
    ∧ (∀ (D : List Nat) (h : LH) (k v z o n : Nat), hd2 D h (.sl k v z o n) = (k ∈ D))
    ∧ (∀ (D : List Nat) (h : LH) (k v : Nat), hd2 D h (.mp k v) = (k ∈ D))
    ∧ (∀ (D : List Nat) (v : Value), hd1 D (.sc v) = True)
    ∧ (∀ (D : List Nat), hd1 D .nsl = True)
    ∧ (∀ (D : List Nat) (z n : Nat) (f : Nat → List LV), hd1 D (.rsl z n f) = True)
    ∧ (∀ (D : List Nat) (cs : List LV), hd1 D (.rptr cs) = True)
    ∧ (∀ (D : List Nat) (es : List (Value × LV)), hd1 D (.rmp es) = True)
    ∧ (∀ (D : List Nat) (k v z i c : Nat), hd1 D (.ptr k v z i c) = True)
    ∧ (∀ (D : List Nat) (k v z o n : Nat), hd1 D (.sl k v z o n) = (k ∈ D))
    ∧ (∀ (D : List Nat) (k v : Nat), hd1 D (.mp k v) = (k ∈ D))
    ∧ (∀ (D : List Nat) (cs : List LV), hdO D (.box cs) = hdL D cs) :=
  ⟨fun _ => rfl, fun _ _ _ => rfl, fun _ _ => rfl, fun _ _ _ _ => rfl, fun _ => rfl, fun _ _ _ => rfl, fun _ _ _ => rfl, fun _ _ _ _ _ _ _ => rfl, fun _ _ _ _ => rfl, fun _ _ _ => rfl, fun _ _ => rfl, fun _ _ _ _ _ => rfl, fun _ _ _ => rfl, fun _ _ _ => rfl,
    fun _ _ _ _ _ _ _ => rfl, fun _ _ _ _ => rfl, fun _ _ => rfl, fun _ => rfl, fun _ _ _ _ => rfl, fun _ _ => rfl, fun _ _ => rfl, fun _ _ _ _ _ _ => rfl, fun _ _ _ _ _ _ => rfl, fun _ _ _ => rfl, fun _ _ => rfl⟩
end Go.Proofs.Ytfhifkcbdpgomaa
