/- The lifted layer, part 18: the rules of loops and of joins, as one uses them. Conditions: none. -/
import Derived.Test.YtfhifkcbdpgomaaL17
namespace Go.Proofs.Ytfhifkcbdpgomaa
set_option linter.unusedSimpArgs false
set_option linter.unusedVariables false
open Go.RowKit

theorem lops_mono {P : Program} : ∀ {l : List LX} {K K' : LS → LH → Prop} {s : LS} {h : LH}, lops P l K s h → (∀ s h, K s h → K' s h) → lops P l K' s h
  | [], _, _, _, _, hw, hk => hk _ _ hw
  | _ :: _, _, _, _, _, ⟨v, h', h1, h2⟩, hk => ⟨v, h', h1, fun hf => lops_mono (h2 hf) hk⟩
theorem lopsE_mono {P : Program} : ∀ {m : List LX} {K K' : LS → LH → Prop} {s : LS} {h : LH}, lopsE P m K s h → (∀ s h, K s h → K' s h) → lopsE P m K' s h
  | [], _, _, _, _, hw, hk => hk _ _ hw
  | _ :: _, _, _, _, _, ⟨v, h', h1, h2⟩, hk => ⟨v, h', h1, lopsE_mono h2 hk⟩
theorem lopsA_mono {P : Program} : ∀ {m : List (List LX)} {K K' : LS → LH → Prop} {s : LS} {h : LH}, lopsA P m K s h → (∀ s h, K s h → K' s h) → lopsA P m K' s h
  | [], _, _, _, _, _, _ => trivial
  | _ :: _, _, _, _, _, ⟨h1, h2⟩, hk => ⟨lopsE_mono h1 hk, lopsA_mono h2 hk⟩
theorem lopsD_mono {P : Program} {m : List (List LX)} : ∀ {l : List LX} {K K' : LS → LH → Prop} {s : LS} {h : LH}, lopsD P l m K s h → (∀ s h, K s h → K' s h) → lopsD P l m K' s h
  | [], _, _, _, _, hw, hk => lopsA_mono hw hk
  | _ :: _, _, _, _, _, ⟨v, h1, h2⟩, hk => ⟨v, h1, lopsD_mono h2 hk⟩
theorem lwp_mono {P : Program} {nb : Nat} {c : LC} : ∀ {K K' : LS → LH → Prop} {E E' : Nat → LS → LH → Prop} {T T' : LS → LH → Prop} {s : LS} {h : LH}, lwp P nb c K E T s h → (∀ s h, K s h → K' s h) → (∀ j s h, E j s h → E' j s h) → (∀ s h, T s h → T' s h) → lwp P nb c K' E' T' s h := by
  induction c with
  | skip => intro K K' E E' T T' s h hw hk _ _; exact hk _ _ hw
  | reg l => intro K K' E E' T T' s h hw hk _ _; exact lops_mono (l := l) hw hk
  | dreg l lf => intro K K' E E' T T' s h hw hk _ _; exact lopsD_mono (l := l) hw hk
  | seq a b iha ihb => intro K K' E E' T T' s h hw hk he ht; exact iha (K := fun s h => lwp P nb b K E T s h) hw (fun _ _ hx => ihb hx hk he ht) he ht
  | seqj a b iha ihb =>
    intro K K' E E' T T' s h hw hk he ht
    exact iha (K := fun s h => ∃ s' h', Wk nb s h s' h' ∧ lwp P nb b K E T s' h') hw (fun _ _ ⟨s', h', h1, h2⟩ => ⟨s', h', h1, ihb h2 hk he ht⟩) he ht
  | cond c a b iha ihb =>
    intro K K' E E' T T' s h hw hk he ht
    simp only [lwp] at hw ⊢
    exact ⟨hw.1, hw.2.1, fun hg => iha (hw.2.2.1 hg) hk he ht, fun hg => ihb (hw.2.2.2 hg) hk he ht⟩
  | block id a iha =>
    intro K K' E E' T T' s h hw hk he ht
    simp only [lwp] at hw ⊢
    refine iha hw hk (fun j s h hx => ?_) ht
    by_cases e : j = id
    · rw [if_pos e] at hx ⊢; exact hk _ _ hx
    · rw [if_neg e] at hx ⊢; exact he _ _ _ hx
  | loop a iha =>
    intro K K' E E' T T' s h hw hk he ht
    simp only [lwp] at hw ⊢
    obtain ⟨α, I, sv, ho, μ, x0, h0, h1, h2, h3⟩ := hw
    exact ⟨α, I, sv, ho, μ, x0, h0, h1, h2, fun x hx => iha (h3 x hx) (fun _ _ h => h) he ht⟩
  | exit id => intro K K' E E' T T' s h hw _ he _; exact he _ _ _ hw
  | ret => intro K K' E E' T T' s h hw _ _ ht; exact ht _ _ hw
theorem lwp_mono_k {P : Program} {nb : Nat} {c : LC} {K K' : LS → LH → Prop} {E : Nat → LS → LH → Prop} {T : LS → LH → Prop} {s : LS} {h : LH} (hw : lwp P nb c K E T s h) (hk : ∀ s h, K s h → K' s h) : lwp P nb c K' E T s h :=
  lwp_mono hw hk (fun _ _ _ h => h) (fun _ _ h => h)
/-- Where two roads meet, what is known is written once. -/
theorem lwp_cut {P : Program} {nb : Nat} {a b : LC} {K : LS → LH → Prop} {E : Nat → LS → LH → Prop} {T : LS → LH → Prop} {s : LS} {h : LH} (M : LS → LH → Prop) (h1 : lwp P nb a M E T s h) (h2 : ∀ s h, M s h → lwp P nb b K E T s h) : lwp P nb (.seq a b) K E T s h :=
  lwp_mono_k (c := a) (K' := fun s h => lwp P nb b K E T s h) h1 h2

/-- Go on as if there were no join. -/
theorem lwp_dup {P : Program} {nb : Nat} {a b : LC} {K : LS → LH → Prop} {E : Nat → LS → LH → Prop} {T : LS → LH → Prop} {s : LS} {h : LH} (h1 : lwp P nb a (fun s h => lwp P nb b K E T s h) E T s h) : @lwpJ P nb a b ⟨K, E, T⟩ s h :=
  lwp_mono_k (c := a) h1 fun s h hx => ⟨s, h, .inl ⟨rfl, rfl⟩, hx⟩
/-- What is known where roads meet. -/
theorem lwp_join {P : Program} {nb : Nat} {a b : LC} {K : LS → LH → Prop} {E : Nat → LS → LH → Prop} {T : LS → LH → Prop} {s : LS} {h : LH}
    {α : Type} (I : α → Prop) (sv : α → List (Nat × LV)) (ho : α → List (Nat × LO)) (h2 : ∀ x, nb ≤ (ho x).length)
    (h1 : lwp P nb a (fun s h => ∃ x, I x ∧ weakTo s h (sv x) (ho x)) E T s h) (h3 : ∀ x, I x → lwp P nb b K E T (mkS (sv x)) (mkH (ho x))) : @lwpJ P nb a b ⟨K, E, T⟩ s h :=
  lwp_mono_k (c := a) h1 fun _ _ ⟨x, hx, hw⟩ => ⟨_, _, .inr (.inl ⟨_, _, h2 x, hw, rfl, rfl⟩), h3 x hx⟩
theorem lwp_loop {P : Program} {nb : Nat} {a : LC} {E : Nat → LS → LH → Prop} {T : LS → LH → Prop} {s : LS} {h : LH}
    {α : Type} (I : α → Prop) (sv : α → List (Nat × LV)) (ho : α → List (Nat × LO)) (μ : α → Nat) (x0 : α) (h0 : I x0) (h1 : weakTo s h (sv x0) (ho x0)) (h2 : ∀ x, nb ≤ (ho x).length)
    (h3 : ∀ x, I x → lwp P nb a (fun s' h' => ∃ y, I y ∧ weakTo s' h' (sv y) (ho y) ∧ μ y < μ x) E T (mkS (sv x)) (mkH (ho x))) : @lwpL P nb a ⟨E, T⟩ s h :=
  ⟨α, I, sv, ho, μ, x0, h0, h1, h2, h3⟩
/-- A loop from a number up to a bound. -/
theorem lwp_for {P : Program} {nb : Nat} {a : LC} {E : Nat → LS → LH → Prop} {T : LS → LH → Prop} {s : LS} {h : LH}
    {α : Type} (n : Nat) (I : Nat → α → Prop) (sv : Nat → α → List (Nat × LV)) (ho : Nat → α → List (Nat × LO)) (x0 : α) (h0 : I 0 x0) (h1 : weakTo s h (sv 0 x0) (ho 0 x0)) (h2 : ∀ i x, nb ≤ (ho i x).length)
    (h3 : ∀ i x, i ≤ n → I i x → lwp P nb a (fun s' h' => i < n ∧ ∃ y, I (i + 1) y ∧ weakTo s' h' (sv (i + 1) y) (ho (i + 1) y)) E T (mkS (sv i x)) (mkH (ho i x))) : @lwpL P nb a ⟨E, T⟩ s h := by
  refine lwp_loop (α := Nat × α) (fun q => q.1 ≤ n ∧ I q.1 q.2) (fun q => sv q.1 q.2) (fun q => ho q.1 q.2) (fun q => n - q.1) (0, x0) ⟨Nat.zero_le _, h0⟩ h1 (fun q => h2 _ _) ?_
  rintro ⟨i, x⟩ ⟨hi, hx⟩
  refine lwp_mono_k (h3 i x hi hx) ?_
  rintro s' h' ⟨hi', y, hy, hw⟩
  refine ⟨(i + 1, y), ⟨by simp only; omega, hy⟩, hw, by simp only; omega⟩
theorem callK_ro {P : Program} {f : FuncId} {al : List LV} {h : LH} {k : LV → LH → Prop} {r : LV} (he : Ev P f al r) (ha : roishL2 al) (hk : k r h) : @callK P f al h ⟨k⟩ := ⟨r, h, lcall_ro he ha, hk⟩
theorem callK_frz {P : Program} {f : FuncId} {al al' : List LV} {h : LH} {k : LV → LH → Prop} {r : LV} (he : Ev P f al' r) (ha : roToL2 h al al') (hs : scal r) (hk : k r h) : @callK P f al h ⟨k⟩ := ⟨r, h, lcall_frz he ha hs, hk⟩
theorem qCallK_ro {P : Program} {f : FuncId} {al : List LV} {h : LH} {k : LV → Prop} {r : LV} (he : Ev P f al r) (ha : roishL2 al) (hk : k r) : @qCallK P f al h ⟨k⟩ := ⟨r, lcall_ro he ha, hk⟩
theorem qCallK_frz {P : Program} {f : FuncId} {al al' : List LV} {h : LH} {k : LV → Prop} {r : LV} (he : Ev P f al' r) (ha : roToL2 h al al') (hs : scal r) (hk : k r) : @qCallK P f al h ⟨k⟩ := ⟨r, lcall_frz he ha hs, hk⟩
theorem eCallK_ro {P : Program} {f : FuncId} {al : List LV} {k : LV → Prop} {r : LV} (he : Ev P f al r) (ha : roishL2 al) (hk : k r) : @eCallK P f al ⟨k⟩ := ⟨r, fun _ => lcall_ro he ha, hk⟩
theorem geCallK_ro {P : Program} {g : Bool} {f : FuncId} {al : List LV} {k : LV → Prop} (r : LV) (he : g = true → Ev P f al r) (ha : g = true → roishL2 al) (hk : k r) : @geCallK P g f al ⟨k⟩ := ⟨r, fun hg _ => lcall_ro (he hg) (ha hg), hk⟩
theorem gCallK_ro {P : Program} {g : Bool} {f : FuncId} {al : List LV} {h : LH} {k : LV → LH → Prop} (r : LV) (he : g = true → Ev P f al r) (ha : g = true → roishL2 al) (hk : k (.cnd g r) h) : @gCallK P g f al h ⟨k⟩ := ⟨r, fun hg => lcall_ro (he hg) (ha hg), hk⟩
theorem gCallK_off {P : Program} {f : FuncId} {al : List LV} {h : LH} {k : LV → LH → Prop} (r : LV) (hk : k (.cnd false r) h) : @gCallK P false f al h ⟨k⟩ := ⟨r, fun hg => absurd hg (by simp), hk⟩
theorem gCallK_frz {P : Program} {g : Bool} {f : FuncId} {al al' : List LV} {h : LH} {k : LV → LH → Prop} (r : LV) (he : g = true → Ev P f al' r) (ha : g = true → roToL2 h al al') (hs : scal r) (hk : k (.cnd g r) h) : @gCallK P g f al h ⟨k⟩ := ⟨r, fun hg => lcall_frz (he hg) (ha hg) hs, hk⟩
end Go.Proofs.Ytfhifkcbdpgomaa
