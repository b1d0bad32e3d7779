/- The lifted layer, part 19: functions that change what the caller owns. Conditions: none. -/
import Derived.Test.YtfhifkcbdpgomaaL18
namespace Go.Proofs.Ytfhifkcbdpgomaa
set_option linter.unusedSimpArgs false
set_option linter.unusedVariables false
open Go.RowKit

/-- The end of a function that changes what it was given. -/
def fin2 (l : List RX) (r : LV) (ho : List (Nat × LO)) (s : LS) (h : LH) : Prop := resCL s h l ∧ outV s h l = r ∧ belowV ho.length r ∧ ho.length ≤ h.n ∧ weakH ho.length h 0 ho

theorem lcall_of_lwp {P : Program} {f : FuncId} {fn : Func} {lc : LC} {l : List RX} {args : List LV} {h : LH} {r : LV} {ho : List (Nat × LO)} (hf : P.funcs[f]? = some fn) (hc : cFn P fn = some (erase lc, l)) (hle : args.length ≤ fn.ntmps) (hnb : h.n ≤ ho.length)
    (hw : lwp P h.n lc (fin2 l r ho) (fun _ _ _ => False) (fin2 l r ho) (argS args 0) h) : LCall P f args h r (mkH ho) := by
  obtain ⟨c, hb, hcc, hl⟩ := cFn_parts hc
  intro B R ι w vs hB hrep hvs ha
  refine calls_of_wp hf hb ?_
  have hgood : Good fn.ntmps B R ι h w (argS args 0) h { tmps := vs ++ Array.replicate (fn.ntmps - vs.size) undef, defers := [] } w :=
    ⟨R, ι, Trans.refl hrep hB, args_act hvs hle ha⟩
  have fin : ∀ s h1 a w', Good fn.ntmps B R ι h w s h1 a w' → fin2 l r ho s h1 →
      a.defers = [] ∧ ∃ v, (results fn a.tmps).run P w' = .ok v w' ∧ ∃ v' R' ι', Ending.returned v = .returned v' ∧ Trans B R ι h w R' ι' (mkH ho) w' ∧ Rv R' ι' (mkH ho) r v' := by
    intro s h1 a w' hg ⟨q1, q2, q3, q4, q5⟩
    obtain ⟨R1, ι1, hT, hA⟩ := hg
    obtain ⟨v, hv1, hv2⟩ := out_ok hT.rep hA hl q1
    have hfk : ∀ k, k < ho.length → (mkH ho).f k = h1.f k := by
      intro k hk
      have := (weakH_get q5 hk).1
      rw [Nat.zero_add] at this
      rw [this]
      show ho.getD k (0, .dead) = _
      rw [getD_el hk]
    have hb : ∀ k, k < (mkH ho).n → belowO (mkH ho).n (h1.f k).2 := by
      intro k hk
      have hk' : k < ho.length := hk
      have h2 := weakH_get q5 hk'
      rw [Nat.zero_add] at h2
      rw [h2.1]; exact h2.2
    refine ⟨hA.defers, v, hv1, v, R1, ι1, rfl, ⟨hT.rep.trunc q4 hfk hb, ⟨hT.mono.ro, hnb, fun k hk => ?_, fun k hk he => ?_⟩, hT.below, hT.rob, hT.size⟩, ?_⟩
    · rw [hfk k (by omega)]; exact hT.mono.ver k hk
    · rw [hfk k (by omega)] at he; exact hT.mono.same k hk he
    · rw [q2] at hv2; exact hv2.trunc (Nat.le_refl _) hfk q3
  refine lwp_ok (N := fn.ntmps) (B := B) (R0 := R) (ι0 := ι) (h0 := h) (w0 := w) c lc hcc (K := fin2 l r ho) (E := fun _ _ _ => False) (T := fin2 l r ho) ?_ ?_ ?_ _ _ _ _ hgood hw
  · intro s h a w' hg hq; exact fin s h a w' hg hq
  · intro id s h a w' _ hq; exact hq.elim
  · intro s h a w' hg hq; exact fin s h a w' hg hq
/-- A call, and what follows it. -/
theorem callK_mut {P : Program} {f : FuncId} {al : List LV} {h : LH} {k : LV → LH → Prop} {r : LV} {h' : LH} (he : LCall P f al h r h') (hk : k r h') : @callK P f al h ⟨k⟩ := ⟨r, h', he, hk⟩
end Go.Proofs.Ytfhifkcbdpgomaa
