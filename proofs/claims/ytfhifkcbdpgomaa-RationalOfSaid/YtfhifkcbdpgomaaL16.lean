/- The lifted layer, part 16: functions by their numbers; calls by what the callee computes. Conditions: none. -/
import Derived.Test.YtfhifkcbdpgomaaL15
namespace Go.Proofs.Ytfhifkcbdpgomaa
set_option linter.unusedSimpArgs false
set_option linter.unusedVariables false
open Go.RowKit

def cFn (P : Program) (fn : Func) : Option (LC × List RX) :=
  match fn.body with
  | some c => match cCode P fn.ntmps c, cRes P fn.results.toList with
    | some lc, some l => some (lc, l)
    | _, _ => none
  | none => none

section
variable {P : Program} {N B : Nat} {R R' R0 : RO} {ι ι0 : IM} {h h0 : LH} {w w0 : World} {s : LS} {a : Act}

theorem cFn_parts {fn : Func} {lc : LC} {l : List RX} (hc : cFn P fn = some (lc, l)) : ∃ c, fn.body = some c ∧ cCode P fn.ntmps c = some lc ∧ cRes P fn.results.toList = some l := by
  unfold cFn at hc
  split at hc
  · rename_i c hb
    split at hc
    · rename_i lc' l' h1 h2
      injection hc with hc
      injection hc with e1 e2
      subst e1 e2
      exact ⟨c, hb, h1, h2⟩
    · simp at hc
  · simp at hc

/-- The end of a function that is asked for its result alone. -/
def fin (l : List RX) (r : LV) (s : LS) (h : LH) : Prop := resCL s h l ∧ roTo3 h (outV s h l) r

theorem ev_fn {f : FuncId} {fn : Func} {lc : LC} {l : List RX} {args : List LV} {r : LV} (hf : P.funcs[f]? = some fn) (hc : cFn P fn = some (erase lc, l)) (hle : args.length ≤ fn.ntmps)
    (hw : lwp P 0 lc (fin l r) (fun _ _ _ => False) (fin l r) (argS args 0) LH.empty) : Ev P f args r := by
  obtain ⟨c, h1, h2, h3⟩ := cFn_parts hc
  exact ev_of_lwp hf h1 h2 h3 hle hw

/-- Values that hold no address at all. -/
def scal1 : LV → Prop
  | .sc _ => True
  | _ => False
def scalL : List LV → Prop
  | [] => True
  | x :: r => scal1 x ∧ scalL r
def scal2 : LV → Prop
  | .agg cs => scalL cs
  | x => scal1 x
def scalL2 : List LV → Prop
  | [] => True
  | x :: r => scal2 x ∧ scalL2 r
def scal : LV → Prop
  | .tup cs => scalL2 cs
  | x => scal2 x

theorem scalL_get : ∀ {l : List LV} {i : Nat} {x : LV}, scalL l → l[i]? = some x → scal1 x
  | [], _, _, _, hx => by simp at hx
  | y :: r, 0, x, h, hx => by simp at hx; subst hx; exact h.1
  | y :: r, i + 1, x, h, hx => scalL_get h.2 (by simpa using hx)
theorem scalL2_get : ∀ {l : List LV} {i : Nat} {x : LV}, scalL2 l → l[i]? = some x → scal2 x
  | [], _, _, _, hx => by simp at hx
  | y :: r, 0, x, h, hx => by simp at hx; subst hx; exact h.1
  | y :: r, i + 1, x, h, hx => scalL2_get h.2 (by simpa using hx)
theorem scal1_ok {lv : LV} {v : Value} (hs : scal1 lv) (hr : Ro R lv v) : Ro R' lv v := by
  cases lv with
  | sc x => cases hr with
    | sc _ hp => exact .sc _ hp
  | _ => exact hs.elim
theorem scal2_ok {lv : LV} {v : Value} (hs : scal2 lv) (hr : Ro R lv v) : Ro R' lv v := by
  cases lv with
  | agg cs => cases hr with
    | agg _ vs hl hc hp => exact .agg _ _ hl (fun i c hi => scal1_ok (scalL_get hs hi) (hc i c hi)) hp
  | _ => exact scal1_ok hs hr
theorem scal_ok {lv : LV} {v : Value} (hs : scal lv) (hr : Ro R lv v) : Ro R' lv v := by
  cases lv with
  | tup cs => cases hr with
    | tup _ vs hl hc => exact .tup _ _ hl (fun i c hi => scal2_ok (scalL2_get hs hi) (hc i c hi))
  | _ => exact scal2_ok hs hr

/-- No handle into the abstract heap. -/
def roish2 : LV → Prop
  | .agg cs => roishL cs
  | .fn _ cs => roishL cs
  | x => roish1 x
theorem roish2_ok {lv : LV} {v : Value} (hi : roish2 lv) (hr : Rv R ι h lv v) : Ro R lv v := by
  cases lv with
  | agg cs =>
    obtain ⟨vs, rfl, h1, h2, h3⟩ := hr.agg_inv
    exact .agg _ _ h1 (fun i c hc => roish1_ok (h2 i c hc) (fun _ _ h => h) (roishL_get hi hc)) h3
  | fn f cs =>
    obtain ⟨vs, rfl, h1, h2⟩ := hr.fn_inv
    exact .fn _ _ _ h1 (fun i c hc => roish1_ok (h2 i c hc) (fun _ _ h => h) (roishL_get hi hc))
  | _ => exact roish1_ok hr (fun _ _ h => h) hi
def roishL2 : List LV → Prop
  | [] => True
  | x :: r => roish2 x ∧ roishL2 r
theorem roishL2_get : ∀ {l : List LV} {i : Nat} {x : LV}, roishL2 l → l[i]? = some x → roish2 x
  | [], _, _, _, hx => by simp at hx
  | y :: r, 0, x, h, hx => by simp at hx; subst hx; exact h.1
  | y :: r, i + 1, x, h, hx => roishL2_get h.2 (by simpa using hx)

/-- A call whose arguments are read-only. -/
theorem lcall_ro {f : FuncId} {args : List LV} {r : LV} (he : Ev P f args r) (ha : roishL2 args) : LCall P f args h r h := by
  intro B R ι w vs hB hr hsz hargs
  refine (he R w vs hr.ro hsz (fun i a hi => roish2_ok (roishL2_get ha hi) (hargs i a hi))).mono ?_
  intro e w' hx
  obtain ⟨v, R', rfl, h1, h2, h3, h4, h5⟩ := hx
  exact ⟨v, R', ι, rfl, trans_call hB hr h3 h4 h1 h2 rfl, .ro h5⟩

/-- A call whose arguments are seen as read-only while it runs; the result holds no address. -/
theorem lcall_frz {f : FuncId} {args args' : List LV} {r : LV} (he : Ev P f args' r) (ha : roToL2 h args args') (hs : scal r) : LCall P f args h r h := by
  intro B R ι w vs hB hr hsz hargs
  obtain ⟨g1, g2⟩ := roToL2_get ha
  refine (he (fun b => w.heap[b]?) w vs (fun _ _ h => h) (by omega) (fun i a hi => ?_)).mono ?_
  · obtain ⟨x, hx, hx2⟩ := g2 i a hi
    exact roTo2_ok hr (fun b o hb => hr.ro b o hb) (fun _ _ _ _ => rfl) (hargs i x hx) hx2
  · intro e w' hx
    obtain ⟨v, R', rfl, h1, h2, h3, h4, h5⟩ := hx
    refine ⟨v, R, ι, rfl, trans_call hB hr (R2 := R) (fun b o hbo => ?_) h4 (fun _ _ h => h) (fun _ _ => rfl) rfl, .ro (scal_ok hs h5)⟩
    have := hr.ro b o hbo
    rw [h4.block b (Array.getElem?_eq_some_iff.1 this).1]; exact this

end
end Go.Proofs.Ytfhifkcbdpgomaa
