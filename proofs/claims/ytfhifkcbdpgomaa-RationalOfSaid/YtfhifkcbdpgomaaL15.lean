/- The lifted layer, part 15: what a function's call comes to. Conditions: none. -/
import Derived.Test.YtfhifkcbdpgomaaL14
namespace Go.Proofs.Ytfhifkcbdpgomaa
set_option linter.unusedSimpArgs false
set_option linter.unusedVariables false
open Go.RowKit

/-- One cell, seen as read-only. -/
def roTo1 (h : LH) : LV → LV → Prop
  | .nsl, .rsl _ n _ => n = 0
  | .sl k ver sz off len, .rsl sz' n f => sz' = sz ∧ n = len ∧ k < h.n ∧ (h.f k).1 = ver ∧ rngC (h.f k).2 sz off len ∧ (∀ i, i < len → elO (h.f k).2 (off + i) = f i ∧ roishL (f i))
  | .mp k ver, .rmp ds => k < h.n ∧ (h.f k).1 = ver ∧ (h.f k).2 = .map ds ∧ ∀ kv, kv ∈ ds → roish1 kv.2
  | x, y => x = y ∧ roish1 x
def roToL (h : LH) : List LV → List LV → Prop
  | [], [] => True
  | x :: r, y :: q => roTo1 h x y ∧ roToL h r q
  | _, _ => False
def roTo2 (h : LH) : LV → LV → Prop
  | .agg cs, .agg ds => roToL h cs ds
  | .ptr k ver sz i c, .rptr ds => k < h.n ∧ (h.f k).1 = ver ∧ sz = 0 ∧ i = 0 ∧ c = 0 ∧ match (h.f k).2 with
    | .box cs => roToL h cs ds
    | _ => False
  | .fn f cs, .fn g ds => f = g ∧ roToL h cs ds
  | x, y => roTo1 h x y
def roToL2 (h : LH) : List LV → List LV → Prop
  | [], [] => True
  | x :: r, y :: q => roTo2 h x y ∧ roToL2 h r q
  | _, _ => False
def roTo3 (h : LH) : LV → LV → Prop
  | .tup cs, .tup ds => roToL2 h cs ds
  | x, y => roTo2 h x y

section
variable {P : Program} {N B : Nat} {R R' R0 : RO} {ι ι0 : IM} {h h0 : LH} {w w0 : World} {s : LS} {a : Act}

theorem roTo1_ok (hrep : Rep R ι h B w) (hl : RoLe R R') (hfz : ∀ k, k < h.n → (h.f k).2.live = true → ((ι k).m ≠ 0 ∨ (h.f k).2.isMap = true) → R' (ι k).b = w.heap[(ι k).b]?)
    {lv r : LV} {v : Value} (hr : Rv R ι h lv v) (ht : roTo1 h lv r) : Ro R' r v := by
  unfold roTo1 at ht
  split at ht
  · subst ht
    rw [hr.nsl_inv]
    exact .rsl _ _ _ none 0 0 0 (fun _ _ => undef) (Nat.le_refl _) (by unfold maxLen; omega) (fun h => absurd h (Nat.lt_irrefl _)) (fun i hi => absurd hi (Nat.not_lt_zero _)) (fun i j hi => absurd hi (Nat.not_lt_zero _)) (fun i j c hi => absurd hi (Nat.not_lt_zero _)) (fun i j hi => absurd hi (Nat.not_lt_zero _))
  · rename_i k ver sz off len sz' n f
    obtain ⟨rfl, rfl, hk, hver, hrng, hel⟩ := ht
    obtain ⟨a, cap, rfl, _, _, hlc, hm, hcase⟩ := hr.sl_inv
    have hlen : ∀ i, i < n → (f i).length = sz' := by
      intro i hi
      rw [← (hel i hi).1]
      generalize (h.f k).2 = ob at hrng
      cases ob with
      | ints xs => exact hrng.1.symm
      | bools xs => exact hrng.1.symm
      | row s' n' f' => exact hrng.2.2 i hi
      | _ => exact hrng.elim
    have hall : ∀ i j, ∃ v, i < n → j < sz' → ∃ lv, (f i)[j]? = some lv ∧ w.cell? ⟨(ι k).b, (ι k).o + ((off + i) * sz' + j), none⟩ = some v ∧ Rv R ι h lv v ∧ plainV v = true ∧ R' (ι k).b = w.heap[(ι k).b]? := by
      intro i j
      by_cases hi : i < n
      · by_cases hj : j < sz'
        · obtain ⟨lv, v, e1, e2, e3, e4⟩ := rng_cells hrep hk hrng hi hj
          obtain ⟨_, _, _, _, g1, g2, g3⟩ := rngC_cell hrng hi hj
          rw [(hel i hi).1] at e1
          exact ⟨v, fun _ _ => ⟨lv, e1, e2, e3, e4, hfz k hk g1 (.inl (fun e => g3 (hrep.empty k hk g1 g2 e)))⟩⟩
        · exact ⟨undef, fun _ h => absurd h hj⟩
      · exact ⟨undef, fun h => absurd h hi⟩
    have hall2 : ∀ i, ∃ g : Nat → Value, ∀ j, i < n → j < sz' → ∃ lv, (f i)[j]? = some lv ∧ w.cell? ⟨(ι k).b, (ι k).o + ((off + i) * sz' + j), none⟩ = some (g j) ∧ Rv R ι h lv (g j) ∧ plainV (g j) = true ∧ R' (ι k).b = w.heap[(ι k).b]? :=
      fun i => Classical.axiomOfChoice (hall i)
    obtain ⟨g, hg⟩ := Classical.axiomOfChoice hall2
    refine .rsl _ _ _ a cap (ι k).b ((ι k).o + off * sz') g hlc hm ?_ hlen ?_ ?_ ?_
    · intro h0
      rcases hcase with h9 | h9
      · omega
      · exact (h9 hver.symm).1
    · intro i j hi hj
      obtain ⟨lv, _, e2, _, _, e5⟩ := hg i j hi hj
      unfold roCell
      rw [e5]
      unfold World.cell? at e2
      simp only at e2
      have e9 : (ι k).o + off * sz' + i * sz' + j = (ι k).o + ((off + i) * sz' + j) := by rw [Nat.add_mul]; omega
      rw [e9]
      split at e2
      · rename_i c _ _ hw
        rw [hw]
        simpa using e2
      · simp at e2
    · intro i j c hi hc
      have hj : j < sz' := by
        have := (List.getElem?_eq_some_iff.1 hc).1
        rw [hlen i hi] at this; exact this
      obtain ⟨lv, e1, _, e3, _⟩ := hg i j hi hj
      rw [e1] at hc
      injection hc with hc
      subst hc
      exact roish1_ok e3 hl (roishL_get (hel i hi).2 e1)
    · intro i j hi hj
      exact (hg i j hi hj).choose_spec.2.2.2.1
  · rename_i k ver ds
    obtain ⟨hk, hver, hob, hro⟩ := ht
    obtain ⟨b, rfl, _, _, hb⟩ := hr.mp_inv
    have := hb hver.symm
    subst this
    obtain ⟨ents, clock, h1, h2, h3, h4⟩ := hrep.maps k ds hk hob
    refine .rmp ds _ ents clock ?_ h2 h3.2 (fun i kv hi => let ⟨e, a, b, _⟩ := h4 i kv hi; ⟨e, a, b⟩) (fun i kv e hi he => ?_)
    · rw [hfz k hk (by rw [hob]; rfl) (.inr (by rw [hob]; rfl))]; exact h1
    · obtain ⟨e', a, _, c⟩ := h4 i kv hi
      rw [he] at a
      injection a with a
      subst a
      exact roish1_ok c hl (hro kv (List.mem_of_getElem? hi))
  · obtain ⟨rfl, hi⟩ := ht
    exact roish1_ok hr hl hi

theorem roToL_get : ∀ {xs ys : List LV}, roToL h xs ys → xs.length = ys.length ∧ ∀ (i : Nat) (y : LV), ys[i]? = some y → ∃ x, xs[i]? = some x ∧ roTo1 h x y
  | [], [], _ => ⟨rfl, fun i y hy => by simp at hy⟩
  | x :: r, y :: q, ht => by
    obtain ⟨h1, h2⟩ := roToL_get ht.2
    refine ⟨by simp [h1], fun i z hz => ?_⟩
    cases i with
    | zero => simp at hz; subst hz; exact ⟨x, rfl, ht.1⟩
    | succ i =>
      obtain ⟨u, hu, hu2⟩ := h2 i z (by simpa using hz)
      exact ⟨u, by simpa using hu, hu2⟩
  | [], _ :: _, ht => ht.elim
  | _ :: _, [], ht => ht.elim

theorem roTo2_ok (hrep : Rep R ι h B w) (hl : RoLe R R') (hfz : ∀ k, k < h.n → (h.f k).2.live = true → ((ι k).m ≠ 0 ∨ (h.f k).2.isMap = true) → R' (ι k).b = w.heap[(ι k).b]?)
    {lv r : LV} {v : Value} (hr : Rv R ι h lv v) (ht : roTo2 h lv r) : Ro R' r v := by
  unfold roTo2 at ht
  split at ht
  · rename_i cs ds
    obtain ⟨vs, rfl, h1, h2, h3⟩ := hr.agg_inv
    obtain ⟨g1, g2⟩ := roToL_get ht
    refine .agg _ _ (by omega) (fun i c hi => ?_) h3
    obtain ⟨x, hx, hx2⟩ := g2 i c hi
    exact roTo1_ok hrep hl hfz (h2 i x hx) hx2
  · rename_i k ver sz i c ds
    obtain ⟨hk, hver, rfl, rfl, rfl, hm⟩ := ht
    obtain ⟨a, rfl, _, _, ha⟩ := hr.ptr_inv
    rw [ha hver.symm]
    split at hm
    · rename_i cs hob
      obtain ⟨g1, g2⟩ := roToL_get hm
      by_cases h0 : cs.length = 0
      · have : ds = [] := List.length_eq_zero_iff.1 (by omega)
        subst this
        exact .rptr _ _ _ (fun _ => undef) (fun j hj => absurd hj (Nat.not_lt_zero _)) (fun j c hc => by simp at hc) (fun j hj => absurd hj (Nat.not_lt_zero _))
      · have hlive : (h.f k).2.live = true := by rw [hob]; rfl
        have hmap : (h.f k).2.isMap = false := by rw [hob]; rfl
        have hm0 : (ι k).m ≠ 0 := fun e => by
          have := hrep.empty k hk hlive hmap e
          rw [hob] at this; exact h0 this
        obtain ⟨cl, e, hw, hsz, _, hp, hcl⟩ := (hrep.cells k hk hlive hmap hm0).ex
        have hfzk := hfz k hk hlive (.inl hm0)
        rw [hob] at hcl
        have key : ∀ j y, ds[j]? = some y → ∃ x u, cs[j]? = some x ∧ roTo1 h x y ∧ cl[(ι k).o + j]? = some u ∧ Rv R ι h x u := by
          intro j y hy
          obtain ⟨x, hx, hx2⟩ := g2 j y hy
          obtain ⟨u, hu1, hu2⟩ := hcl 0 j x (by simp [cellAt, hx])
          exact ⟨x, u, hx, hx2, by simpa [LO.sz] using hu1, hu2⟩
        refine .rptr _ _ _ (fun j => cl.getD ((ι k).o + j) undef) (fun j hj => ?_) (fun j y hy => ?_) (fun j hj => ?_)
        · obtain ⟨x, u, _, _, e3, _⟩ := key j ds[j] (List.getElem?_eq_getElem hj)
          unfold roCell
          rw [hfzk, hw]
          simp only [Nat.zero_mul, Nat.add_zero]
          rw [Array.getD_eq_getD_getElem?, e3]; rfl
        · obtain ⟨x, u, _, e2, e3, e4⟩ := key j y hy
          rw [Array.getD_eq_getD_getElem?, e3]
          exact roTo1_ok hrep hl hfz e4 e2
        · obtain ⟨x, u, _, _, e3, _⟩ := key j ds[j] (List.getElem?_eq_getElem hj)
          exact hp _ (Array.getElem?_eq_some_iff.1 e3).1
    · exact hm.elim
  · rename_i f cs g ds
    obtain ⟨rfl, ht⟩ := ht
    obtain ⟨vs, rfl, h1, h2⟩ := hr.fn_inv
    obtain ⟨g1, g2⟩ := roToL_get ht
    refine .fn _ _ _ (by omega) (fun i c hi => ?_)
    obtain ⟨x, hx, hx2⟩ := g2 i c hi
    exact roTo1_ok hrep hl hfz (h2 i x hx) hx2
  · exact roTo1_ok hrep hl hfz hr ht

theorem roToL2_get : ∀ {xs ys : List LV}, roToL2 h xs ys → xs.length = ys.length ∧ ∀ (i : Nat) (y : LV), ys[i]? = some y → ∃ x, xs[i]? = some x ∧ roTo2 h x y
  | [], [], _ => ⟨rfl, fun i y hy => by simp at hy⟩
  | x :: r, y :: q, ht => by
    obtain ⟨h1, h2⟩ := roToL2_get ht.2
    refine ⟨by simp [h1], fun i z hz => ?_⟩
    cases i with
    | zero => simp at hz; subst hz; exact ⟨x, rfl, ht.1⟩
    | succ i =>
      obtain ⟨u, hu, hu2⟩ := h2 i z (by simpa using hz)
      exact ⟨u, by simpa using hu, hu2⟩
  | [], _ :: _, ht => ht.elim
  | _ :: _, [], ht => ht.elim

theorem roTo3_ok (hrep : Rep R ι h B w) (hl : RoLe R R') (hfz : ∀ k, k < h.n → (h.f k).2.live = true → ((ι k).m ≠ 0 ∨ (h.f k).2.isMap = true) → R' (ι k).b = w.heap[(ι k).b]?)
    {lv r : LV} {v : Value} (hr : Rv R ι h lv v) (ht : roTo3 h lv r) : Ro R' r v := by
  unfold roTo3 at ht
  split at ht
  · rename_i cs ds
    obtain ⟨vs, rfl, h1, h2⟩ := hr.tup_inv
    obtain ⟨g1, g2⟩ := roToL2_get ht
    refine .tup _ _ (by omega) (fun i c hi => ?_)
    obtain ⟨x, hx, hx2⟩ := g2 i c hi
    exact roTo2_ok hrep hl hfz (h2 i x hx) hx2
  · exact roTo2_ok hrep hl hfz hr ht

/-- A function that only reads what was there, and what it hands back. -/
def Ev (P : Program) (f : FuncId) (args : List LV) (r : LV) : Prop :=
  ∀ (R : RO) (w : World) (vs : Array Value), (∀ b o, R b = some o → w.heap[b]? = some o) → vs.size = args.length → (∀ i a, args[i]? = some a → Ro R a (vs.getD i undef)) →
    Calls P f vs w fun e w' => ∃ v R', e = .returned v ∧ RoLe R R' ∧ (∀ b, b < w.heap.size → R' b = R b) ∧ (∀ b o, R' b = some o → w'.heap[b]? = some o) ∧ Below w.heap.size w w' ∧ Ro R' r v

/-- Results. -/
inductive RX where
  | tmp (t : Nat)
  | cell (a : Nat) (n : Option Nat)
def cRes (P : Program) : List ResultVar → Option (List RX)
  | [] => some []
  | .tmp t :: r => (cRes P r).map (.tmp t :: ·)
  | .cell a t :: r => match ldK P t, cRes P r with
    | some n, some l => some (.cell a n :: l)
    | _, _ => none
def resV (s : LS) (h : LH) : RX → LV
  | .tmp t => s t
  | .cell a n => ldV n h (s a)
def resC (s : LS) (h : LH) : RX → Prop
  | .tmp _ => True
  | .cell a n => ldC true n h (s a)
def resCL (s : LS) (h : LH) : List RX → Prop
  | [] => True
  | x :: r => resC s h x ∧ resCL s h r
def outV (s : LS) (h : LH) : List RX → LV
  | [x] => resV s h x
  | l => .tup (l.map (resV s h))

def argS : List LV → Nat → LS
  | [], _ => fun _ => .any
  | x :: r, i => upd (argS r (i + 1)) i x

theorem res_ok (hr : Rep R ι h B w) (hA : ActOk N a s R ι h) : ∀ (rs : List ResultVar) (l : List RX), cRes P rs = some l → resCL s h l →
    ∃ vs : List Value, (rs.mapM (m := Sem) fun | .tmp t => pure (a.tmps.getD t undef) | .cell b t => do loadVar t (← asAddr (a.tmps.getD b undef))).run P w = .ok vs w ∧ vs.length = l.length ∧
      ∀ i x, l[i]? = some x → Rv R ι h (resV s h x) (vs.getD i undef) := by
  intro rs
  induction rs with
  | nil => intro l hl _; simp only [cRes, Option.some.injEq] at hl; subst hl; exact ⟨[], by simp, rfl, fun i x hx => by simp at hx⟩
  | cons r rs ih =>
    intro l hl hc
    cases r with
    | tmp t =>
      simp only [cRes, Option.map_eq_some_iff] at hl
      obtain ⟨l', hl', rfl⟩ := hl
      obtain ⟨vs, h1, h2, h3⟩ := ih l' hl' hc.2
      refine ⟨a.tmps.getD t undef :: vs, ?_, by simp [h2], fun i x hx => ?_⟩
      · simp only [List.mapM_cons, Sem.run_bind, Sem.run_pure, Result.andThen_ok, h1]
      · cases i with
        | zero => simp at hx; subst hx; exact hA.slots t
        | succ i => have := h3 i x (by simpa using hx); simpa using this
    | cell b t =>
      simp only [cRes] at hl
      split at hl
      · rename_i n l' hn hl'
        injection hl with hl; subst hl
        obtain ⟨hc1, hc2⟩ := hc
        obtain ⟨vs, h1, h2, h3⟩ := ih l' hl' hc2
        have hb := hA.slots b
        obtain ⟨v, g1, g2⟩ := ld_ok hr hn hb hc1
        have hp : ∃ ad, a.tmps.getD b undef = .pointer (some ad) := by
          have hc1' : ldC true n h (s b) := hc1
          unfold ldC at hc1'
          split at hc1'
          · rename_i cs hx
            have hb' : Rv R ι h (s b) (a.tmps.getD b undef) := hb
            rw [hx] at hb'
            have := hb'.rptr_inv
            cases hv : a.tmps.getD b undef <;> rw [hv] at this <;> cases this
            exact ⟨_, rfl⟩
          · rename_i k ver sz i c hx
            have hb' : Rv R ι h (s b) (a.tmps.getD b undef) := hb
            rw [hx] at hb'
            obtain ⟨ad, e, _⟩ := hb'.ptr_inv
            exact ⟨ad, e⟩
          · exact hc1'.elim
        obtain ⟨ad, had⟩ := hp
        have g1' : (loadVar t ad).run P w = .ok v w := by
          have : a.eval (.tmp b) = .pointer (some ad) := had
          rw [this] at g1
          simpa [Instr.loadAt, Instr.sureAddr] using g1
        refine ⟨v :: vs, ?_, by simp [h2], fun i x hx => ?_⟩
        · have hasa : (asAddr (a.tmps.getD b undef)).run P w = .ok ad w := by rw [had]; rfl
          simp only [List.mapM_cons, Sem.run_bind, hasa, Sem.run_pure, Result.andThen_ok, g1', h1]
        · cases i with
          | zero => simp at hx; subst hx; exact g2
          | succ i => have := h3 i x (by simpa using hx); simpa using this
      · simp at hl

theorem out_ok (hr : Rep R ι h B w) (hA : ActOk N a s R ι h) {fn : Func} {l : List RX} (hl : cRes P fn.results.toList = some l) (hc : resCL s h l) : ∃ v, (results fn a.tmps).run P w = .ok v w ∧ Rv R ι h (outV s h l) v := by
  obtain ⟨vs, h1, h2, h3⟩ := res_ok (P := P) hr hA fn.results.toList l hl hc
  refine ⟨if h : vs.toArray.size = 1 then vs.toArray[0] else .tuple vs.toArray, ?_, ?_⟩
  · simp only [results, Sem.run_bind]
    rw [Array.mapM_eq_mapM_toList]
    simp only [Sem.run_map]
    have e : ∀ (x : Result (List Value)), x = .ok vs w → ((x.andThen fun a w' => Result.ok a.toArray w').andThen fun vs w' => Sem.run P (pure (if h : vs.size = 1 then vs[0] else Value.tuple vs)) w') = .ok (if h : vs.toArray.size = 1 then vs.toArray[0] else .tuple vs.toArray) w := by
      intro x hx; subst hx; rfl
    exact e _ h1
  · by_cases h1l : l.length = 1
    · obtain ⟨x, rfl⟩ := List.length_eq_one_iff.1 h1l
      have hv1 : vs.length = 1 := by omega
      obtain ⟨v, rfl⟩ := List.length_eq_one_iff.1 hv1
      have := h3 0 x rfl
      simpa [outV] using this
    · have hne : ¬ vs.toArray.size = 1 := by simp; omega
      rw [dif_neg hne]
      have ho : outV s h l = .tup (l.map (resV s h)) := by
        unfold outV
        split
        · simp at h1l
        · rfl
      rw [ho]
      refine .tup _ _ (by simp; omega) (fun i c hi => ?_)
      simp only [List.getElem?_map, Option.map_eq_some_iff] at hi
      obtain ⟨x, hx, rfl⟩ := hi
      have := h3 i x hx
      rw [List.getD_eq_getElem?_getD] at this
      rw [Array.getD_eq_getD_getElem?]; simpa using this

theorem argS_ok : ∀ (args : List LV) (i : Nat) (t : Nat), argS args i t = if i ≤ t then args.getD (t - i) .any else .any
  | [], i, t => by simp [argS]
  | x :: r, i, t => by
    simp only [argS, upd]
    by_cases e : t = i
    · subst e; simp
    · rw [if_neg e, argS_ok r (i + 1) t]
      by_cases h1 : i ≤ t
      · rw [if_pos h1, if_pos (by omega)]
        have : t - i = (t - (i + 1)) + 1 := by omega
        rw [this]; simp
      · rw [if_neg h1, if_neg (by omega)]

theorem args_act {args : List LV} {vs : Array Value} (hl : vs.size = args.length) (hle : args.length ≤ N) (hv : ∀ i a, args[i]? = some a → Rv R ι h a (vs.getD i undef)) :
    ActOk N { tmps := vs ++ Array.replicate (N - vs.size) undef, defers := [] } (argS args 0) R ι h := by
  refine ⟨rfl, by simp; omega, fun t => ?_⟩
  rw [argS_ok, if_pos (Nat.zero_le _), Nat.sub_zero]
  cases ht : args[t]? with
  | none => rw [List.getD_eq_getElem?_getD, ht]; exact .any _
  | some x =>
    rw [List.getD_eq_getElem?_getD, ht]
    have := hv t x ht
    have hlt : t < vs.size := by rw [hl]; exact (List.getElem?_eq_some_iff.1 ht).1
    show Rv R ι h x ((vs ++ Array.replicate (N - vs.size) undef).getD t undef)
    rw [Array.getD_eq_getD_getElem?, Array.getElem?_append_left hlt]
    rw [Array.getD_eq_getD_getElem?] at this
    exact this

def LH.empty : LH := ⟨0, fun _ => (0, .dead)⟩

/-- From the walk of its code to what a function computes. -/
theorem ev_of_lwp {f : FuncId} {fn : Func} {c : Code} {lc : LC} {l : List RX} {args : List LV} {r : LV} (hf : P.funcs[f]? = some fn) (hb : fn.body = some c) (hc : cCode P fn.ntmps c = some (erase lc)) (hl : cRes P fn.results.toList = some l)
    (hle : args.length ≤ fn.ntmps) (hw : lwp P 0 lc (fun s h => resCL s h l ∧ roTo3 h (outV s h l) r) (fun _ _ _ => False) (fun s h => resCL s h l ∧ roTo3 h (outV s h l) r) (argS args 0) LH.empty) : Ev P f args r := by
  intro R w vs hR hvs ha
  refine calls_of_wp hf hb ?_
  have hrep : Rep R (fun _ => default) LH.empty w.heap.size w :=
    ⟨hR, fun k hk => absurd hk (Nat.not_lt_zero _), fun k hk => absurd hk (Nat.not_lt_zero _), fun k hk => absurd hk (Nat.not_lt_zero _), fun k _ hk => absurd hk (Nat.not_lt_zero _), fun k _ hk => absurd hk (Nat.not_lt_zero _)⟩
  have hgood : Good fn.ntmps w.heap.size R (fun _ => default) LH.empty w (argS args 0) LH.empty { tmps := vs ++ Array.replicate (fn.ntmps - vs.size) undef, defers := [] } w :=
    ⟨R, fun _ => default, Trans.refl hrep (Nat.le_refl _), args_act hvs hle (fun i a hi => .ro (ha i a hi))⟩
  have fin : ∀ s h a w', Good fn.ntmps w.heap.size R (fun _ => default) LH.empty w s h a w' → resCL s h l ∧ roTo3 h (outV s h l) r →
      a.defers = [] ∧ ∃ v, (results fn a.tmps).run P w' = .ok v w' ∧ ∃ v', ∃ R', Ending.returned v = .returned v' ∧ RoLe R R' ∧ (∀ b, b < w.heap.size → R' b = R b) ∧ (∀ b o, R' b = some o → w'.heap[b]? = some o) ∧ Below w.heap.size w w' ∧ Ro R' r v' := by
    intro s h a w' hg hq
    obtain ⟨R1, ι1, hT, hA⟩ := hg
    obtain ⟨v, hv1, hv2⟩ := out_ok hT.rep hA hl hq.1
    refine ⟨hA.defers, v, hv1, v, fun b => if b < w.heap.size then R b else w'.heap[b]?, rfl, ?_, ?_, ?_, hT.below, ?_⟩
    · intro b o hbo
      have h1 := hR b o hbo
      have h2 := (Array.getElem?_eq_some_iff.1 h1).1
      simp only [h2, if_true]; exact hbo
    · intro b hb; simp [hb]
    · intro b o hbo
      by_cases hlt : b < w.heap.size
      · simp only [hlt, if_true] at hbo
        rw [hT.below.block b hlt]; exact hR b o hbo
      · simp only [hlt, if_false] at hbo; exact hbo
    · refine roTo3_ok hT.rep ?_ ?_ hv2 hq.2
      · intro b o hbo
        by_cases hlt : b < w.heap.size
        · simp only [hlt, if_true]; rw [← hT.rob b hlt]; exact hbo
        · simp only [hlt, if_false]; exact hT.rep.ro b o hbo
      · intro k hk h1 h3
        have := (hT.rep.base k hk h1 h3).1
        simp only [show ¬ (ι1 k).b < w.heap.size by omega, if_false]
  refine lwp_ok (N := fn.ntmps) (B := w.heap.size) (R0 := R) (ι0 := fun _ => default) (h0 := LH.empty) (w0 := w) c lc hc (K := fun s h => resCL s h l ∧ roTo3 h (outV s h l) r) (E := fun _ _ _ => False) (T := fun s h => resCL s h l ∧ roTo3 h (outV s h l) r) ?_ ?_ ?_ _ _ _ _ hgood hw
  · intro s h a w' hg hq; exact fin s h a w' hg hq
  · intro id s h a w' _ hq; exact hq.elim
  · intro s h a w' hg hq; exact fin s h a w' hg hq

end
end Go.Proofs.Ytfhifkcbdpgomaa
