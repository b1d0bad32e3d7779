/- The lifted layer, part 13: code, and its one theorem. Conditions: none. -/
import Derived.Test.YtfhifkcbdpgomaaL12
namespace Go.Proofs.Ytfhifkcbdpgomaa
set_option linter.unusedSimpArgs false
set_option linter.unusedVariables false
open Go.RowKit

inductive LK where
  | p (o : LOp)
  | e (o : LEf)
structure LX where
  dst : Option Nat
  g : Option (Nat × Bool)
  op : LK

def gOf (want : Bool) : LV → Bool
  | .sc (.bool b) => b == want
  | .cnd g (.sc (.bool b)) => g && (b == want)
  | _ => false
def gOk : LV → Prop
  | .sc (.bool _) => True
  | .cnd _ (.sc (.bool _)) => True
  | _ => False

/-- One operation, with its guard. -/
def LStep (P : Program) (o : LX) (s : LS) (h : LH) (r : LV) (h' : LH) : Prop :=
  match o.g, o.op with
  | none, .p q => pvc P true s h q ∧ r = pval s h q ∧ h' = h
  | none, .e q => eff P s h q r h'
  | some (t, want), .p q => gOk (s t) ∧ pvc P (gOf want (s t)) s h q ∧ r = .cnd (gOf want (s t)) (pval s h q) ∧ h' = h
  | some (t, want), .e q => gOk (s t) ∧ ((gOf want (s t) = true ∧ eff P s h q r h') ∨ (gOf want (s t) = false ∧ r = .any ∧ h' = h) ∨ (∃ r', r = .cnd (gOf want (s t)) r' ∧ h' = h ∧ (gOf want (s t) = true → eff P s h q r' h)))

def LFact (o : LX) (s : LS) : Prop :=
  match o.g, o.op with
  | none, .p q => pfact s q
  | _, _ => True

def updO (s : LS) (d : Option Nat) (v : LV) : LS :=
  match d with
  | some d => upd s d v
  | none => s

def lops (P : Program) : List LX → (LS → LH → Prop) → LS → LH → Prop
  | [], K, s, h => K s h
  | o :: r, K, s, h => ∃ v h', LStep P o s h v h' ∧ (LFact o s → lops P r K (updO s o.dst v) h')

inductive LC where
  | skip
  | reg (ops : List LX)
  | dreg (pre : List LX) (sufs : List (List LX))
  | seq (a b : LC)
  | seqj (a b : LC)
  | cond (c : Operand) (a b : LC)
  | block (id : Nat) (a : LC)
  | loop (a : LC)
  | exit (id : Nat)
  | ret

/-- The same code without the marks of joins. -/
def erase : LC → LC
  | .seq a b => .seq (erase a) (erase b)
  | .seqj a b => .seq (erase a) (erase b)
  | .cond c a b => .cond c (erase a) (erase b)
  | .block i a => .block i (erase a)
  | .loop a => .loop (erase a)
  | c => c
def cOps (dr : Bool) (P : Program) (N : Nat) (all : Array Oper) : List Oper → Option (List LX)
  | [] => some []
  | o :: r =>
    match (match o.dst with | some d => decide (d < N) | none => true),
      (match o.guard with
        | none => some none
        | some (j, want) => match (all[j]?).bind (·.dst) with
          | some t => if t < N then some (some (t, want)) else none
          | none => none),
      (match cOp P o.op with
        | some q => some (LK.p q)
        | none => (cEf dr P o.op).map LK.e),
      cOps dr P N all r with
    | true, some g, some k, some l => some (⟨o.dst, g, k⟩ :: l)
    | _, _, _, _ => none

structure ActOk (N : Nat) (a : Act) (s : LS) (R : RO) (ι : IM) (h : LH) : Prop where
  defers : a.defers = []
  size : a.tmps.size = N
  slots : ∀ t, Rv R ι h (s t) (a.eval (.tmp t))

def Good (N B : Nat) (R0 : RO) (ι0 : IM) (h0 : LH) (w0 : World) (s : LS) (h : LH) (a : Act) (w : World) : Prop :=
  ∃ R ι, Trans B R0 ι0 h0 w0 R ι h w ∧ ActOk N a s R ι h

section
variable {P : Program} {N B : Nat} {R R0 : RO} {ι ι0 : IM} {h h0 : LH} {w w0 : World} {s : LS} {a : Act}

theorem ActOk.mono {R' ι' h'} (hk : ActOk N a s R ι h) (m : Mono R ι h R' ι' h') : ActOk N a s R' ι' h' := ⟨hk.defers, hk.size, fun t => (hk.slots t).mono m⟩

theorem ActOk.put (hk : ActOk N a s R ι h) {d : Option Nat} {v : LV} {x : Value} (hd : (match d with | some d => decide (d < N) | none => true) = true) (hv : Rv R ι h v x) : ActOk N (a.put d x) (updO s d v) R ι h := by
  cases d with
  | none => exact hk
  | some d =>
    have hlt : d < N := by simpa using hd
    refine ⟨hk.defers, by simp [Act.put, hk.size], fun t => ?_⟩
    show Rv R ι h (upd s d v t) (((a.tmps.setIfInBounds d x)).getD t undef)
    rw [getD_set]
    unfold upd
    by_cases e : t = d
    · subst e
      rw [hk.size]
      simp [hlt, hv]
    · rw [if_neg e, if_neg (fun h => e h.1.symm)]
      exact hk.slots t

theorem eval_ok (hk : ActOk N a s R ι h) (x : Operand) : Rv R ι h (oev s x) (a.eval x) := rv_oev a hk.slots x

theorem tmps_get (hk : ActOk N a s R ι h) {t : Nat} (ht : t < N) : a.tmps[t]? = some (a.eval (.tmp t)) := by
  show a.tmps[t]? = some (a.tmps.getD t undef)
  rw [Array.getD_eq_getD_getElem?, Array.getElem?_eq_getElem (by rw [hk.size]; exact ht)]
  rfl

theorem yielded_ok (hk : ActOk N a s R ι h) {ops : Array Oper} {j t : Nat} {want : Bool} (hj : (ops[j]?).bind (·.dst) = some t) (ht : t < N) (hg : gOk (s t)) :
    (yielded ops a.tmps j == some want) = gOf want (s t) := by
  have hr := hk.slots t
  unfold yielded
  rw [hj]
  simp only [Option.bind_some, tmps_get hk ht]
  generalize s t = lv at *
  unfold gOk at hg
  split at hg
  · rw [hr.sc_inv.1]
    simp only [gOf]
    rename_i b
    cases b <;> cases want <;> rfl
  · rename_i g b
    cases g with
    | true =>
      have := (hr.cnd_inv rfl).sc_inv.1
      rw [this]
      simp only [gOf]
      cases b <;> cases want <;> rfl
    | false =>
      rw [hr.cnd_undef rfl]
      simp only [gOf, undef]
      rfl
  · exact hg.elim

theorem lops_ok {dr : Bool} {ops : Array Oper} {Q : Exit → Act → World → Prop} {K : LS → LH → Prop} (hQ : ∀ s h a w, Good N B R0 ι0 h0 w0 s h a w → K s h → Q .normal a w) :
    ∀ (idx : List Nat) (os : List Oper) (l : List LX), idx.filterMap (ops[·]?) = os → cOps dr P N ops os = some l → ∀ (s : LS) (h : LH) (a : Act) (w : World), Good N B R0 ι0 h0 w0 s h a w → lops P l K s h → wpOps P ops Q idx a w := by
  intro idx
  induction idx with
  | nil =>
    intro os l ho hc s h a w hg hl
    simp at ho; subst ho
    simp only [cOps, Option.some.injEq] at hc; subst hc
    exact hQ s h a w hg hl
  | cons i rest ih =>
    intro os l ho hc s h a w hg hl
    simp only [wpOps]
    cases hi : ops[i]? with
    | none =>
      simp only
      rw [List.filterMap_cons_none (by simpa using hi)] at ho
      exact ih os l ho hc s h a w hg hl
    | some o =>
      rw [List.filterMap_cons_some (by simpa using hi)] at ho
      subst ho
      simp only [cOps] at hc
      split at hc
      · rename_i g k l' hd hgd hk hr
        injection hc with hc
        subst hc
        simp only [lops] at hl
        obtain ⟨v, h', hstep, hnext⟩ := hl
        obtain ⟨R, ι, hT, hA⟩ := hg
        have hB : B ≤ w.heap.size := Nat.le_trans hT.size hT.below.size
        -- what follows a step that was taken
        have cont : ∀ (x : Value) (w' : World) (R' : RO) (ι' : IM), Trans B R ι h w R' ι' h' w' → Rv R' ι' h' v x → (LFact ⟨o.dst, g, k⟩ s) → wpOps P ops Q rest (a.put o.dst x) w' := by
          intro x w' R' ι' hT' hv hf
          exact ih _ l' rfl hr _ h' _ w' ⟨R', ι', hT.trans hT', (hA.mono hT'.mono).put hd hv⟩ (hnext hf)
        have fin : ∀ (q : LEf), cEf dr P o.op = some q → ∀ (v' : LV), eff P s h q v' h' → (∀ R' ι' x, Rv R' ι' h' v' x → Rv R' ι' h' v x) → LFact ⟨o.dst, g, k⟩ s → o.wp P a w (wpOps P ops Q rest) Q := by
          intro q hq v' he hvv hf
          unfold Oper.wp
          rcases eff_ok hT.rep hB (eval_ok hA) hq he with ⟨x, w', R', ι', hres, hT', hv⟩ | ⟨f, vs, hres, hcalls⟩
          · rcases hres with hres | ⟨hres, rfl⟩
            · rw [hres, Oper.upon_value]; exact cont x w' R' ι' hT' (hvv _ _ _ hv) hf
            · rw [hres, Oper.upon_skip]; exact cont undef w' R' ι' hT' (hvv _ _ _ hv) hf
          · rw [hres, Oper.upon_enter]
            refine hcalls.mono fun e w' hx => ?_
            obtain ⟨x, R', ι', rfl, hT', hv⟩ := hx
            exact cont x w' R' ι' hT' (hvv _ _ _ hv) hf
        have finP : ∀ (q : LOp), cOp P o.op = some q → pvc P true s h q → h' = h → (∀ x, Rv R ι h (pval s h q) x → Rv R ι h v x) → (pfact s q → LFact ⟨o.dst, g, k⟩ s) → o.wp P a w (wpOps P ops Q rest) Q := by
          intro q hq hvc hh hvv hf
          unfold Oper.wp
          obtain ⟨hfact, x, hres, hv⟩ := pop_ok hT.rep (eval_ok hA) hq hvc
          rw [hres, Oper.upon_value]
          subst hh
          exact cont x w R ι (Trans.refl hT.rep hB) (hvv _ hv) (hf hfact)
        cases hgo : o.guard with
        | none =>
          have hw : Region.wanted o (yielded ops a.tmps) = true := by simp [Region.wanted, hgo]
          simp only [hw, if_true]
          rw [hgo] at hgd
          injection hgd with hgd
          subst hgd
          left
          cases hq : cOp P o.op with
          | some q =>
            rw [hq] at hk
            injection hk with hk
            subst hk
            obtain ⟨h1, h2, h3⟩ := hstep
            exact finP q hq h1 h3 (fun x hx => by rw [h2]; exact hx) (fun hf => hf)
          | none =>
            rw [hq] at hk
            simp only [Option.map_eq_some_iff] at hk
            obtain ⟨q, hq', rfl⟩ := hk
            exact fin q hq' v hstep (fun _ _ _ hx => hx) trivial
        | some gw =>
          obtain ⟨j, want⟩ := gw
          rw [hgo] at hgd
          simp only at hgd
          split at hgd
          · rename_i t hjt
            split at hgd
            · rename_i htN
              injection hgd with hgd
              subst hgd
              have hgok : gOk (s t) := by
                unfold LStep at hstep
                split at hstep <;> simp_all
              have hyi := yielded_ok hA (want := want) hjt htN hgok
              have hw : Region.wanted o (yielded ops a.tmps) = gOf want (s t) := by
                simp only [Region.wanted, hgo]; exact hyi
              have hskip : gOf want (s t) = false → h' = h → (∀ R' ι', Rv R' ι' h v undef) → LFact ⟨o.dst, some (t, want), k⟩ s → wpOps P ops Q rest (a.put o.dst undef) w := by
                intro _ hh hv hf
                subst hh
                exact cont undef w R ι (Trans.refl hT.rep hB) (hv _ _) hf
              cases hq : cOp P o.op with
              | some q =>
                rw [hq] at hk
                injection hk with hk
                subst hk
                obtain ⟨h1, h2, h3, h4⟩ := hstep
                by_cases hgv : gOf want (s t) = true
                · simp only [hw, hgv, if_true]
                  left
                  rw [hgv] at h2
                  exact finP q hq h2 h4 (fun x hx => by rw [h3]; exact .cnd _ _ _ (fun _ => hx) (fun e => by rw [hgv] at e; simp at e)) (fun _ => trivial)
                · have hgf : gOf want (s t) = false := by simpa using hgv
                  simp only [hw, hgf, Bool.false_eq_true, if_false]
                  exact hskip hgf h4 (fun _ _ => by rw [h3]; exact .cnd _ _ _ (fun e => absurd e hgv) (fun _ => rfl)) trivial
              | none =>
                rw [hq] at hk
                simp only [Option.map_eq_some_iff] at hk
                obtain ⟨q, hq', rfl⟩ := hk
                obtain ⟨_, hstep⟩ := hstep
                rcases hstep with ⟨hgv, he⟩ | ⟨hgf, hv, hh⟩ | ⟨r', hv, hh, he⟩
                · simp only [hw, hgv, if_true]
                  left
                  exact fin q hq' v he (fun _ _ _ hx => hx) trivial
                · simp only [hw, hgf, Bool.false_eq_true, if_false]
                  exact hskip hgf hh (fun _ _ => by rw [hv]; exact .any _) trivial
                · by_cases hgv : gOf want (s t) = true
                  · simp only [hw, hgv, if_true]
                    left
                    exact fin q hq' r' (by rw [hh]; exact he hgv) (fun _ _ x hx => by rw [hv]; exact .cnd _ _ _ (fun _ => hx) (fun e => by rw [hgv] at e; simp at e)) trivial
                  · have hgf : gOf want (s t) = false := by simpa using hgv
                    simp only [hw, hgf, Bool.false_eq_true, if_false]
                    exact hskip hgf hh (fun _ _ => by rw [hv]; exact .cnd _ _ _ (fun e => absurd e hgv) (fun _ => rfl)) trivial
            · simp at hgd
          · simp at hgd
      · simp at hc

theorem filterMap_range (ops : Array Oper) : (List.range ops.size).filterMap (ops[·]?) = ops.toList := by
  have : ∀ n, n ≤ ops.size → ((List.range n).filterMap (ops[·]?)) = ops.toList.take n := by
    intro n
    induction n with
    | zero => intro _; simp
    | succ n ih =>
      intro hn
      rw [List.range_succ, List.filterMap_append, ih (by omega)]
      have hlt : n < ops.size := by omega
      rw [List.take_add_one]
      congr 1
      simp [hlt]
  rw [this ops.size (Nat.le_refl _), List.take_of_length_le (by simp)]

end
end Go.Proofs.Ytfhifkcbdpgomaa
