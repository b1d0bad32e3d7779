/- The lifted layer, part 17: the rewrite rules by which a walk is run. Conditions: none. -/
import Derived.Test.YtfhifkcbdpgomaaL16
namespace Go.Proofs.Ytfhifkcbdpgomaa
set_option linter.unusedSimpArgs false
set_option linter.unusedVariables false
open Go.RowKit

/-- Where a loop stands, what comes after it is kept out of sight. -/
class KE where
  e : Nat → LS → LH → Prop
  t : LS → LH → Prop
def lwpL (P : Program) (nb : Nat) (a : LC) [c : KE] (s : LS) (h : LH) : Prop := lwp P nb (.loop a) (fun _ _ => True) c.e c.t s h
/-- Where roads meet. -/
class KJ where
  k : LS → LH → Prop
  e : Nat → LS → LH → Prop
  t : LS → LH → Prop
def lwpJ (P : Program) (nb : Nat) (a b : LC) [c : KJ] (s : LS) (h : LH) : Prop := lwp P nb (.seqj a b) c.k c.e c.t s h
def evk (v : LV) (k : LV → Prop) : Prop := k v
def evb (v : Bool) (k : Bool → Prop) : Prop := k v
def evh (v : LH) (k : LH → Prop) : Prop := k v
def brK (v : LV) (A B : Prop) : Prop := isBool v ∧ Br (boolOf v) A B
@[congr] theorem evk_congr {v v' : LV} {k : LV → Prop} (h : v = v') : evk v k = evk v' k := by rw [h]
@[congr] theorem evb_congr {v v' : Bool} {k : Bool → Prop} (h : v = v') : evb v k = evb v' k := by rw [h]
@[congr] theorem evh_congr {v v' : LH} {k : LH → Prop} (h : v = v') : evh v k = evh v' k := by rw [h]
@[congr] theorem Br_congr {g g' : Bool} {A B : Prop} (h : g = g') : Br g A B = Br g' A B := by rw [h]
@[congr] theorem brK_congr {g g' : LV} {A B : Prop} (h : g = g') : brK g A B = brK g' A B := by rw [h]

def andI (k : IntKind) (a b : Int) : Int := k.wrap ((BitVec.ofInt k.bits a &&& BitVec.ofInt k.bits b).toNat)
def orbI (k : IntKind) (a b : Int) : Int := k.wrap ((BitVec.ofInt k.bits a ||| BitVec.ofInt k.bits b).toNat)
def xorI (k : IntKind) (a b : Int) : Int := k.wrap ((BitVec.ofInt k.bits a ^^^ BitVec.ofInt k.bits b).toNat)
def andnI (k : IntKind) (a b : Int) : Int := k.wrap ((BitVec.ofInt k.bits a &&& ~~~BitVec.ofInt k.bits b).toNat)
def prtV (o : Nat) (n : Option Nat) : LV → LV
  | .agg cs => partV n (cs.drop o)
  | _ => .any
def prtC (o : Nat) (n : Option Nat) : LV → Prop
  | .agg cs => partC n (cs.drop o)
  | _ => False

def stK (h : LH) (n : Nat) (xv vv : LV) (k : LV → LH → Prop) : Prop :=
  match xv with
  | .ptr a v z i c => flatOk vv = true ∧ (flat vv).length = n ∧ a < h.n ∧ (h.f a).1 = v ∧ stC (h.f a).2 z i c (flat vv) ∧ evh (h.set a (v, stV (h.f a).2 i c (flat vv))) (fun h' => k .any h')
  | _ => False
def appK (h : LH) (kd z b : Nat) (xv yv : LV) (k : LV → LH → Prop) : Prop :=
  match xv with
  | .sl a v y o n => yC h z yv ∧ ykC kd h yv ∧ y = z ∧ a < h.n ∧ (h.f a).1 = v ∧ kdC kd (h.f a).2 ∧ rngC (h.f a).2 z o n ∧ appRoom b (n + yN yv) ∧ evh (h.set a (v + 1, appO kd z o n (h.f a).2 h yv)) (fun h' => k (.sl a (v + 1) z 0 (n + yN yv)) h')
  | .nsl => yC h z yv ∧ ykC kd h yv ∧ 0 < yN yv ∧ appRoom b (yN yv) ∧ evh (h.push (appO kd z 0 0 .dead h yv)) (fun h' => k (.sl h.n 0 z 0 (yN yv)) h')
  | _ => False
/-- A call, and what follows it. -/
class KC where
  k : LV → LH → Prop
def callK (P : Program) (f : FuncId) (al : List LV) (h : LH) [c : KC] : Prop := ∃ r h', LCall P f al h r h' ∧ c.k r h'
/-- A call under a guard. -/
def gCallK (P : Program) (g : Bool) (f : FuncId) (al : List LV) (h : LH) [c : KC] : Prop := ∃ r, (g = true → LCall P f al h r h) ∧ c.k (.cnd g r) h
def effK (P : Program) (s : LS) (h : LH) (q : LEf) (k : LV → LH → Prop) : Prop := ∃ v h', eff P s h q v h' ∧ k v h'
def gEff (P : Program) (g : Bool) (s : LS) (h : LH) (q : LEf) (k : LV → LH → Prop) : Prop :=
  match q with
  | .call f al => (g = true → ∀ x, x ∈ al → opC true s x) ∧ @gCallK P g f (al.map (op1 s)) h ⟨k⟩
  | .calv y al => (g = true → opC true s y ∧ (∀ x, x ∈ al → opC true s x) ∧ isFn (op1 s y) ∧ okF P (fnOf (op1 s y)) = true) ∧ @gCallK P g (fnOf (op1 s y)) (al.map (op1 s) ++ capsOf (op1 s y)) h ⟨k⟩
  | q => Br g (effK P s h q k) (k .any h)

/-- A guarded effect: it stands until one goes on by hand. -/
class KG where
  k : LS → LH → Prop
def lopsG (P : Program) (d : Option Nat) (t : Nat) (b : Bool) (q : LEf) (r : List LX) [c : KG] (s : LS) (h : LH) : Prop := lops P (⟨d, some (t, b), .e q⟩ :: r) c.k s h
def lopsQ (P : Program) (o : LX) (K : LS → Prop) (s : LS) (h : LH) : Prop := ∃ v, LStep P o s h v h ∧ K (updO s o.dst v)
def lops0 (P : Program) (o : LX) (K : LS → LH → Prop) (s : LS) (h : LH) : Prop := ∃ v h', LStep P o s h v h' ∧ K (updO s o.dst v) h'
class KQG where
  k : LS → Prop
def lopsQG (P : Program) (d : Option Nat) (t : Nat) (b : Bool) (q : LEf) [c : KQG] (s : LS) (h : LH) : Prop := lopsQ P ⟨d, some (t, b), .e q⟩ c.k s h
def lops0G (P : Program) (d : Option Nat) (t : Nat) (b : Bool) (q : LEf) [c : KG] (s : LS) (h : LH) : Prop := lops0 P ⟨d, some (t, b), .e q⟩ c.k s h
/-- A call in a statement whose order is open: it leaves the abstract heap alone. -/
class KQ where
  k : LV → Prop
def qCallK (P : Program) (f : FuncId) (al : List LV) (h : LH) [c : KQ] : Prop := ∃ r, LCall P f al h r h ∧ c.k r

/-- A call that the model stands in for. -/
def xCallK (P : Program) (f : FuncId) (al : List LV) (h : LH) [c : KC] : Prop := ∃ r, XCall P f al r ∧ c.k r h
def mupK (P : Program) (h : LH) (kt : TypeId) (mv kv vv : LV) (k : LV → LH → Prop) : Prop :=
  match mv with
  | .mp a b => a < h.n ∧ (h.f a).1 = b ∧ (h.f a).2.isMap = true ∧ keysOk P kt (mapO (h.f a).2) (keyV kv) ∧ evh (h.set a (b, .map (mput (mapO (h.f a).2) (keyV kv) vv))) (fun h' => k .any h')
  | _ => False
def lenMO : LO → LV
  | .map es => .sc (.int .i64 es.length)
  | _ => .any
theorem lenV_mp {h : LH} {a b : Nat} : lenV h (.mp a b) = lenMO (h.f a).2 := by
  simp only [lenV]
  generalize (h.f a).2 = ob
  cases ob <;> rfl
-- what stands still is not looked into
@[congr] theorem lwp_stop {P : Program} {nb : Nat} {c : LC} {K : LS → LH → Prop} {E : Nat → LS → LH → Prop} {T : LS → LH → Prop} {s s' : LS} {h h' : LH} (h1 : s = s') (h2 : h = h') : lwp P nb c K E T s h = lwp P nb c K E T s' h' := by rw [h1, h2]
@[congr] theorem lops_stop {P : Program} {l : List LX} {K : LS → LH → Prop} {s s' : LS} {h h' : LH} (h1 : s = s') (h2 : h = h') : lops P l K s h = lops P l K s' h' := by rw [h1, h2]
@[congr] theorem lopsD_stop {P : Program} {l : List LX} {m : List (List LX)} {K : LS → LH → Prop} {s s' : LS} {h h' : LH} (h1 : s = s') (h2 : h = h') : lopsD P l m K s h = lopsD P l m K s' h' := by rw [h1, h2]
@[congr] theorem lopsE_stop {P : Program} {l : List LX} {K : LS → LH → Prop} {s s' : LS} {h h' : LH} (h1 : s = s') (h2 : h = h') : lopsE P l K s h = lopsE P l K s' h' := by rw [h1, h2]
@[congr] theorem lopsQ_stop {P : Program} {o : LX} {K : LS → Prop} {s s' : LS} {h h' : LH} (h1 : s = s') (h2 : h = h') : lopsQ P o K s h = lopsQ P o K s' h' := by rw [h1, h2]
@[congr] theorem lops0_stop {P : Program} {o : LX} {K : LS → LH → Prop} {s s' : LS} {h h' : LH} (h1 : s = s') (h2 : h = h') : lops0 P o K s h = lops0 P o K s' h' := by rw [h1, h2]

section
variable {P : Program} {nb : Nat} {K : LS → LH → Prop} {E : Nat → LS → LH → Prop} {T : LS → LH → Prop} {s : LS} {h : LH} {k : LV → LH → Prop}

theorem lwp_cond_eq {c : Operand} {a b : LC} : lwp P nb (.cond c a b) K E T s h = (opC true s c ∧ brK (op1 s c) (lwp P nb a K E T s h) (lwp P nb b K E T s h)) := by
  simp only [lwp, brK, eq_iff_iff]
  constructor
  · rintro ⟨a, b, c⟩; exact ⟨b, a, c⟩
  · rintro ⟨b, a, c⟩; exact ⟨a, b, c⟩
theorem lops_p_eq {d : Option Nat} {q : LOp} {r : List LX} : lops P (⟨d, none, .p q⟩ :: r) K s h = (pvc P true s h q ∧ evk (pval s h q) (fun v => pfact s q → lops P r K (updO s d v) h)) := by
  simp only [lops, LStep, LFact, evk, eq_iff_iff]
  constructor
  · rintro ⟨v, h', ⟨h1, rfl, rfl⟩, h3⟩; exact ⟨h1, h3⟩
  · rintro ⟨h1, h3⟩; exact ⟨_, _, ⟨h1, rfl, rfl⟩, h3⟩
theorem lops_gp_eq {d : Option Nat} {t : Nat} {b : Bool} {q : LOp} {r : List LX} : lops P (⟨d, some (t, b), .p q⟩ :: r) K s h = evk (s t) (fun gv => gOk gv ∧ evb (gOf b gv) (fun g => pvc P g s h q ∧ evk (pval s h q) (fun v => lops P r K (updO s d (.cnd g v)) h))) := by
  simp only [lops, LStep, LFact, evk, evb, eq_iff_iff]
  constructor
  · rintro ⟨v, h', ⟨h1, h2, rfl, rfl⟩, h3⟩; exact ⟨h1, h2, h3 trivial⟩
  · rintro ⟨h1, h2, h3⟩; exact ⟨_, _, ⟨h1, h2, rfl, rfl⟩, fun _ => h3⟩
theorem lops_e_eq {d : Option Nat} {q : LEf} {r : List LX} : lops P (⟨d, none, .e q⟩ :: r) K s h = effK P s h q (fun v h' => lops P r K (updO s d v) h') := by
  simp only [lops, LStep, LFact, effK, eq_iff_iff]
  constructor
  · rintro ⟨v, h', h1, h3⟩; exact ⟨v, h', h1, h3 trivial⟩
  · rintro ⟨v, h', h1, h3⟩; exact ⟨v, h', h1, fun _ => h3⟩
theorem lops_ge_imp {d : Option Nat} {t : Nat} {b : Bool} {q : LEf} {r : List LX} (hx : evk (s t) (fun gv => gOk gv ∧ evb (gOf b gv) (fun g => gEff P g s h q (fun v h' => lops P r K (updO s d v) h')))) : @lopsG P d t b q r ⟨K⟩ s h := by
  show lops P (⟨d, some (t, b), .e q⟩ :: r) K s h
  simp only [lops, LStep, LFact, evk, evb] at hx ⊢
  obtain ⟨h1, h2⟩ := hx
  unfold gEff at h2
  split at h2
  · obtain ⟨h3, r', h4, h5⟩ := h2
    exact ⟨_, _, ⟨h1, .inr (.inr ⟨r', rfl, rfl, fun hg => ⟨h3 hg, h4 hg⟩⟩)⟩, fun _ => h5⟩
  · obtain ⟨h3, r', h4, h5⟩ := h2
    exact ⟨_, _, ⟨h1, .inr (.inr ⟨r', rfl, rfl, fun hg => let ⟨a1, a2, a3, a4⟩ := h3 hg; ⟨a1, a2, a3, a4, h4 hg⟩⟩)⟩, fun _ => h5⟩
  · by_cases hg : gOf b (s t) = true
    · obtain ⟨v, h', h3, h4⟩ := h2.1 hg
      exact ⟨v, h', ⟨h1, .inl ⟨hg, h3⟩⟩, fun _ => h4⟩
    · have hg' : gOf b (s t) = false := by simpa using hg
      exact ⟨_, _, ⟨h1, .inr (.inl ⟨hg', rfl, rfl⟩)⟩, fun _ => h2.2 hg'⟩
theorem lopsE_nil_eq : lopsE P [] K s h = K s h := rfl
theorem lopsE_cons_eq {o : LX} {r : List LX} : lopsE P (o :: r) K s h = lops0 P o (fun s h => lopsE P r K s h) s h := rfl
theorem lopsD_nil_eq {m : List (List LX)} : lopsD P [] m K s h = lopsA P m K s h := rfl
theorem lopsA_one_eq {m : List LX} : lopsA P [m] K s h = lopsE P m K s h := by simp [lopsA]
theorem lopsA_cons_eq {m m2 : List LX} {r : List (List LX)} : lopsA P (m :: m2 :: r) K s h = (lopsE P m K s h ∧ lopsA P (m2 :: r) K s h) := rfl
theorem lopsD_cons_eq {o : LX} {r : List LX} {m : List (List LX)} : lopsD P (o :: r) m K s h = lopsQ P o (fun s => lopsD P r m K s h) s h := rfl
theorem lopsQ_p {K : LS → Prop} {d : Option Nat} {q : LOp} : lopsQ P ⟨d, none, .p q⟩ K s h = (pvc P true s h q ∧ evk (pval s h q) (fun v => K (updO s d v))) := by
  simp only [lopsQ, LStep, evk, eq_iff_iff]
  constructor
  · rintro ⟨v, ⟨h1, rfl, _⟩, h3⟩; exact ⟨h1, h3⟩
  · rintro ⟨h1, h3⟩; exact ⟨_, ⟨h1, rfl, trivial⟩, h3⟩
theorem lopsQ_gp {K : LS → Prop} {d : Option Nat} {t : Nat} {b : Bool} {q : LOp} : lopsQ P ⟨d, some (t, b), .p q⟩ K s h = evk (s t) (fun gv => gOk gv ∧ evb (gOf b gv) (fun g => pvc P g s h q ∧ evk (pval s h q) (fun v => K (updO s d (.cnd g v))))) := by
  simp only [lopsQ, LStep, evk, evb, eq_iff_iff]
  constructor
  · rintro ⟨v, ⟨h1, h2, rfl, _⟩, h3⟩; exact ⟨h1, h2, h3⟩
  · rintro ⟨h1, h2, h3⟩; exact ⟨_, ⟨h1, h2, rfl, trivial⟩, h3⟩
theorem lopsQ_call {K : LS → Prop} {d : Option Nat} {f : FuncId} {al : List Operand} : lopsQ P ⟨d, none, .e (.call f al)⟩ K s h = ((∀ x, x ∈ al → opC true s x) ∧ @qCallK P f (al.map (op1 s)) h ⟨fun v => K (updO s d v)⟩) := by
  simp only [lopsQ, LStep, eff, qCallK, eq_iff_iff]
  constructor
  · rintro ⟨v, ⟨h1, h2⟩, h3⟩; exact ⟨h1, v, h2, h3⟩
  · rintro ⟨h1, v, h2, h3⟩; exact ⟨v, ⟨h1, h2⟩, h3⟩
theorem lopsQ_gcall {K : LS → Prop} {d : Option Nat} {t : Nat} {b : Bool} {f : FuncId} {al : List Operand} (hx : evk (s t) (fun gv => gOk gv ∧ evb (gOf b gv) (fun g => (g = true → ∀ x, x ∈ al → opC true s x) ∧ @gCallK P g f (al.map (op1 s)) h ⟨fun v _ => K (updO s d v)⟩))) :
    @lopsQG P d t b (.call f al) ⟨K⟩ s h := by
  show lopsQ P ⟨d, some (t, b), .e (.call f al)⟩ K s h
  simp only [evk, evb, gCallK] at hx
  obtain ⟨h1, h2, r, h3, h4⟩ := hx
  exact ⟨.cnd (gOf b (s t)) r, ⟨h1, .inr (.inr ⟨r, rfl, rfl, fun hg => ⟨h2 hg, h3 hg⟩⟩)⟩, h4⟩
theorem lops0_p {d : Option Nat} {q : LOp} : lops0 P ⟨d, none, .p q⟩ K s h = (pvc P true s h q ∧ evk (pval s h q) (fun v => K (updO s d v) h)) := by
  simp only [lops0, LStep, evk, eq_iff_iff]
  constructor
  · rintro ⟨v, h', ⟨h1, rfl, rfl⟩, h3⟩; exact ⟨h1, h3⟩
  · rintro ⟨h1, h3⟩; exact ⟨_, _, ⟨h1, rfl, rfl⟩, h3⟩
theorem lops0_gp {d : Option Nat} {t : Nat} {b : Bool} {q : LOp} : lops0 P ⟨d, some (t, b), .p q⟩ K s h = evk (s t) (fun gv => gOk gv ∧ evb (gOf b gv) (fun g => pvc P g s h q ∧ evk (pval s h q) (fun v => K (updO s d (.cnd g v)) h))) := by
  simp only [lops0, LStep, evk, evb, eq_iff_iff]
  constructor
  · rintro ⟨v, h', ⟨h1, h2, rfl, rfl⟩, h3⟩; exact ⟨h1, h2, h3⟩
  · rintro ⟨h1, h2, h3⟩; exact ⟨_, _, ⟨h1, h2, rfl, rfl⟩, h3⟩
/-- A call in a statement whose order is open, that may run in any heap. -/
def eCallK (P : Program) (f : FuncId) (al : List LV) [c : KQ] : Prop := ∃ r, (∀ hh, LCall P f al hh r hh) ∧ c.k r
def geCallK (P : Program) (g : Bool) (f : FuncId) (al : List LV) [c : KQ] : Prop := ∃ r, (g = true → ∀ hh, LCall P f al hh r hh) ∧ c.k r
theorem lopsQ_ecl {K : LS → Prop} {d : Option Nat} {f : FuncId} {al : List Operand} : lopsQ P ⟨d, none, .e (.ecl f al)⟩ K s h = ((∀ x, x ∈ al → opC true s x) ∧ @eCallK P f (al.map (op1 s)) ⟨fun v => K (updO s d v)⟩) := by
  simp only [lopsQ, LStep, eff, eCallK, eq_iff_iff]
  constructor
  · rintro ⟨v, ⟨h1, h2, _⟩, h3⟩; exact ⟨h1, v, h2, h3⟩
  · rintro ⟨h1, v, h2, h3⟩; exact ⟨v, ⟨h1, h2, trivial⟩, h3⟩
theorem lopsQ_gecl {K : LS → Prop} {d : Option Nat} {t : Nat} {b : Bool} {f : FuncId} {al : List Operand} (hx : evk (s t) (fun gv => gOk gv ∧ evb (gOf b gv) (fun g => (g = true → ∀ x, x ∈ al → opC true s x) ∧ @geCallK P g f (al.map (op1 s)) ⟨fun v => K (updO s d (.cnd g v))⟩))) :
    @lopsQG P d t b (.ecl f al) ⟨K⟩ s h := by
  show lopsQ P ⟨d, some (t, b), .e (.ecl f al)⟩ K s h
  simp only [evk, evb, geCallK] at hx
  obtain ⟨h1, h2, r, h3, h4⟩ := hx
  exact ⟨.cnd (gOf b (s t)) r, ⟨h1, .inr (.inr ⟨r, rfl, rfl, fun hg => ⟨h2 hg, h3 hg, rfl⟩⟩)⟩, h4⟩
theorem brK_eq {g : Bool} {A B : Prop} : brK (.sc (.bool g)) A B = Br g A B := by simp [brK, isBool, boolOf]
theorem Br_true {A B : Prop} : Br true A B = A := by simp [Br]
theorem Br_false {A B : Prop} : Br false A B = B := by simp [Br]
theorem liftC1_ncnd (x : Value) (g : Bool) (v : LV) : liftC1 x ≠ .cnd g v := by
  unfold liftC1; split <;> simp
theorem liftC_ncnd (x : Value) (g : Bool) (v : LV) : liftC x ≠ .cnd g v := by
  cases x <;> simp [liftC, liftC1_ncnd]
theorem opC_const {g : Bool} {v : Value} : opC g s (.const v) = True := by
  show stripC g (if aggOk v then liftC v else .any) = True
  split
  · generalize hx : liftC v = lv
    cases lv with
    | cnd g' v' => exact absurd hx (liftC_ncnd _ _ _)
    | _ => rfl
  · rfl
theorem op1_agg {cs : Array Value} : op1 s (.const (.agg cs)) = if cs.all plainV then .agg (cs.toList.map liftC1) else .any := by
  show stripV (if cs.all plainV then .agg (cs.toList.map liftC1) else .any) = _
  split <;> rfl
theorem selB_true (a b : LV) : selB true a b = a := by unfold selB; split <;> rfl
theorem selB_false (a b : LV) : selB false a b = b := by unfold selB; split <;> rfl
theorem gOf_t (b : Bool) : gOf true (.sc (.bool b)) = b := by cases b <;> rfl
theorem gOf_f (b : Bool) : gOf false (.sc (.bool b)) = !b := by cases b <;> rfl
theorem gOf_ct (g b : Bool) : gOf true (.cnd g (.sc (.bool b))) = (g && b) := by cases b <;> cases g <;> rfl
theorem gOf_cf (g b : Bool) : gOf false (.cnd g (.sc (.bool b))) = (g && !b) := by cases b <;> cases g <;> rfl

theorem effK_st {n : Nat} {x v : Operand} : effK P s h (.st n x v) k = (opC true s x ∧ opC true s v ∧ evk (op1 s v) (fun vv => evk (op1 s x) (fun xv => stK h n xv vv k))) := by
  simp only [effK, eff, evk, stK, eq_iff_iff]
  generalize op1 s x = xv
  cases xv with
  | ptr a ver z i c =>
    simp only [evh]
    constructor
    · rintro ⟨_, _, ⟨h1, h2, h3, h4, h5, h6, h7, rfl, rfl⟩, h8⟩; exact ⟨h1, h2, h3, h4, h5, h6, h7, h8⟩
    · rintro ⟨h1, h2, h3, h4, h5, h6, h7, h8⟩; exact ⟨_, _, ⟨h1, h2, h3, h4, h5, h6, h7, rfl, rfl⟩, h8⟩
  | _ => simp
theorem effK_alc {z : List Value} : effK P s h (.alc z) k = evh (h.push (.box (z.map liftC1))) (fun h' => k (.ptr h.n 0 0 0 0) h') := by
  simp only [effK, eff, evh, eq_iff_iff]
  constructor
  · rintro ⟨_, _, ⟨rfl, rfl⟩, h1⟩; exact h1
  · intro h1; exact ⟨_, _, ⟨rfl, rfl⟩, h1⟩
theorem effK_box {v : Operand} : effK P s h (.box v) k = (opC true s v ∧ evk (op1 s v) (fun vv => flatOk vv = true ∧ evh (h.push (.box (flat vv))) (fun h' => k (.ptr h.n 0 0 0 0) h'))) := by
  simp only [effK, eff, evk, evh, eq_iff_iff]
  constructor
  · rintro ⟨_, _, ⟨h1, h2, rfl, rfl⟩, h3⟩; exact ⟨h1, h2, h3⟩
  · rintro ⟨h1, h2, h3⟩; exact ⟨_, _, ⟨h1, h2, rfl, rfl⟩, h3⟩
theorem effK_mks {kd z : Nat} {zr : List Value} {b : Nat} {l c : Operand} : effK P s h (.mks kd z zr b l c) k = (opC true s l ∧ opC true s c ∧ evk (op1 s l) (fun lv => evk (op1 s c) (fun cv => isI64 lv ∧ isI64 cv ∧ mksC (intOfV lv) (intOfV cv) b ∧ evh (h.push (repO kd z (intOfV lv).toNat zr)) (fun h' => k (.sl h.n 0 z 0 (intOfV lv).toNat) h')))) := by
  simp only [effK, eff, evk, evh, eq_iff_iff]
  constructor
  · rintro ⟨_, _, ⟨h1, h2, h3, h4, h5, rfl, rfl⟩, h6⟩; exact ⟨h1, h2, h3, h4, h5, h6⟩
  · rintro ⟨h1, h2, h3, h4, h5, h6⟩; exact ⟨_, _, ⟨h1, h2, h3, h4, h5, rfl, rfl⟩, h6⟩
theorem effK_bsl {kd l z : Nat} {zr : List Value} {ps : List (Nat × Nat × Operand)} : effK P s h (.bsl kd l z zr ps) k = (opLC true s ps ∧ fillC (l * z) (opL s ps) ∧ litC kd (fillV (repZ l z zr) (opL s ps)) ∧ evh (h.push (litO kd z l (fillV (repZ l z zr) (opL s ps)))) (fun h' => k (.sl h.n 0 z 0 l) h')) := by
  simp only [effK, eff, evh, eq_iff_iff]
  constructor
  · rintro ⟨_, _, ⟨h1, h2, h3, rfl, rfl⟩, h6⟩; exact ⟨h1, h2, h3, h6⟩
  · rintro ⟨h1, h2, h3, h6⟩; exact ⟨_, _, ⟨h1, h2, h3, rfl, rfl⟩, h6⟩
theorem effK_bsr {l z : Nat} {zr : List Value} {ps : List (Nat × Nat × Operand)} : effK P s h (.bsr l z zr ps) k = (opLC true s ps ∧ fillC (l * z) (opL s ps) ∧ roishL (fillV (repZ l z zr) (opL s ps)) ∧ ∃ f, (∀ i, i < l → f i = ((fillV (repZ l z zr) (opL s ps)).drop (i * z)).take z) ∧ k (.rsl z l f) h) := by
  simp only [effK, eff, eq_iff_iff]
  constructor
  · rintro ⟨_, _, ⟨h1, h2, h3, ⟨f, hf, rfl⟩, rfl⟩, h6⟩; exact ⟨h1, h2, h3, f, hf, h6⟩
  · rintro ⟨h1, h2, h3, f, hf, h6⟩; exact ⟨_, _, ⟨h1, h2, h3, ⟨f, hf, rfl⟩, rfl⟩, h6⟩
theorem lopsQ_bsr {K : LS → Prop} {d : Option Nat} {l z : Nat} {zr : List Value} {ps : List (Nat × Nat × Operand)} : lopsQ P ⟨d, none, .e (.bsr l z zr ps)⟩ K s h = (opLC true s ps ∧ fillC (l * z) (opL s ps) ∧ roishL (fillV (repZ l z zr) (opL s ps)) ∧ ∃ f, (∀ i, i < l → f i = ((fillV (repZ l z zr) (opL s ps)).drop (i * z)).take z) ∧ K (updO s d (.rsl z l f))) := by
  simp only [lopsQ, LStep, eff, eq_iff_iff]
  constructor
  · rintro ⟨_, ⟨h1, h2, h3, ⟨f, hf, rfl⟩, _⟩, h6⟩; exact ⟨h1, h2, h3, f, hf, h6⟩
  · rintro ⟨h1, h2, h3, f, hf, h6⟩; exact ⟨_, ⟨h1, h2, h3, ⟨f, hf, rfl⟩, trivial⟩, h6⟩
theorem effK_app {kd z b : Nat} {x y : Operand} : effK P s h (.app kd z b x y) k = (opC true s x ∧ opC true s y ∧ evk (op1 s y) (fun yv => evk (op1 s x) (fun xv => appK h kd z b xv yv k))) := by
  simp only [effK, eff, evk, appK, eq_iff_iff]
  generalize op1 s x = xv
  cases xv with
  | sl a ver y' o n =>
    simp only [evh]
    constructor
    · rintro ⟨_, _, ⟨h1, h2, h3, h4, h5, h6, h7, h8, h9, h10, rfl, rfl⟩, h11⟩; exact ⟨h1, h2, h3, h4, h5, h6, h7, h8, h9, h10, h11⟩
    · rintro ⟨h1, h2, h3, h4, h5, h6, h7, h8, h9, h10, h11⟩; exact ⟨_, _, ⟨h1, h2, h3, h4, h5, h6, h7, h8, h9, h10, rfl, rfl⟩, h11⟩
  | nsl =>
    simp only [evh]
    constructor
    · rintro ⟨_, _, ⟨h1, h2, h3, h4, h5, h6, rfl, rfl⟩, h11⟩; exact ⟨h1, h2, h3, h4, h5, h6, h11⟩
    · rintro ⟨h1, h2, h3, h4, h5, h6, h11⟩; exact ⟨_, _, ⟨h1, h2, h3, h4, h5, h6, rfl, rfl⟩, h11⟩
  | _ => simp
theorem effK_call {f : FuncId} {al : List Operand} : effK P s h (.call f al) k = ((∀ x, x ∈ al → opC true s x) ∧ @callK P f (al.map (op1 s)) h ⟨k⟩) := by
  simp only [effK, eff, callK, eq_iff_iff]
  constructor
  · rintro ⟨r, h', ⟨h1, h2⟩, h3⟩; exact ⟨h1, r, h', h2, h3⟩
  · rintro ⟨h1, r, h', h2, h3⟩; exact ⟨r, h', ⟨h1, h2⟩, h3⟩
theorem effK_calv {x : Operand} {al : List Operand} : effK P s h (.calv x al) k = (opC true s x ∧ (∀ x, x ∈ al → opC true s x) ∧ evk (op1 s x) (fun xv => isFn xv ∧ okF P (fnOf xv) = true ∧ @callK P (fnOf xv) (al.map (op1 s) ++ capsOf xv) h ⟨k⟩)) := by
  simp only [effK, eff, callK, evk, eq_iff_iff]
  constructor
  · rintro ⟨r, h', ⟨h1, h2, h3, h4, h5⟩, h6⟩; exact ⟨h1, h2, h3, h4, r, h', h5, h6⟩
  · rintro ⟨h1, h2, h3, h4, r, h', h5, h6⟩; exact ⟨r, h', ⟨h1, h2, h3, h4, h5⟩, h6⟩
theorem effK_ext {f : FuncId} {al : List Operand} : effK P s h (.ext f al) k = ((∀ x, x ∈ al → opC true s x) ∧ @xCallK P f (al.map (op1 s)) h ⟨k⟩) := by
  simp only [effK, eff, xCallK, eq_iff_iff]
  constructor
  · rintro ⟨r, h', ⟨h1, h2, rfl⟩, h3⟩; exact ⟨h1, r, h2, h3⟩
  · rintro ⟨h1, r, h2, h3⟩; exact ⟨r, h, ⟨h1, h2, rfl⟩, h3⟩
theorem effK_bad : effK P s h .bad k = False := by
  simp [effK, eff]
theorem lopsQ_ext {K : LS → Prop} {d : Option Nat} {f : FuncId} {al : List Operand} : lopsQ P ⟨d, none, .e (.ext f al)⟩ K s h = ((∀ x, x ∈ al → opC true s x) ∧ @xCallK P f (al.map (op1 s)) h ⟨fun v _ => K (updO s d v)⟩) := by
  simp only [lopsQ, LStep, eff, xCallK, eq_iff_iff]
  constructor
  · rintro ⟨v, ⟨h1, h2, _⟩, h3⟩; exact ⟨h1, v, h2, h3⟩
  · rintro ⟨h1, v, h2, h3⟩; exact ⟨v, ⟨h1, h2, trivial⟩, h3⟩
theorem effK_mkm : effK P s h .mkm k = evh (h.push (.map [])) (fun h' => k (.mp h.n 0) h') := by
  simp only [effK, eff, evh, eq_iff_iff]
  constructor
  · rintro ⟨_, _, ⟨rfl, rfl⟩, h1⟩; exact h1
  · intro h1; exact ⟨_, _, ⟨rfl, rfl⟩, h1⟩
theorem effK_mup {kt : TypeId} {m q v : Operand} : effK P s h (.mup kt m q v) k = (opC true s m ∧ opC true s q ∧ opC true s v ∧ evk (op1 s q) (fun kv => evk (op1 s v) (fun vv => keyC kv ∧ evk (op1 s m) (fun mv => mupK P h kt mv kv vv k)))) := by
  simp only [effK, eff, evk, mupK, eq_iff_iff]
  generalize op1 s m = mv
  cases mv with
  | mp a b =>
    simp only [evh]
    constructor
    · rintro ⟨_, _, ⟨h1, h2, h3, h4, h5, h6, h7, h8, rfl, rfl⟩, h9⟩; exact ⟨h1, h2, h3, h4, h5, h6, h7, h8, h9⟩
    · rintro ⟨h1, h2, h3, h4, h5, h6, h7, h8, h9⟩; exact ⟨_, _, ⟨h1, h2, h3, h4, h5, h6, h7, h8, rfl, rfl⟩, h9⟩
  | _ => simp
theorem yIntsC_sl {a b c d m : Nat} : yIntsC h (.sl a b c d m) = isInts (h.f a).2 := by
  unfold yIntsC isInts; split <;> simp_all
theorem yBoolsC_sl {a b c d m : Nat} : yBoolsC h (.sl a b c d m) = isBools (h.f a).2 := by
  unfold yBoolsC isBools; split <;> simp_all
theorem yInts_sl {a b c d m : Nat} : yInts h (.sl a b c d m) = ((intsO (h.f a).2).drop d).take m := by
  simp only [yInts]
  generalize (h.f a).2 = ob
  cases ob <;> simp [intsO]
theorem yBools_sl {a b c d m : Nat} : yBools h (.sl a b c d m) = ((boolsO (h.f a).2).drop d).take m := by
  simp only [yBools]
  generalize (h.f a).2 = ob
  cases ob <;> simp [boolsO]
theorem mkH_push (l : List (Nat × LO)) (ob : LO) : (mkH l).push ob = mkH (l ++ [(0, ob)]) := by
  unfold mkH LH.push
  congr 1
  · simp
  · funext k
    simp only [List.getD_eq_getElem?_getD]
    by_cases e : k < l.length
    · rw [if_neg (by omega), List.getElem?_append_left e]
    · by_cases e2 : k = l.length
      · subst e2; simp
      · rw [if_neg e2, List.getElem?_eq_none (by omega), List.getElem?_eq_none (by simp; omega)]
theorem mkH_set (l : List (Nat × LO)) (k : Nat) (vo : Nat × LO) (hk : k < l.length) : (mkH l).set k vo = mkH (l.set k vo) := by
  unfold mkH LH.set
  congr 1
  · simp
  · funext j
    simp only [List.getD_eq_getElem?_getD]
    by_cases e : j = k
    · subst e; simp [hk]
    · rw [if_neg e, List.getElem?_set_ne (fun h => e h.symm)]
theorem mkH_nil : mkH [] = LH.empty := by
  unfold mkH LH.empty; simp
theorem roTo1_sc {v : Value} {r : LV} : roTo1 h (.sc v) r = (.sc v = r) := by
  unfold roTo1; split <;> simp_all [roish1]
theorem roTo2_sc {v : Value} {r : LV} : roTo2 h (.sc v) r = (.sc v = r) := by
  unfold roTo2
  split <;> first | contradiction | exact roTo1_sc
theorem roTo3_sc {v : Value} {r : LV} : roTo3 h (.sc v) r = (.sc v = r) := by
  unfold roTo3
  split <;> first | contradiction | exact roTo2_sc
theorem roTo1_rsl {a n : Nat} {f : Nat → List LV} {r : LV} : roTo1 h (.rsl a n f) r = (.rsl a n f = r) := by
  unfold roTo1; split <;> simp_all [roish1]
theorem roTo2_rsl {a n : Nat} {f : Nat → List LV} {r : LV} : roTo2 h (.rsl a n f) r = (.rsl a n f = r) := by
  unfold roTo2
  split <;> first | contradiction | exact roTo1_rsl
theorem roTo3_rsl {a n : Nat} {f : Nat → List LV} {r : LV} : roTo3 h (.rsl a n f) r = (.rsl a n f = r) := by
  unfold roTo3
  split <;> first | contradiction | exact roTo2_rsl
end

theorem EVP0 :
    (∀ (P : Program) (nb : Nat) (K : LS → LH → Prop) (E : Nat → LS → LH → Prop) (T : LS → LH → Prop) (s : LS) (h : LH), lwp P nb .skip K E T s h = K s h)
    ∧ (∀ (P : Program) (nb : Nat) (K : LS → LH → Prop) (E : Nat → LS → LH → Prop) (T : LS → LH → Prop) (s : LS) (h : LH) (ops : List LX), lwp P nb (.reg ops) K E T s h = lops P ops K s h)
    ∧ (∀ (P : Program) (nb : Nat) (K : LS → LH → Prop) (E : Nat → LS → LH → Prop) (T : LS → LH → Prop) (s : LS) (h : LH) (pre : List LX) (sufs : List (List LX)), lwp P nb (.dreg pre sufs) K E T s h = lopsD P pre sufs K s h)
    ∧ (∀ (P : Program) (K : LS → LH → Prop) (s : LS) (h : LH) (m : List (List LX)), lopsD P [] m K s h = lopsA P m K s h)
    ∧ (∀ (P : Program) (K : LS → LH → Prop) (s : LS) (h : LH) (m : List LX), lopsA P [m] K s h = lopsE P m K s h)
    ∧ (∀ (P : Program) (K : LS → LH → Prop) (s : LS) (h : LH) (m m2 : List LX) (r : List (List LX)), lopsA P (m :: m2 :: r) K s h = (lopsE P m K s h ∧ lopsA P (m2 :: r) K s h))
    ∧ (∀ (P : Program) (K : LS → LH → Prop) (s : LS) (h : LH), lopsE P [] K s h = K s h)
    ∧ (∀ (P : Program) (K : LS → LH → Prop) (s : LS) (h : LH) (o : LX) (r : List LX), lopsE P (o :: r) K s h = lops0 P o (fun s h => lopsE P r K s h) s h)
    ∧ (∀ (P : Program) (K : LS → LH → Prop) (s : LS) (h : LH) (o : LX) (r : List LX) (m : List (List LX)), lopsD P (o :: r) m K s h = lopsQ P o (fun s => lopsD P r m K s h) s h)
    ∧ (∀ (P : Program) (K : LS → Prop) (s : LS) (h : LH) (d : Option Nat) (q : LOp), lopsQ P ⟨d, none, .p q⟩ K s h = (pvc P true s h q ∧ evk (pval s h q) (fun v => K (updO s d v))))
    ∧ (∀ (P : Program) (K : LS → Prop) (s : LS) (h : LH) (d : Option Nat) (t : Nat) (b : Bool) (q : LOp), lopsQ P ⟨d, some (t, b), .p q⟩ K s h = evk (s t) (fun gv => gOk gv ∧ evb (gOf b gv) (fun g => pvc P g s h q ∧ evk (pval s h q) (fun v => K (updO s d (.cnd g v))))))
    ∧ (∀ (P : Program) (K : LS → Prop) (s : LS) (h : LH) (d : Option Nat) (f : FuncId) (al : List Operand), lopsQ P ⟨d, none, .e (.call f al)⟩ K s h = ((∀ x, x ∈ al → opC true s x) ∧ @qCallK P f (al.map (op1 s)) h ⟨fun v => K (updO s d v)⟩))
    ∧ (∀ (P : Program) (K : LS → Prop) (s : LS) (h : LH) (d : Option Nat) (f : FuncId) (al : List Operand), lopsQ P ⟨d, none, .e (.ecl f al)⟩ K s h = ((∀ x, x ∈ al → opC true s x) ∧ @eCallK P f (al.map (op1 s)) ⟨fun v => K (updO s d v)⟩))
    ∧ (∀ (P : Program) (K : LS → LH → Prop) (s : LS) (h : LH) (d : Option Nat) (q : LOp), lops0 P ⟨d, none, .p q⟩ K s h = (pvc P true s h q ∧ evk (pval s h q) (fun v => K (updO s d v) h)))
    ∧ (∀ (P : Program) (K : LS → LH → Prop) (s : LS) (h : LH) (d : Option Nat) (t : Nat) (b : Bool) (q : LOp), lops0 P ⟨d, some (t, b), .p q⟩ K s h = evk (s t) (fun gv => gOk gv ∧ evb (gOf b gv) (fun g => pvc P g s h q ∧ evk (pval s h q) (fun v => K (updO s d (.cnd g v)) h))))
    ∧ (∀ (P : Program) (K : LS → LH → Prop) (s : LS) (h : LH) (d : Option Nat) (q : LEf), lops0 P ⟨d, none, .e q⟩ K s h = effK P s h q (fun v h' => K (updO s d v) h'))
    ∧ (∀ (P : Program) (nb : Nat) (K : LS → LH → Prop) (E : Nat → LS → LH → Prop) (T : LS → LH → Prop) (s : LS) (h : LH) (a b : LC), lwp P nb (.seq a b) K E T s h = lwp P nb a (fun s h => lwp P nb b K E T s h) E T s h)
    ∧ (∀ (P : Program) (nb : Nat) (K : LS → LH → Prop) (E : Nat → LS → LH → Prop) (T : LS → LH → Prop) (s : LS) (h : LH) (a b : LC), lwp P nb (.seqj a b) K E T s h = @lwpJ P nb a b ⟨K, E, T⟩ s h)
    ∧ (∀ (P : Program) (nb : Nat) (K : LS → LH → Prop) (E : Nat → LS → LH → Prop) (T : LS → LH → Prop) (s : LS) (h : LH) (c : Operand) (a b : LC), lwp P nb (.cond c a b) K E T s h = (opC true s c ∧ brK (op1 s c) (lwp P nb a K E T s h) (lwp P nb b K E T s h)))
    ∧ (∀ (P : Program) (nb : Nat) (K : LS → LH → Prop) (E : Nat → LS → LH → Prop) (T : LS → LH → Prop) (s : LS) (h : LH) (id : Nat) (a : LC), lwp P nb (.block id a) K E T s h = lwp P nb a K (fun j s h => if j = id then K s h else E j s h) T s h)
    ∧ (∀ (P : Program) (nb : Nat) (K : LS → LH → Prop) (E : Nat → LS → LH → Prop) (T : LS → LH → Prop) (s : LS) (h : LH) (a : LC), lwp P nb (.loop a) K E T s h = @lwpL P nb a ⟨E, T⟩ s h)
    ∧ (∀ (P : Program) (nb : Nat) (K : LS → LH → Prop) (E : Nat → LS → LH → Prop) (T : LS → LH → Prop) (s : LS) (h : LH) (id : Nat), lwp P nb (.exit id) K E T s h = E id s h)
    ∧ (∀ (P : Program) (nb : Nat) (K : LS → LH → Prop) (E : Nat → LS → LH → Prop) (T : LS → LH → Prop) (s : LS) (h : LH), lwp P nb .ret K E T s h = T s h)
    ∧ (∀ (P : Program) (K : LS → LH → Prop) (s : LS) (h : LH), lops P [] K s h = K s h)
    ∧ (∀ (P : Program) (K : LS → LH → Prop) (s : LS) (h : LH) (d : Option Nat) (q : LOp) (r : List LX), lops P (⟨d, none, .p q⟩ :: r) K s h = (pvc P true s h q ∧ evk (pval s h q) (fun v => pfact s q → lops P r K (updO s d v) h)))
    ∧ (∀ (P : Program) (K : LS → LH → Prop) (s : LS) (h : LH) (d : Option Nat) (t : Nat) (b : Bool) (q : LOp) (r : List LX), lops P (⟨d, some (t, b), .p q⟩ :: r) K s h = evk (s t) (fun gv => gOk gv ∧ evb (gOf b gv) (fun g => pvc P g s h q ∧ evk (pval s h q) (fun v => lops P r K (updO s d (.cnd g v)) h))))
    ∧ (∀ (P : Program) (K : LS → LH → Prop) (s : LS) (h : LH) (d : Option Nat) (q : LEf) (r : List LX), lops P (⟨d, none, .e q⟩ :: r) K s h = effK P s h q (fun v h' => lops P r K (updO s d v) h'))
    ∧ (∀ (P : Program) (K : LS → LH → Prop) (s : LS) (h : LH) (d : Option Nat) (t : Nat) (b : Bool) (q : LEf) (r : List LX), lops P (⟨d, some (t, b), .e q⟩ :: r) K s h = @lopsG P d t b q r ⟨K⟩ s h)
    ∧ (∀ (P : Program) (K : LS → Prop) (s : LS) (h : LH) (d : Option Nat) (t : Nat) (b : Bool) (q : LEf), lopsQ P ⟨d, some (t, b), .e q⟩ K s h = @lopsQG P d t b q ⟨K⟩ s h)
    ∧ (∀ (P : Program) (K : LS → LH → Prop) (s : LS) (h : LH) (d : Option Nat) (t : Nat) (b : Bool) (q : LEf), lops0 P ⟨d, some (t, b), .e q⟩ K s h = @lops0G P d t b q ⟨K⟩ s h)
    ∧ (∀ (P : Program) (s : LS) (h : LH) (k : LV → LH → Prop) (n : Nat) (x v : Operand), effK P s h (.st n x v) k = (opC true s x ∧ opC true s v ∧ evk (op1 s v) (fun vv => evk (op1 s x) (fun xv => stK h n xv vv k))))
    ∧ (∀ (P : Program) (s : LS) (h : LH) (k : LV → LH → Prop) (z : List Value), effK P s h (.alc z) k = evh (h.push (.box (z.map liftC1))) (fun h' => k (.ptr h.n 0 0 0 0) h'))
    ∧ (∀ (P : Program) (s : LS) (h : LH) (k : LV → LH → Prop) (v : Operand), effK P s h (.box v) k = (opC true s v ∧ evk (op1 s v) (fun vv => flatOk vv = true ∧ evh (h.push (.box (flat vv))) (fun h' => k (.ptr h.n 0 0 0 0) h'))))
    ∧ (∀ (P : Program) (s : LS) (h : LH) (k : LV → LH → Prop) (kd z : Nat) (zr : List Value) (b : Nat) (l c : Operand), effK P s h (.mks kd z zr b l c) k = (opC true s l ∧ opC true s c ∧ evk (op1 s l) (fun lv => evk (op1 s c) (fun cv => isI64 lv ∧ isI64 cv ∧ mksC (intOfV lv) (intOfV cv) b ∧ evh (h.push (repO kd z (intOfV lv).toNat zr)) (fun h' => k (.sl h.n 0 z 0 (intOfV lv).toNat) h')))))
    ∧ (∀ (P : Program) (s : LS) (h : LH) (k : LV → LH → Prop) (kd l z : Nat) (zr : List Value) (ps : List (Nat × Nat × Operand)), effK P s h (.bsl kd l z zr ps) k = (opLC true s ps ∧ fillC (l * z) (opL s ps) ∧ litC kd (fillV (repZ l z zr) (opL s ps)) ∧ evh (h.push (litO kd z l (fillV (repZ l z zr) (opL s ps)))) (fun h' => k (.sl h.n 0 z 0 l) h')))
    ∧ (∀ (P : Program) (s : LS) (h : LH) (k : LV → LH → Prop) (l z : Nat) (zr : List Value) (ps : List (Nat × Nat × Operand)), effK P s h (.bsr l z zr ps) k = (opLC true s ps ∧ fillC (l * z) (opL s ps) ∧ roishL (fillV (repZ l z zr) (opL s ps)) ∧ ∃ f, (∀ i, i < l → f i = ((fillV (repZ l z zr) (opL s ps)).drop (i * z)).take z) ∧ k (.rsl z l f) h))
    ∧ (∀ (P : Program) (K : LS → Prop) (s : LS) (h : LH) (d : Option Nat) (l z : Nat) (zr : List Value) (ps : List (Nat × Nat × Operand)), lopsQ P ⟨d, none, .e (.bsr l z zr ps)⟩ K s h = (opLC true s ps ∧ fillC (l * z) (opL s ps) ∧ roishL (fillV (repZ l z zr) (opL s ps)) ∧ ∃ f, (∀ i, i < l → f i = ((fillV (repZ l z zr) (opL s ps)).drop (i * z)).take z) ∧ K (updO s d (.rsl z l f))))
    ∧ (∀ (P : Program) (s : LS) (h : LH) (k : LV → LH → Prop) (kd z b : Nat) (x y : Operand), effK P s h (.app kd z b x y) k = (opC true s x ∧ opC true s y ∧ evk (op1 s y) (fun yv => evk (op1 s x) (fun xv => appK h kd z b xv yv k))))
    ∧ (∀ (P : Program) (s : LS) (h : LH) (k : LV → LH → Prop) (f : FuncId) (al : List Operand), effK P s h (.call f al) k = ((∀ x, x ∈ al → opC true s x) ∧ @callK P f (al.map (op1 s)) h ⟨k⟩))
    ∧ (∀ (P : Program) (s : LS) (h : LH) (k : LV → LH → Prop) (f : FuncId) (al : List Operand), effK P s h (.ext f al) k = ((∀ x, x ∈ al → opC true s x) ∧ @xCallK P f (al.map (op1 s)) h ⟨k⟩))
    ∧ (∀ (P : Program) (s : LS) (h : LH) (k : LV → LH → Prop), effK P s h .bad k = False)
    ∧ (∀ (P : Program) (K : LS → Prop) (s : LS) (h : LH) (d : Option Nat) (f : FuncId) (al : List Operand), lopsQ P ⟨d, none, .e (.ext f al)⟩ K s h = ((∀ x, x ∈ al → opC true s x) ∧ @xCallK P f (al.map (op1 s)) h ⟨fun v _ => K (updO s d v)⟩))
    ∧ (∀ (P : Program) (s : LS) (h : LH) (k : LV → LH → Prop) (x : Operand) (al : List Operand), effK P s h (.calv x al) k = (opC true s x ∧ (∀ x, x ∈ al → opC true s x) ∧ evk (op1 s x) (fun xv => isFn xv ∧ okF P (fnOf xv) = true ∧ @callK P (fnOf xv) (al.map (op1 s) ++ capsOf xv) h ⟨k⟩)))
    ∧ (∀ (P : Program) (g : Bool) (s : LS) (h : LH) (k : LV → LH → Prop) (n : Nat) (x v : Operand), gEff P g s h (.st n x v) k = Br g (effK P s h (.st n x v) k) (k .any h))
    ∧ (∀ (P : Program) (g : Bool) (s : LS) (h : LH) (k : LV → LH → Prop) (z : List Value), gEff P g s h (.alc z) k = Br g (effK P s h (.alc z) k) (k .any h))
    ∧ (∀ (P : Program) (g : Bool) (s : LS) (h : LH) (k : LV → LH → Prop) (v : Operand), gEff P g s h (.box v) k = Br g (effK P s h (.box v) k) (k .any h))
    ∧ (∀ (P : Program) (g : Bool) (s : LS) (h : LH) (k : LV → LH → Prop) (kd z : Nat) (zr : List Value) (b : Nat) (l c : Operand), gEff P g s h (.mks kd z zr b l c) k = Br g (effK P s h (.mks kd z zr b l c) k) (k .any h))
    ∧ (∀ (P : Program) (g : Bool) (s : LS) (h : LH) (k : LV → LH → Prop) (kd l z : Nat) (zr : List Value) (ps : List (Nat × Nat × Operand)), gEff P g s h (.bsl kd l z zr ps) k = Br g (effK P s h (.bsl kd l z zr ps) k) (k .any h))
    ∧ (∀ (P : Program) (g : Bool) (s : LS) (h : LH) (k : LV → LH → Prop) (l z : Nat) (zr : List Value) (ps : List (Nat × Nat × Operand)), gEff P g s h (.bsr l z zr ps) k = Br g (effK P s h (.bsr l z zr ps) k) (k .any h))
    ∧ (∀ (P : Program) (g : Bool) (s : LS) (h : LH) (k : LV → LH → Prop) (kd z b : Nat) (x y : Operand), gEff P g s h (.app kd z b x y) k = Br g (effK P s h (.app kd z b x y) k) (k .any h))
    ∧ (∀ (P : Program) (g : Bool) (s : LS) (h : LH) (k : LV → LH → Prop) (kt : TypeId) (m q v : Operand), gEff P g s h (.mup kt m q v) k = Br g (effK P s h (.mup kt m q v) k) (k .any h))
    ∧ (∀ (P : Program) (g : Bool) (s : LS) (h : LH) (k : LV → LH → Prop), gEff P g s h .mkm k = Br g (effK P s h .mkm k) (k .any h))
    ∧ (∀ (P : Program) (g : Bool) (s : LS) (h : LH) (k : LV → LH → Prop) (y : Operand) (al : List Operand), gEff P g s h (.calv y al) k = ((g = true → opC true s y ∧ (∀ x, x ∈ al → opC true s x) ∧ isFn (op1 s y) ∧ okF P (fnOf (op1 s y)) = true) ∧ @gCallK P g (fnOf (op1 s y)) (al.map (op1 s) ++ capsOf (op1 s y)) h ⟨k⟩))
    ∧ (∀ (P : Program) (g : Bool) (s : LS) (h : LH) (k : LV → LH → Prop) (f : FuncId) (al : List Operand), gEff P g s h (.call f al) k = ((g = true → ∀ x, x ∈ al → opC true s x) ∧ @gCallK P g f (al.map (op1 s)) h ⟨k⟩))
    ∧ (∀ (P : Program) (s : LS) (h : LH) (k : LV → LH → Prop), effK P s h .mkm k = evh (h.push (.map [])) (fun h' => k (.mp h.n 0) h'))
    ∧ (∀ (P : Program) (s : LS) (h : LH) (k : LV → LH → Prop) (kt : TypeId) (m q v : Operand), effK P s h (.mup kt m q v) k = (opC true s m ∧ opC true s q ∧ opC true s v ∧ evk (op1 s q) (fun kv => evk (op1 s v) (fun vv => keyC kv ∧ evk (op1 s m) (fun mv => mupK P h kt mv kv vv k))))) :=
  ⟨(fun _ _ _ _ _ _ _ => rfl),
    (fun _ _ _ _ _ _ _ _ => rfl),
    (fun _ _ _ _ _ _ _ _ _ => rfl),
    (fun _ _ _ _ _ => lopsD_nil_eq),
    (fun _ _ _ _ _ => lopsA_one_eq),
    (fun _ _ _ _ _ _ _ => lopsA_cons_eq),
    (fun _ _ _ _ => lopsE_nil_eq),
    (fun _ _ _ _ _ _ => lopsE_cons_eq),
    (fun _ _ _ _ _ _ _ => lopsD_cons_eq),
    (fun _ _ _ _ _ _ => lopsQ_p),
    (fun _ _ _ _ _ _ _ _ => lopsQ_gp),
    (fun _ _ _ _ _ _ _ => lopsQ_call),
    (fun _ _ _ _ _ _ _ => lopsQ_ecl),
    (fun _ _ _ _ _ _ => lops0_p),
    (fun _ _ _ _ _ _ _ _ => lops0_gp),
    (fun _ _ _ _ _ _ => rfl),
    (fun _ _ _ _ _ _ _ _ _ => rfl),
    (fun _ _ _ _ _ _ _ _ _ => rfl),
    (fun _ _ _ _ _ _ _ _ _ _ => lwp_cond_eq),
    (fun _ _ _ _ _ _ _ _ _ => rfl),
    (fun _ _ _ _ _ _ _ _ => rfl),
    (fun _ _ _ _ _ _ _ _ => rfl),
    (fun _ _ _ _ _ _ _ => rfl),
    (fun _ _ _ _ => rfl),
    (fun _ _ _ _ _ _ _ => lops_p_eq),
    (fun _ _ _ _ _ _ _ _ _ => lops_gp_eq),
    (fun _ _ _ _ _ _ _ => lops_e_eq),
    (fun _ _ _ _ _ _ _ _ _ => rfl),
    (fun _ _ _ _ _ _ _ _ => rfl),
    (fun _ _ _ _ _ _ _ _ => rfl),
    (fun _ _ _ _ _ _ _ => effK_st),
    (fun _ _ _ _ _ => effK_alc),
    (fun _ _ _ _ _ => effK_box),
    (fun _ _ _ _ _ _ _ _ _ _ => effK_mks),
    (fun _ _ _ _ _ _ _ _ _ => effK_bsl),
    (fun _ _ _ _ _ _ _ _ => effK_bsr),
    (fun _ _ _ _ _ _ _ _ _ => lopsQ_bsr),
    (fun _ _ _ _ _ _ _ _ _ => effK_app),
    (fun _ _ _ _ _ _ => effK_call),
    (fun _ _ _ _ _ _ => effK_ext),
    (fun _ _ _ _ => effK_bad),
    (fun _ _ _ _ _ _ _ => lopsQ_ext),
    (fun _ _ _ _ _ _ => effK_calv),
    (fun _ _ _ _ _ _ _ _ => rfl),
    (fun _ _ _ _ _ _ => rfl),
    (fun _ _ _ _ _ _ => rfl),
    (fun _ _ _ _ _ _ _ _ _ _ _ => rfl),
    (fun _ _ _ _ _ _ _ _ _ _ => rfl),
    (fun _ _ _ _ _ _ _ _ _ => rfl),
    (fun _ _ _ _ _ _ _ _ _ _ => rfl),
    (fun _ _ _ _ _ _ _ _ _ => rfl),
    (fun _ _ _ _ _ => rfl),
    (fun _ _ _ _ _ _ _ => rfl),
    (fun _ _ _ _ _ _ _ => rfl),
    (fun _ _ _ _ => effK_mkm),
    (fun _ _ _ _ _ _ _ _ => effK_mup)⟩

theorem EVQ0 :
    (∀ (v : LV) (k : LV → Prop), evk v k = k v)
    ∧ (∀ (v : Bool) (k : Bool → Prop), evb v k = k v)
    ∧ (∀ (v : LH) (k : LH → Prop), evh v k = k v)
    ∧ (∀ (g : Bool) (A B : Prop), brK (.sc (.bool g)) A B = Br g A B)
    ∧ (∀ (A B : Prop), Br true A B = A)
    ∧ (∀ (A B : Prop), Br false A B = B)
    ∧ (∀ (s : LS) (i : Nat) (v : LV) (j : Nat), upd s i v j = if j = i then v else s j)
    ∧ (∀ (s : LS) (d : Nat) (v : LV), updO s (some d) v = upd s d v)
    ∧ (∀ (s : LS) (v : LV), updO s none v = s)
    ∧ (∀ (s : LS) (t : Nat), op1 s (.tmp t) = stripV (s t))
    ∧ (∀ (s : LS) (k : IntKind) (n : Int), op1 s (.const (.int k n)) = .sc (.int k n))
    ∧ (∀ (s : LS) (b : Bool), op1 s (.const (.bool b)) = .sc (.bool b))
    ∧ (∀ (s : LS) (x : ByteArray), op1 s (.const (.string x)) = .sc (.string x))
    ∧ (∀ (s : LS), op1 s (.const (.slice none 0 0)) = .nsl)
    ∧ (∀ (s : LS) (cs : Array Value), op1 s (.const (.agg cs)) = if cs.all plainV then .agg (cs.toList.map liftC1) else .any)
    ∧ (∀ (k : IntKind) (n : Int), liftC1 (.int k n) = .sc (.int k n))
    ∧ (∀ (b : Bool), liftC1 (.bool b) = .sc (.bool b))
    ∧ (∀ (b : ByteArray), liftC1 (.string b) = .sc (.string b))
    ∧ (liftC1 (.slice none 0 0) = .nsl)
    ∧ (∀ (s : LS) (f : FuncId), op1 s (.func f) = .fn f [])
    ∧ (∀ (g : Bool) (s : LS) (t : Nat), opC g s (.tmp t) = stripC g (s t))
    ∧ (∀ (g : Bool) (s : LS) (v : Value), opC g s (.const v) = True)
    ∧ (∀ (g : Bool) (s : LS) (f : FuncId), opC g s (.func f) = True)
    ∧ (∀ (lo hi : Option LV) (z n : Nat) (f : Nat → List LV), slcV lo hi (.rsl z n f) = .rsl z ((hiOf n hi).toNat - (loOf lo).toNat) (fun i => f ((loOf lo).toNat + i)))
    ∧ (∀ (lo hi : Option LV) (k v z o n : Nat), slcV lo hi (.sl k v z o n) = .sl k v z (o + (loOf lo).toNat) ((hiOf n hi).toNat - (loOf lo).toNat))
    ∧ (∀ (lo hi : Option LV) (x : ByteArray), slcsV lo hi (.sc (.string x)) = .sc (.string (x.extract (loOf lo).toNat (hiOf x.size hi).toNat)))
    ∧ (∀ (g : Bool) (sz : Nat) (lo hi : Option LV) (z n : Nat) (f : Nat → List LV), slcC g sz lo hi (.rsl z n f) = (z = sz ∧ bndOk lo ∧ bndOk hi ∧ (g = true → 0 ≤ loOf lo ∧ loOf lo ≤ hiOf n hi ∧ hiOf n hi ≤ n)))
    ∧ (∀ (g : Bool) (sz : Nat) (lo hi : Option LV) (k v z o n : Nat), slcC g sz lo hi (.sl k v z o n) = (z = sz ∧ bndOk lo ∧ bndOk hi ∧ (g = true → 0 ≤ loOf lo ∧ loOf lo ≤ hiOf n hi ∧ hiOf n hi ≤ n)))
    ∧ (∀ (g : Bool) (lo hi : Option LV) (x : ByteArray), slcsC g lo hi (.sc (.string x)) = (bndOk lo ∧ bndOk hi ∧ (g = true → 0 ≤ loOf lo ∧ loOf lo ≤ hiOf x.size hi ∧ hiOf x.size hi ≤ x.size)))
    ∧ (∀ (k : IntKind) (n : Int), loOf (some (.sc (.int k n))) = n)
    ∧ (loOf none = 0)
    ∧ (∀ (m : Nat) (k : IntKind) (n : Int), hiOf m (some (.sc (.int k n))) = n)
    ∧ (∀ (m : Nat), hiOf m none = m)
    ∧ (bndOk none = True)
    ∧ (loOf (none : Option LV) = 0)
    ∧ (bndOk (none : Option LV) = True)
    ∧ (∀ (k : IntKind) (n : Int), bndOk (some (.sc (.int k n))) = True)
    ∧ (∀ (x : Value), stripV (.sc x) = .sc x)
    ∧ (∀ (g : Bool) (x : Value), stripC g (.sc x) = True)
    ∧ (stripV .nsl = .nsl)
    ∧ (∀ (g : Bool), stripC g .nsl = True)
    ∧ (∀ (x : List LV), stripV (.agg x) = .agg x)
    ∧ (∀ (g : Bool) (x : List LV), stripC g (.agg x) = True)
    ∧ (∀ (a b : Nat) (f : Nat → List LV), stripV (.rsl a b f) = .rsl a b f)
    ∧ (∀ (g : Bool) (a b : Nat) (f : Nat → List LV), stripC g (.rsl a b f) = True)
    ∧ (∀ (x : List LV), stripV (.rptr x) = .rptr x)
    ∧ (∀ (g : Bool) (x : List LV), stripC g (.rptr x) = True)
    ∧ (∀ (x : List (Value × LV)), stripV (.rmp x) = .rmp x)
    ∧ (∀ (g : Bool) (x : List (Value × LV)), stripC g (.rmp x) = True)
    ∧ (∀ (a b c d e : Nat), stripV (.sl a b c d e) = .sl a b c d e)
    ∧ (∀ (g : Bool) (a b c d e : Nat), stripC g (.sl a b c d e) = True)
    ∧ (∀ (a b c d e : Nat), stripV (.ptr a b c d e) = .ptr a b c d e)
    ∧ (∀ (g : Bool) (a b c d e : Nat), stripC g (.ptr a b c d e) = True)
    ∧ (∀ (a b : Nat), stripV (.mp a b) = .mp a b)
    ∧ (∀ (g : Bool) (a b : Nat), stripC g (.mp a b) = True)
    ∧ (∀ (f : FuncId) (x : List LV), stripV (.fn f x) = .fn f x)
    ∧ (∀ (g : Bool) (f : FuncId) (x : List LV), stripC g (.fn f x) = True)
    ∧ (∀ (x : List LV), stripV (.tup x) = .tup x)
    ∧ (∀ (g : Bool) (x : List LV), stripC g (.tup x) = True)
    ∧ (stripV .any = .any)
    ∧ (∀ (g : Bool), stripC g .any = True)
    ∧ (∀ (g : Bool) (v : LV), stripV (.cnd g v) = v)
    ∧ (∀ (g g' : Bool) (v : LV), stripC g (.cnd g' v) = (g = true → g' = true))
    ∧ (∀ (s : LS) (h : LH) (x : Operand), pval s h (.mov x) = op1 s x)
    ∧ (∀ (P : Program) (g : Bool) (s : LS) (h : LH) (x : Operand), pvc P g s h (.mov x) = (opC g s x))
    ∧ (∀ (s : LS) (h : LH) (c a b : Operand), pval s h (.pick c a b) = selB (boolOf (op1 s c)) (op1 s a) (op1 s b))
    ∧ (∀ (P : Program) (g : Bool) (s : LS) (h : LH) (c a b : Operand), pvc P g s h (.pick c a b) = (opC g s c ∧ isBool (op1 s c) ∧ opC (g && boolOf (op1 s c)) s a ∧ opC (g && !boolOf (op1 s c)) s b))
    ∧ (∀ (s : LS) (h : LH) (o : BinOp) (x y : Operand), pval s h (.bin o x y) = binV o (op1 s x) (op1 s y))
    ∧ (∀ (P : Program) (g : Bool) (s : LS) (h : LH) (o : BinOp) (x y : Operand), pvc P g s h (.bin o x y) = (opC g s x ∧ opC g s y ∧ binC g o (op1 s x) (op1 s y)))
    ∧ (∀ (s : LS) (h : LH) (o : Bool) (x y : Operand), pval s h (.binb o x y) = binbV o (op1 s x) (op1 s y))
    ∧ (∀ (P : Program) (g : Bool) (s : LS) (h : LH) (o : Bool) (x y : Operand), pvc P g s h (.binb o x y) = (opC g s x ∧ opC g s y ∧ isBool (op1 s x) ∧ isBool (op1 s y)))
    ∧ (∀ (s : LS) (h : LH) (y : Operand), pval s h (.ng0 y) = ngV (op1 s y))
    ∧ (∀ (P : Program) (g : Bool) (s : LS) (h : LH) (y : Operand), pvc P g s h (.ng0 y) = (opC g s y ∧ ngC (op1 s y)))
    ∧ (∀ (a : Int), ngV (.sc (.int .i64 a)) = .sc (.int .i64 (IntKind.i64.wrap (0 - a))))
    ∧ (∀ (a : Int), ngC (.sc (.int .i64 a)) = True)
    ∧ (∀ (s : LS) (h : LH) (o : UnOp) (x : Operand), pval s h (.un o x) = unV o (op1 s x))
    ∧ (∀ (P : Program) (g : Bool) (s : LS) (h : LH) (o : UnOp) (x : Operand), pvc P g s h (.un o x) = (opC g s x ∧ unC g o (op1 s x)))
    ∧ (∀ (s : LS) (h : LH) (o : Nat) (n : Option Nat) (x : Operand), pval s h (.part o n x) = prtV o n (op1 s x))
    ∧ (∀ (P : Program) (g : Bool) (s : LS) (h : LH) (o : Nat) (n : Option Nat) (x : Operand), pvc P g s h (.part o n x) = (opC g s x ∧ prtC o n (op1 s x)))
    ∧ (∀ (s : LS) (h : LH) (x i : Operand), pval s h (.idxs x i) = idxsV (op1 s x) (op1 s i))
    ∧ (∀ (P : Program) (g : Bool) (s : LS) (h : LH) (x i : Operand), pvc P g s h (.idxs x i) = (opC g s x ∧ opC g s i ∧ idxsC g (op1 s x) (op1 s i)))
    ∧ (∀ (s : LS) (h : LH) (l z : Nat) (n : Option Nat) (x i : Operand), pval s h (.idxa l z n x i) = idxaV z n (op1 s x) (op1 s i))
    ∧ (∀ (P : Program) (g : Bool) (s : LS) (h : LH) (l z : Nat) (n : Option Nat) (x i : Operand), pvc P g s h (.idxa l z n x i) = (opC g s x ∧ opC g s i ∧ idxaC g l z n (op1 s x) (op1 s i)))
    ∧ (∀ (s : LS) (h : LH) (x : Operand) (i : Nat), pval s h (.ext x i) = extV i (op1 s x))
    ∧ (∀ (P : Program) (g : Bool) (s : LS) (h : LH) (x : Operand) (i : Nat), pvc P g s h (.ext x i) = (opC g s x ∧ extC i (op1 s x)))
    ∧ (∀ (s : LS) (h : LH) (z : List Value) (ps : List (Nat × Nat × Operand)), pval s h (.bld z ps) = .agg (fillV (z.map liftC1) (opL s ps)))
    ∧ (∀ (P : Program) (g : Bool) (s : LS) (h : LH) (z : List Value) (ps : List (Nat × Nat × Operand)), pvc P g s h (.bld z ps) = (opLC g s ps ∧ fillC z.length (opL s ps)))
    ∧ (∀ (s : LS) (h : LH) (o : Bool) (n : List CK) (x y : Operand), pval s h (.eqa o n x y) = eqaV o (op1 s x) (op1 s y))
    ∧ (∀ (P : Program) (g : Bool) (s : LS) (h : LH) (o : Bool) (n : List CK) (x y : Operand), pvc P g s h (.eqa o n x y) = (opC g s x ∧ opC g s y ∧ eqaC n (op1 s x) (op1 s y)))
    ∧ (∀ (xs ys : List LV), eqaV false (.agg xs) (.agg ys) = .sc (.bool (eqL xs ys)))
    ∧ (∀ (xs ys : List LV), eqaV true (.agg xs) (.agg ys) = .sc (.bool (!eqL xs ys)))
    ∧ (∀ (k : List CK) (xs ys : List LV), eqaC k (.agg xs) (.agg ys) = (kindL k xs ∧ kindL k ys))
    ∧ (kindL [] [] = True)
    ∧ (∀ (k k' : IntKind) (n : Int) (r : List CK) (q : List LV), kindL (.i k :: r) (.sc (.int k' n) :: q) = (k' = k ∧ kindL r q))
    ∧ (∀ (b : Bool) (r : List CK) (q : List LV), kindL (.b :: r) (.sc (.bool b) :: q) = kindL r q)
    ∧ (∀ (b : ByteArray) (r : List CK) (q : List LV), kindL (.s :: r) (.sc (.string b) :: q) = kindL r q)
    ∧ (eqL [] [] = true)
    ∧ (∀ (x y : LV) (r q : List LV), eqL (x :: r) (y :: q) = (eqCell x y && eqL r q))
    ∧ (∀ (k k' : IntKind) (a b : Int), eqCell (.sc (.int k a)) (.sc (.int k' b)) = decide (a = b))
    ∧ (∀ (a b : ByteArray), eqCell (.sc (.string a)) (.sc (.string b)) = decide (a = b))
    ∧ (∀ (a b : Bool), eqCell (.sc (.bool a)) (.sc (.bool b)) = decide (a = b))
    ∧ (∀ (k : IntKind) (a b : Int), binI .and k a b = .sc (.int k (andI k a b)))
    ∧ (∀ (g : Bool) (k k' : IntKind) (a b : Int), binIC g .and k k' a b = (k = k'))
    ∧ (∀ (k : IntKind) (a b : Int), binI .or k a b = .sc (.int k (orbI k a b)))
    ∧ (∀ (g : Bool) (k k' : IntKind) (a b : Int), binIC g .or k k' a b = (k = k'))
    ∧ (∀ (k : IntKind) (a b : Int), binI .xor k a b = .sc (.int k (xorI k a b)))
    ∧ (∀ (g : Bool) (k k' : IntKind) (a b : Int), binIC g .xor k k' a b = (k = k'))
    ∧ (∀ (k : IntKind) (a b : Int), binI .andNot k a b = .sc (.int k (andnI k a b)))
    ∧ (∀ (g : Bool) (k k' : IntKind) (a b : Int), binIC g .andNot k k' a b = (k = k'))
    ∧ (∀ (s : LS) (h : LH) (k : IntKind) (x : Operand), pval s h (.cvt k x) = cvtV k (op1 s x))
    ∧ (∀ (P : Program) (g : Bool) (s : LS) (h : LH) (k : IntKind) (x : Operand), pvc P g s h (.cvt k x) = (opC g s x ∧ cvtC g k (op1 s x)))
    ∧ (∀ (s : LS) (h : LH) (k : Nat) (x : Operand), pval s h (.len k x) = lenV h (op1 s x))
    ∧ (∀ (P : Program) (g : Bool) (s : LS) (h : LH) (k : Nat) (x : Operand), pvc P g s h (.len k x) = (opC g s x ∧ lenC h k (op1 s x)))
    ∧ (∀ (s : LS) (h : LH) (o : Nat) (x : Operand), pval s h (.fad o x) = fadV o (op1 s x))
    ∧ (∀ (P : Program) (g : Bool) (s : LS) (h : LH) (o : Nat) (x : Operand), pvc P g s h (.fad o x) = (opC g s x ∧ fadC o (op1 s x)))
    ∧ (∀ (s : LS) (h : LH) (z : Nat) (x i : Operand), pval s h (.iad z x i) = iadV (op1 s x) (op1 s i))
    ∧ (∀ (P : Program) (g : Bool) (s : LS) (h : LH) (z : Nat) (x i : Operand), pvc P g s h (.iad z x i) = (opC g s x ∧ opC g s i ∧ iadC h g z (op1 s x) (op1 s i)))
    ∧ (∀ (s : LS) (h : LH) (l z : Nat) (x i : Operand), pval s h (.iada l z x i) = iadaV z (op1 s x) (op1 s i))
    ∧ (∀ (P : Program) (g : Bool) (s : LS) (h : LH) (l z : Nat) (x i : Operand), pvc P g s h (.iada l z x i) = (opC g s x ∧ opC g s i ∧ iadaC g l z (op1 s x) (op1 s i)))
    ∧ (∀ (s : LS) (h : LH) (n : Option Nat) (x : Operand), pval s h (.ld n x) = ldV n h (op1 s x)) :=
  ⟨(fun _ _ => rfl),
    (fun _ _ => rfl),
    (fun _ _ => rfl),
    (fun _ _ _ => brK_eq),
    (fun _ _ => Br_true),
    (fun _ _ => Br_false),
    (fun _ _ _ _ => rfl),
    (fun _ _ _ => rfl),
    (fun _ _ => rfl),
    (fun _ _ => rfl),
    (fun _ _ _ => rfl),
    (fun _ _ => rfl),
    (fun _ _ => rfl),
    (fun _ => rfl),
    (fun _ _ => op1_agg),
    (fun _ _ => rfl),
    (fun _ => rfl),
    (fun _ => rfl),
    (rfl),
    (fun _ _ => rfl),
    (fun _ _ _ => rfl),
    (fun _ _ _ => opC_const),
    (fun _ _ _ => rfl),
    (fun _ _ _ _ _ => rfl),
    (fun _ _ _ _ _ _ _ => rfl),
    (fun _ _ _ => rfl),
    (fun _ _ _ _ _ _ _ => rfl),
    (fun _ _ _ _ _ _ _ _ _ => rfl),
    (fun _ _ _ _ => rfl),
    (fun _ _ => rfl),
    (rfl),
    (fun _ _ _ => rfl),
    (fun _ => rfl),
    (rfl),
    (rfl),
    (rfl),
    (fun _ _ => rfl),
    (fun _ => rfl),
    (fun _ _ => rfl),
    (rfl),
    (fun _ => rfl),
    (fun _ => rfl),
    (fun _ _ => rfl),
    (fun _ _ _ => rfl),
    (fun _ _ _ _ => rfl),
    (fun _ => rfl),
    (fun _ _ => rfl),
    (fun _ => rfl),
    (fun _ _ => rfl),
    (fun _ _ _ _ _ => rfl),
    (fun _ _ _ _ _ _ => rfl),
    (fun _ _ _ _ _ => rfl),
    (fun _ _ _ _ _ _ => rfl),
    (fun _ _ => rfl),
    (fun _ _ _ => rfl),
    (fun _ _ => rfl),
    (fun _ _ _ => rfl),
    (fun _ => rfl),
    (fun _ _ => rfl),
    (rfl),
    (fun _ => rfl),
    (fun _ _ => rfl),
    (fun _ _ _ => rfl),
    (fun _ _ _ => rfl),
    (fun _ _ _ _ _ => rfl),
    (fun _ _ _ _ _ => rfl),
    (fun _ _ _ _ _ _ _ => rfl),
    (fun _ _ _ _ _ => rfl),
    (fun _ _ _ _ _ _ _ => rfl),
    (fun _ _ _ _ _ => rfl),
    (fun _ _ _ _ _ _ _ => rfl),
    (fun _ _ _ => rfl),
    (fun _ _ _ _ _ => rfl),
    (fun _ => rfl),
    (fun _ => rfl),
    (fun _ _ _ _ => rfl),
    (fun _ _ _ _ _ _ => rfl),
    (fun _ _ _ _ _ => rfl),
    (fun _ _ _ _ _ _ _ => rfl),
    (fun _ _ _ _ => rfl),
    (fun _ _ _ _ _ _ => rfl),
    (fun _ _ _ _ _ _ _ => rfl),
    (fun _ _ _ _ _ _ _ _ _ => rfl),
    (fun _ _ _ _ => rfl),
    (fun _ _ _ _ _ _ => rfl),
    (fun _ _ _ _ => rfl),
    (fun _ _ _ _ _ _ => rfl),
    (fun _ _ _ _ _ _ => rfl),
    (fun _ _ _ _ _ _ _ _ => rfl),
    (fun _ _ => rfl),
    (fun _ _ => rfl),
    (fun _ _ _ => rfl),
    (rfl),
    (fun _ _ _ _ _ => rfl),
    (fun _ _ _ => rfl),
    (fun _ _ _ => rfl),
    (rfl),
    (fun _ _ _ _ => rfl),
    (fun _ _ _ _ => rfl),
    (fun _ _ => rfl),
    (fun _ _ => rfl),
    (fun _ _ _ => rfl),
    (fun _ _ _ _ _ => rfl),
    (fun _ _ _ => rfl),
    (fun _ _ _ _ _ => rfl),
    (fun _ _ _ => rfl),
    (fun _ _ _ _ _ => rfl),
    (fun _ _ _ => rfl),
    (fun _ _ _ _ _ => rfl),
    (fun _ _ _ _ => rfl),
    (fun _ _ _ _ _ _ => rfl),
    (fun _ _ _ _ => rfl),
    (fun _ _ _ _ _ _ => rfl),
    (fun _ _ _ _ => rfl),
    (fun _ _ _ _ _ _ => rfl),
    (fun _ _ _ _ _ => rfl),
    (fun _ _ _ _ _ _ _ => rfl),
    (fun _ _ _ _ _ _ => rfl),
    (fun _ _ _ _ _ _ _ _ => rfl),
    (fun _ _ _ _ => rfl)⟩

theorem EVQ1 :
    (∀ (P : Program) (g : Bool) (s : LS) (h : LH) (n : Option Nat) (x : Operand), pvc P g s h (.ld n x) = (opC g s x ∧ ldC g n h (op1 s x)))
    ∧ (∀ (s : LS) (h : LH) (f : FuncId) (cs : List Operand), pval s h (.mkf f cs) = .fn f (cs.map (op1 s)))
    ∧ (∀ (P : Program) (g : Bool) (s : LS) (h : LH) (f : FuncId) (cs : List Operand), pvc P g s h (.mkf f cs) = (∀ x, x ∈ cs → opC g s x))
    ∧ (∀ (s : LS) (h : LH) (x : Operand), pval s h (.nilc x) = op1 s x)
    ∧ (∀ (P : Program) (g : Bool) (s : LS) (h : LH) (x : Operand), pvc P g s h (.nilc x) = (opC g s x ∧ nilcC (op1 s x)))
    ∧ (∀ (s : LS) (h : LH) (z : Nat) (x : Operand) (lo hi : Option Operand), pval s h (.slc z x lo hi) = slcV (lo.map (op1 s)) (hi.map (op1 s)) (op1 s x))
    ∧ (∀ (P : Program) (g : Bool) (s : LS) (h : LH) (z : Nat) (x : Operand) (lo hi : Option Operand), pvc P g s h (.slc z x lo hi) = (opC g s x ∧ (∀ y, lo = some y → opC g s y) ∧ (∀ y, hi = some y → opC g s y) ∧ slcC g z (lo.map (op1 s)) (hi.map (op1 s)) (op1 s x)))
    ∧ (∀ (s : LS) (h : LH) (x : Operand) (lo hi : Option Operand), pval s h (.slcs x lo hi) = slcsV (lo.map (op1 s)) (hi.map (op1 s)) (op1 s x))
    ∧ (∀ (P : Program) (g : Bool) (s : LS) (h : LH) (x : Operand) (lo hi : Option Operand), pvc P g s h (.slcs x lo hi) = (opC g s x ∧ (∀ y, lo = some y → opC g s y) ∧ (∀ y, hi = some y → opC g s y) ∧ slcsC g (lo.map (op1 s)) (hi.map (op1 s)) (op1 s x)))
    ∧ (∀ (s : LS) (h : LH) (kt : TypeId) (z : Value) (ok : Bool) (m q : Operand), pval s h (.lkp kt z ok m q) = lkpV z ok (mapE h (op1 s m)) (keyV (op1 s q)))
    ∧ (∀ (P : Program) (g : Bool) (s : LS) (h : LH) (kt : TypeId) (z : Value) (ok : Bool) (m q : Operand), pvc P g s h (.lkp kt z ok m q) = (opC g s m ∧ opC g s q ∧ mapLive h (op1 s m) ∧ keyC (op1 s q) ∧ keysOk P kt (mapE h (op1 s m)) (keyV (op1 s q))))
    ∧ (∀ (s : LS) (kt : TypeId) (z : Value) (ok : Bool) (m q : Operand), pfact s (.lkp kt z ok m q) = True)
    ∧ (∀ (h : LH) (a b : Nat), mapE h (.mp a b) = mapO (h.f a).2)
    ∧ (∀ (h : LH) (x : List (Value × LV)), mapE h (.rmp x) = x)
    ∧ (∀ (x : List (Value × LV)), mapO (.map x) = x)
    ∧ (∀ (h : LH) (a b : Nat), mapLive h (.mp a b) = (a < h.n ∧ (h.f a).1 = b ∧ (h.f a).2.isMap = true))
    ∧ (∀ (h : LH) (x : List (Value × LV)), mapLive h (.rmp x) = True)
    ∧ (∀ (x : List (Value × LV)), (LO.map x).isMap = true)
    ∧ (∀ (x : Value), keyV (.sc x) = x)
    ∧ (∀ (x : List LV), keyV (.agg x) = .agg (x.map scV).toArray)
    ∧ (∀ (x : Value), scV (.sc x) = x)
    ∧ (∀ (x : Value), keyC (.sc x) = True)
    ∧ (∀ (x : List LV), keyC (.agg x) = scalC x)
    ∧ (scalC [] = True)
    ∧ (∀ (x : Value) (r : List LV), scalC (.sc x :: r) = scalC r)
    ∧ (∀ (z : Value) (es : List (Value × LV)) (x : Value), lkpV z true es x = .tup [(mfind es x).getD (liftC z), .sc (.bool (mfind es x).isSome)])
    ∧ (∀ (z : Value) (es : List (Value × LV)) (x : Value), lkpV z false es x = (mfind es x).getD (liftC z))
    ∧ (∀ (k : IntKind) (n : Int), liftC (.int k n) = .sc (.int k n))
    ∧ (∀ (b : Bool), liftC (.bool b) = .sc (.bool b))
    ∧ (∀ (b : ByteArray), liftC (.string b) = .sc (.string b))
    ∧ (∀ (h : LH) (a b : Nat), lenV h (.mp a b) = lenMO (h.f a).2)
    ∧ (∀ (x : List (Value × LV)), lenMO (.map x) = .sc (.int .i64 x.length))
    ∧ (∀ (h : LH) (x : List (Value × LV)), lenV h (.rmp x) = .sc (.int .i64 x.length))
    ∧ (∀ (h : LH) (q a b : Nat), lenC h q (.mp a b) = (q = 2 ∧ a < h.n ∧ (h.f a).1 = b ∧ (h.f a).2.isMap = true))
    ∧ (∀ (h : LH) (q : Nat) (x : List (Value × LV)), lenC h q (.rmp x) = (q = 2))
    ∧ (∀ (x : List (Value × LV)), lenF (.rmp x) = True)
    ∧ (∀ (s : LS) (x : Operand), pfact s (.mov x) = True)
    ∧ (∀ (s : LS) (c a b : Operand), pfact s (.pick c a b) = True)
    ∧ (∀ (s : LS) (o : BinOp) (x y : Operand), pfact s (.bin o x y) = True)
    ∧ (∀ (s : LS) (o : Bool) (x y : Operand), pfact s (.binb o x y) = True)
    ∧ (∀ (s : LS) (o : UnOp) (x : Operand), pfact s (.un o x) = True)
    ∧ (∀ (s : LS) (o : Nat) (n : Option Nat) (x : Operand), pfact s (.part o n x) = True)
    ∧ (∀ (s : LS) (x i : Operand), pfact s (.idxs x i) = True)
    ∧ (∀ (s : LS) (l z : Nat) (n : Option Nat) (x i : Operand), pfact s (.idxa l z n x i) = True)
    ∧ (∀ (s : LS) (x : Operand) (i : Nat), pfact s (.ext x i) = True)
    ∧ (∀ (s : LS) (z : List Value) (ps : List (Nat × Nat × Operand)), pfact s (.bld z ps) = True)
    ∧ (∀ (s : LS) (k : IntKind) (x : Operand), pfact s (.cvt k x) = True)
    ∧ (∀ (s : LS) (o : Nat) (x : Operand), pfact s (.fad o x) = True)
    ∧ (∀ (s : LS) (z : Nat) (x i : Operand), pfact s (.iad z x i) = True)
    ∧ (∀ (s : LS) (l z : Nat) (x i : Operand), pfact s (.iada l z x i) = True)
    ∧ (∀ (s : LS) (n : Option Nat) (x : Operand), pfact s (.ld n x) = True)
    ∧ (∀ (s : LS) (f : FuncId) (cs : List Operand), pfact s (.mkf f cs) = True)
    ∧ (∀ (s : LS) (x : Operand), pfact s (.nilc x) = True)
    ∧ (∀ (s : LS) (y : Operand), pfact s (.ng0 y) = True)
    ∧ (∀ (s : LS) (z : Nat) (x : Operand) (lo hi : Option Operand), pfact s (.slc z x lo hi) = True)
    ∧ (∀ (s : LS) (x : Operand) (lo hi : Option Operand), pfact s (.slcs x lo hi) = True)
    ∧ (∀ (s : LS) (g : Bool) (n : List CK) (x y : Operand), pfact s (.eqa g n x y) = True)
    ∧ (∀ (s : LS) (k : Nat) (x : Operand), pfact s (.len k x) = lenF (op1 s x))
    ∧ (∀ (a n : Nat) (f : Nat → List LV), lenF (.rsl a n f) = (n ≤ 9223372036854775807))
    ∧ (∀ (a b c d n : Nat), lenF (.sl a b c d n) = (n ≤ 9223372036854775807))
    ∧ (lenF .nsl = True)
    ∧ (∀ (x : ByteArray), lenF (.sc (.string x)) = True)
    ∧ (∀ (a b : Nat), lenF (.mp a b) = True)
    ∧ (∀ (c x y : Bool), selB c (.sc (.bool x)) (.sc (.bool y)) = .sc (.bool (bif c then x else y)))
    ∧ (∀ (a b : LV), selB true a b = a)
    ∧ (∀ (a b : LV), selB false a b = b)
    ∧ (∀ (b : Bool), boolOf (.sc (.bool b)) = b)
    ∧ (∀ (b : Bool), isBool (.sc (.bool b)) = True)
    ∧ (∀ (k : IntKind) (b : Int), intOfV (.sc (.int k b)) = b)
    ∧ (∀ (b : Int), isI64 (.sc (.int .i64 b)) = True)
    ∧ (∀ (b : Bool), gOk (.sc (.bool b)) = True)
    ∧ (∀ (g b : Bool), gOk (.cnd g (.sc (.bool b))) = True)
    ∧ (∀ (b : Bool), gOf true (.sc (.bool b)) = b)
    ∧ (∀ (b : Bool), gOf false (.sc (.bool b)) = !b)
    ∧ (∀ (g b : Bool), gOf true (.cnd g (.sc (.bool b))) = (g && b))
    ∧ (∀ (g b : Bool), gOf false (.cnd g (.sc (.bool b))) = (g && !b))
    ∧ (∀ (o : BinOp) (k k' : IntKind) (a b : Int), binV o (.sc (.int k a)) (.sc (.int k' b)) = binI o k a b)
    ∧ (∀ (o : BinOp) (a b : ByteArray), binV o (.sc (.string a)) (.sc (.string b)) = binS o a b)
    ∧ (∀ (g : Bool) (o : BinOp) (k k' : IntKind) (a b : Int), binC g o (.sc (.int k a)) (.sc (.int k' b)) = binIC g o k k' a b)
    ∧ (∀ (g : Bool) (o : BinOp) (a b : ByteArray), binC g o (.sc (.string a)) (.sc (.string b)) = binSC g o a b)
    ∧ (∀ (k : IntKind) (a b : Int), binI .add k a b = arV k (a + b))
    ∧ (∀ (k : IntKind) (a b : Int), binI .sub k a b = arV k (a - b))
    ∧ (∀ (k : IntKind) (a b : Int), binI .mul k a b = arV k (a * b))
    ∧ (∀ (k : IntKind) (a b : Int), binI .quo k a b = arV k (a.tdiv b))
    ∧ (∀ (k : IntKind) (a b : Int), binI .rem k a b = .sc (.int k (a.tmod b)))
    ∧ (∀ (k : IntKind) (a b : Int), binI .eql k a b = .sc (.bool (decide (a = b))))
    ∧ (∀ (k : IntKind) (a b : Int), binI .neq k a b = .sc (.bool (!decide (a = b))))
    ∧ (∀ (k : IntKind) (a b : Int), binI .lss k a b = .sc (.bool (decide (a < b))))
    ∧ (∀ (k : IntKind) (a b : Int), binI .leq k a b = .sc (.bool (decide (a ≤ b))))
    ∧ (∀ (k : IntKind) (a b : Int), binI .gtr k a b = .sc (.bool (decide (b < a))))
    ∧ (∀ (k : IntKind) (a b : Int), binI .geq k a b = .sc (.bool (decide (b ≤ a))))
    ∧ (∀ (k : IntKind) (a b : Int), binI .shl k a b = arV k (a * 2 ^ b.toNat))
    ∧ (∀ (k : IntKind) (a b : Int), binI .shr k a b = .sc (.int k (a.fdiv (2 ^ b.toNat))))
    ∧ (∀ (g : Bool) (k k' : IntKind) (a b : Int), binIC g .add k k' a b = (k = k' ∧ arC g k (a + b)))
    ∧ (∀ (g : Bool) (k k' : IntKind) (a b : Int), binIC g .sub k k' a b = (k = k' ∧ arC g k (a - b)))
    ∧ (∀ (g : Bool) (k k' : IntKind) (a b : Int), binIC g .mul k k' a b = (k = k' ∧ arC g k (a * b)))
    ∧ (∀ (g : Bool) (k k' : IntKind) (a b : Int), binIC g .quo k k' a b = (k = k' ∧ (g = true → b ≠ 0) ∧ arC g k (a.tdiv b)))
    ∧ (∀ (g : Bool) (k k' : IntKind) (a b : Int), binIC g .rem k k' a b = (k = k' ∧ (g = true → b ≠ 0)))
    ∧ (∀ (g : Bool) (k k' : IntKind) (a b : Int), binIC g .eql k k' a b = (k = k'))
    ∧ (∀ (g : Bool) (k k' : IntKind) (a b : Int), binIC g .neq k k' a b = (k = k'))
    ∧ (∀ (g : Bool) (k k' : IntKind) (a b : Int), binIC g .lss k k' a b = (k = k'))
    ∧ (∀ (g : Bool) (k k' : IntKind) (a b : Int), binIC g .leq k k' a b = (k = k'))
    ∧ (∀ (g : Bool) (k k' : IntKind) (a b : Int), binIC g .gtr k k' a b = (k = k'))
    ∧ (∀ (g : Bool) (k k' : IntKind) (a b : Int), binIC g .geq k k' a b = (k = k'))
    ∧ (∀ (g : Bool) (k k' : IntKind) (a b : Int), binIC g .shl k k' a b = ((g = true → 0 ≤ b ∧ b.toNat ≤ k.bits) ∧ arC g k (a * 2 ^ b.toNat)))
    ∧ (∀ (g : Bool) (k k' : IntKind) (a b : Int), binIC g .shr k k' a b = (g = true → 0 ≤ b ∧ b.toNat ≤ k.bits))
    ∧ (∀ (x : Int), arV .i64 x = .sc (.int .i64 x))
    ∧ (∀ (g : Bool) (x : Int), arC g .i64 x = (g = true → In64 x))
    ∧ (∀ (x : Int), arV .u8 x = .sc (.int .u8 (IntKind.u8.wrap x)))
    ∧ (∀ (g : Bool) (x : Int), arC g .u8 x = True)
    ∧ (∀ (x : Int), arV .u16 x = .sc (.int .u16 (IntKind.u16.wrap x)))
    ∧ (∀ (g : Bool) (x : Int), arC g .u16 x = True)
    ∧ (∀ (x : Int), arV .u32 x = .sc (.int .u32 (IntKind.u32.wrap x)))
    ∧ (∀ (g : Bool) (x : Int), arC g .u32 x = True)
    ∧ (∀ (x : Int), arV .u64 x = .sc (.int .u64 (IntKind.u64.wrap x)))
    ∧ (∀ (g : Bool) (x : Int), arC g .u64 x = True)
    ∧ (∀ (x : Int), arV .i8 x = .sc (.int .i8 (IntKind.i8.wrap x)))
    ∧ (∀ (g : Bool) (x : Int), arC g .i8 x = True)
    ∧ (∀ (x : Int), arV .i16 x = .sc (.int .i16 (IntKind.i16.wrap x)))
    ∧ (∀ (g : Bool) (x : Int), arC g .i16 x = True) :=
  ⟨(fun _ _ _ _ _ _ => rfl),
    (fun _ _ _ _ => rfl),
    (fun _ _ _ _ _ _ => rfl),
    (fun _ _ _ => rfl),
    (fun _ _ _ _ _ => rfl),
    (fun _ _ _ _ _ _ => rfl),
    (fun _ _ _ _ _ _ _ _ => rfl),
    (fun _ _ _ _ _ => rfl),
    (fun _ _ _ _ _ _ _ => rfl),
    (fun _ _ _ _ _ _ _ => rfl),
    (fun _ _ _ _ _ _ _ _ _ => rfl),
    (fun _ _ _ _ _ _ => rfl),
    (fun _ _ _ => rfl),
    (fun _ _ => rfl),
    (fun _ => rfl),
    (fun _ _ _ => rfl),
    (fun _ _ => rfl),
    (fun _ => rfl),
    (fun _ => rfl),
    (fun _ => rfl),
    (fun _ => rfl),
    (fun _ => rfl),
    (fun _ => rfl),
    (rfl),
    (fun _ _ => rfl),
    (fun _ _ _ => rfl),
    (fun _ _ _ => rfl),
    (fun _ _ => rfl),
    (fun _ => rfl),
    (fun _ => rfl),
    (fun _ _ _ => lenV_mp),
    (fun _ => rfl),
    (fun _ _ => rfl),
    (fun _ _ _ _ => rfl),
    (fun _ _ _ => rfl),
    (fun _ => rfl),
    (fun _ _ => rfl),
    (fun _ _ _ _ => rfl),
    (fun _ _ _ _ => rfl),
    (fun _ _ _ _ => rfl),
    (fun _ _ _ => rfl),
    (fun _ _ _ _ => rfl),
    (fun _ _ _ => rfl),
    (fun _ _ _ _ _ _ => rfl),
    (fun _ _ _ => rfl),
    (fun _ _ _ => rfl),
    (fun _ _ _ => rfl),
    (fun _ _ _ => rfl),
    (fun _ _ _ _ => rfl),
    (fun _ _ _ _ _ => rfl),
    (fun _ _ _ => rfl),
    (fun _ _ _ => rfl),
    (fun _ _ => rfl),
    (fun _ _ => rfl),
    (fun _ _ _ _ _ => rfl),
    (fun _ _ _ _ => rfl),
    (fun _ _ _ _ _ => rfl),
    (fun _ _ _ => rfl),
    (fun _ _ _ => rfl),
    (fun _ _ _ _ _ => rfl),
    (rfl),
    (fun _ => rfl),
    (fun _ _ => rfl),
    (fun _ _ _ => rfl),
    (fun a b => selB_true a b),
    (fun a b => selB_false a b),
    (fun _ => rfl),
    (fun _ => rfl),
    (fun _ _ => rfl),
    (fun _ => rfl),
    (fun _ => rfl),
    (fun _ _ => rfl),
    (fun b => gOf_t b),
    (fun b => gOf_f b),
    (fun g b => gOf_ct g b),
    (fun g b => gOf_cf g b),
    (fun _ _ _ _ _ => rfl),
    (fun _ _ _ => rfl),
    (fun _ _ _ _ _ _ => rfl),
    (fun _ _ _ _ => rfl),
    (fun _ _ _ => rfl),
    (fun _ _ _ => rfl),
    (fun _ _ _ => rfl),
    (fun _ _ _ => rfl),
    (fun _ _ _ => rfl),
    (fun _ _ _ => rfl),
    (fun _ _ _ => rfl),
    (fun _ _ _ => rfl),
    (fun _ _ _ => rfl),
    (fun _ _ _ => rfl),
    (fun _ _ _ => rfl),
    (fun _ _ _ => rfl),
    (fun _ _ _ => rfl),
    (fun _ _ _ _ _ => rfl),
    (fun _ _ _ _ _ => rfl),
    (fun _ _ _ _ _ => rfl),
    (fun _ _ _ _ _ => rfl),
    (fun _ _ _ _ _ => rfl),
    (fun _ _ _ _ _ => rfl),
    (fun _ _ _ _ _ => rfl),
    (fun _ _ _ _ _ => rfl),
    (fun _ _ _ _ _ => rfl),
    (fun _ _ _ _ _ => rfl),
    (fun _ _ _ _ _ => rfl),
    (fun _ _ _ _ _ => rfl),
    (fun _ _ _ _ _ => rfl),
    (fun _ => rfl),
    (fun _ _ => rfl),
    (fun _ => rfl),
    (fun _ _ => rfl),
    (fun _ => rfl),
    (fun _ _ => rfl),
    (fun _ => rfl),
    (fun _ _ => rfl),
    (fun _ => rfl),
    (fun _ _ => rfl),
    (fun _ => rfl),
    (fun _ _ => rfl),
    (fun _ => rfl),
    (fun _ _ => rfl)⟩

theorem EVQ2 :
    (∀ (x : Int), arV .i32 x = .sc (.int .i32 (IntKind.i32.wrap x)))
    ∧ (∀ (g : Bool) (x : Int), arC g .i32 x = True)
    ∧ (∀ (a b : ByteArray), binS .add a b = .sc (.string (a ++ b)))
    ∧ (∀ (a b : ByteArray), binS .eql a b = .sc (.bool (decide (a = b))))
    ∧ (∀ (a b : ByteArray), binS .neq a b = .sc (.bool (!decide (a = b))))
    ∧ (∀ (g : Bool) (a b : ByteArray), binSC g .add a b = (g = true → a.size + b.size ≤ 9223372036854775807))
    ∧ (∀ (g : Bool) (a b : ByteArray), binSC g .eql a b = (True))
    ∧ (∀ (g : Bool) (a b : ByteArray), binSC g .neq a b = (True))
    ∧ (∀ (n x y : Bool), binbV n (.sc (.bool x)) (.sc (.bool y)) = .sc (.bool (xor n (decide (x = y)))))
    ∧ (∀ (k : IntKind) (a : Int), unV .neg (.sc (.int k a)) = arV k (0 - a))
    ∧ (∀ (g : Bool) (k : IntKind) (a : Int), unC g .neg (.sc (.int k a)) = arC g k (0 - a))
    ∧ (∀ (b : Bool), unV .not (.sc (.bool b)) = .sc (.bool (!b)))
    ∧ (∀ (g b : Bool), unC g .not (.sc (.bool b)) = True)
    ∧ (∀ (o : Nat) (n : Option Nat) (cs : List LV), prtV o n (.agg cs) = partV n (cs.drop o))
    ∧ (∀ (o : Nat) (n : Option Nat) (cs : List LV), prtC o n (.agg cs) = partC n (cs.drop o))
    ∧ (∀ (cs : List LV), partV none cs = cs.getD 0 .any)
    ∧ (∀ (m : Nat) (cs : List LV), partV (some m) cs = .agg (cs.take m))
    ∧ (∀ (cs : List LV), partC none cs = (1 ≤ cs.length))
    ∧ (∀ (m : Nat) (cs : List LV), partC (some m) cs = (m ≤ cs.length))
    ∧ (∀ (x : ByteArray) (k : IntKind) (i : Int), idxsV (.sc (.string x)) (.sc (.int k i)) = .sc (.int .u8 ((sbyte x i.toNat).toNat : Int)))
    ∧ (∀ (g : Bool) (x : ByteArray) (k : IntKind) (i : Int), idxsC g (.sc (.string x)) (.sc (.int k i)) = (g = true → 0 ≤ i ∧ i.toNat < x.size))
    ∧ (∀ (z : Nat) (n : Option Nat) (cs : List LV) (k : IntKind) (i : Int), idxaV z n (.agg cs) (.sc (.int k i)) = partV n (cs.drop (i.toNat * z)))
    ∧ (∀ (g : Bool) (l z : Nat) (n : Option Nat) (cs : List LV) (k : IntKind) (i : Int), idxaC g l z n (.agg cs) (.sc (.int k i)) = (g = true → (0 ≤ i ∧ i < l) ∧ partC n (cs.drop (i.toNat * z))))
    ∧ (∀ (i : Nat) (vs : List LV), extV i (.tup vs) = vs.getD i .any)
    ∧ (∀ (i : Nat) (vs : List LV), extC i (.tup vs) = (i < vs.length))
    ∧ (∀ (k j : IntKind) (i : Int), cvtV k (.sc (.int j i)) = arV k i)
    ∧ (∀ (g : Bool) (k j : IntKind) (i : Int), cvtC g k (.sc (.int j i)) = arC g k i)
    ∧ (∀ (h : LH) (a n : Nat) (f : Nat → List LV), lenV h (.rsl a n f) = .sc (.int .i64 n))
    ∧ (∀ (h : LH) (a b c d n : Nat), lenV h (.sl a b c d n) = .sc (.int .i64 n))
    ∧ (∀ (h : LH), lenV h .nsl = .sc (.int .i64 0))
    ∧ (∀ (h : LH) (x : ByteArray), lenV h (.sc (.string x)) = .sc (.int .i64 x.size))
    ∧ (∀ (h : LH) (q a n : Nat) (f : Nat → List LV), lenC h q (.rsl a n f) = (q = 1))
    ∧ (∀ (h : LH) (q a b c d n : Nat), lenC h q (.sl a b c d n) = (q = 1))
    ∧ (∀ (h : LH) (q : Nat), lenC h q .nsl = (q = 1))
    ∧ (∀ (h : LH) (q : Nat) (x : ByteArray), lenC h q (.sc (.string x)) = (q = 0))
    ∧ (∀ (o : Nat) (cs : List LV), fadV o (.rptr cs) = .rptr (cs.drop o))
    ∧ (∀ (o k v z i c : Nat), fadV o (.ptr k v z i c) = .ptr k v z i (c + o))
    ∧ (∀ (o : Nat) (cs : List LV), fadC o (.rptr cs) = (o ≤ cs.length))
    ∧ (∀ (o k v z i c : Nat), fadC o (.ptr k v z i c) = True)
    ∧ (∀ (z n : Nat) (f : Nat → List LV) (k : IntKind) (i : Int), iadV (.rsl z n f) (.sc (.int k i)) = .rptr (f i.toNat))
    ∧ (∀ (a v z o n : Nat) (k : IntKind) (i : Int), iadV (.sl a v z o n) (.sc (.int k i)) = .ptr a v z (o + i.toNat) 0)
    ∧ (∀ (h : LH) (g : Bool) (q z n : Nat) (f : Nat → List LV) (k : IntKind) (i : Int), iadC h g q (.rsl z n f) (.sc (.int k i)) = (z = q ∧ (g = true → 0 ≤ i ∧ i < n)))
    ∧ (∀ (h : LH) (g : Bool) (q a v z o n : Nat) (k : IntKind) (i : Int), iadC h g q (.sl a v z o n) (.sc (.int k i)) = (z = q ∧ a < h.n ∧ (h.f a).1 = v ∧ (g = true → 0 ≤ i ∧ i < n)))
    ∧ (∀ (z : Nat) (cs : List LV) (k : IntKind) (i : Int), iadaV z (.rptr cs) (.sc (.int k i)) = .rptr (cs.drop (i.toNat * z)))
    ∧ (∀ (z a v y j c : Nat) (k : IntKind) (i : Int), iadaV z (.ptr a v y j c) (.sc (.int k i)) = .ptr a v y j (c + i.toNat * z))
    ∧ (∀ (g : Bool) (l z : Nat) (cs : List LV) (k : IntKind) (i : Int), iadaC g l z (.rptr cs) (.sc (.int k i)) = (g = true → (0 ≤ i ∧ i < l) ∧ i.toNat * z ≤ cs.length))
    ∧ (∀ (g : Bool) (l z a v y j c : Nat) (k : IntKind) (i : Int), iadaC g l z (.ptr a v y j c) (.sc (.int k i)) = (g = true → 0 ≤ i ∧ i < l))
    ∧ (∀ (n : Option Nat) (h : LH) (cs : List LV), ldV n h (.rptr cs) = partV n cs)
    ∧ (∀ (n : Option Nat) (h : LH) (k v z i c : Nat), ldV n h (.ptr k v z i c) = ldO n i c (h.f k).2)
    ∧ (∀ (g : Bool) (n : Option Nat) (h : LH) (cs : List LV), ldC g n h (.rptr cs) = (g = true → partC n cs))
    ∧ (∀ (g : Bool) (n : Option Nat) (h : LH) (k v z i c : Nat), ldC g n h (.ptr k v z i c) = (k < h.n ∧ (h.f k).1 = v ∧ ldOC g n z i c (h.f k).2))
    ∧ (∀ (n : Option Nat) (i c : Nat) (cs : List LV), ldO n i c (.box cs) = partV n (cs.drop c))
    ∧ (∀ (n : Option Nat) (i c : Nat) (xs : List Int), ldO n i c (.ints xs) = .sc (.int .i64 (xs.getD i 0)))
    ∧ (∀ (n : Option Nat) (i c : Nat) (xs : List Bool), ldO n i c (.bools xs) = .sc (.bool (xs.getD i false)))
    ∧ (∀ (n : Option Nat) (i c a b : Nat) (f : Nat → List LV), ldO n i c (.row a b f) = partV n ((f i).drop c))
    ∧ (∀ (g : Bool) (n : Option Nat) (z i c : Nat) (cs : List LV), ldOC g n z i c (.box cs) = (i = 0 ∧ z = 0 ∧ partC n (cs.drop c)))
    ∧ (∀ (g : Bool) (n : Option Nat) (z i c : Nat) (xs : List Int), ldOC g n z i c (.ints xs) = (n = none ∧ c = 0 ∧ z = 1 ∧ (g = true → i < xs.length)))
    ∧ (∀ (g : Bool) (n : Option Nat) (z i c : Nat) (xs : List Bool), ldOC g n z i c (.bools xs) = (n = none ∧ c = 0 ∧ z = 1 ∧ (g = true → i < xs.length)))
    ∧ (∀ (g : Bool) (n : Option Nat) (z i c a b : Nat) (f : Nat → List LV), ldOC g n z i c (.row a b f) = (a = z ∧ c + n.getD 1 ≤ z ∧ (g = true → i < b ∧ (f i).length = z)))
    ∧ (∀ (cs : List LV), nilcC (.rptr cs) = True)
    ∧ (∀ (a b c d e : Nat), nilcC (.ptr a b c d e) = True)
    ∧ (∀ (f : FuncId) (cs : List LV), nilcC (.fn f cs) = True)
    ∧ (∀ (s : LS), opL s [] = [])
    ∧ (∀ (s : LS) (o z : Nat) (x : Operand) (r : List (Nat × Nat × Operand)), opL s ((o, z, x) :: r) = (o, z, op1 s x) :: opL s r)
    ∧ (∀ (g : Bool) (s : LS), opLC g s [] = True)
    ∧ (∀ (g : Bool) (s : LS) (o z : Nat) (x : Operand) (r : List (Nat × Nat × Operand)), opLC g s ((o, z, x) :: r) = (opC g s x ∧ opLC g s r))
    ∧ (∀ (cs : List LV), fillV cs [] = cs)
    ∧ (∀ (cs : List LV) (o z : Nat) (v : LV) (r : List (Nat × Nat × LV)), fillV cs ((o, z, v) :: r) = fillV (setL cs o (flat v)) r)
    ∧ (∀ (n : Nat), fillC n [] = True)
    ∧ (∀ (n o z : Nat) (v : LV) (r : List (Nat × Nat × LV)), fillC n ((o, z, v) :: r) = (flatOk v = true ∧ (flat v).length = z ∧ o + z ≤ n ∧ fillC n r))
    ∧ (∀ (cs : List LV) (o : Nat), setL cs o [] = cs)
    ∧ (∀ (cs : List LV) (o : Nat) (x : LV) (r : List LV), setL cs o (x :: r) = setL (cs.set o x) (o + 1) r)
    ∧ (∀ (x : Value), flat (.sc x) = [.sc x])
    ∧ (∀ (x : Value), flatOk (.sc x) = true)
    ∧ (∀ (x : Value), isCell (.sc x) = true)
    ∧ (flat (.nsl) = [.nsl])
    ∧ (flatOk (.nsl) = true)
    ∧ (isCell (.nsl) = true)
    ∧ (∀ (x : List LV), flat (.agg x) = x)
    ∧ (∀ (x : List LV), flatOk (.agg x) = true)
    ∧ (∀ (a b : Nat) (f : Nat → List LV), flat (.rsl a b f) = [.rsl a b f])
    ∧ (∀ (a b : Nat) (f : Nat → List LV), flatOk (.rsl a b f) = true)
    ∧ (∀ (a b : Nat) (f : Nat → List LV), isCell (.rsl a b f) = true)
    ∧ (∀ (x : List LV), flat (.rptr x) = [.rptr x])
    ∧ (∀ (x : List LV), flatOk (.rptr x) = true)
    ∧ (∀ (x : List LV), isCell (.rptr x) = true)
    ∧ (∀ (x : List (Value × LV)), flat (.rmp x) = [.rmp x])
    ∧ (∀ (x : List (Value × LV)), flatOk (.rmp x) = true)
    ∧ (∀ (x : List (Value × LV)), isCell (.rmp x) = true)
    ∧ (∀ (a b c d e : Nat), flat (.sl a b c d e) = [.sl a b c d e])
    ∧ (∀ (a b c d e : Nat), flatOk (.sl a b c d e) = true)
    ∧ (∀ (a b c d e : Nat), isCell (.sl a b c d e) = true)
    ∧ (∀ (a b c d e : Nat), flat (.ptr a b c d e) = [.ptr a b c d e])
    ∧ (∀ (a b c d e : Nat), flatOk (.ptr a b c d e) = true)
    ∧ (∀ (a b c d e : Nat), isCell (.ptr a b c d e) = true)
    ∧ (∀ (a b : Nat), flat (.mp a b) = [.mp a b])
    ∧ (∀ (a b : Nat), flatOk (.mp a b) = true)
    ∧ (∀ (a b : Nat), isCell (.mp a b) = true)
    ∧ (∀ (f : FuncId) (x : List LV), flat (.fn f x) = [.fn f x])
    ∧ (∀ (f : FuncId) (x : List LV), flatOk (.fn f x) = true)
    ∧ (∀ (f : FuncId) (x : List LV), isCell (.fn f x) = true)
    ∧ (∀ (P : Program) (h : LH) (kt : TypeId) (a b : Nat) (kv vv : LV) (k : LV → LH → Prop), mupK P h kt (.mp a b) kv vv k = (a < h.n ∧ (h.f a).1 = b ∧ (h.f a).2.isMap = true ∧ keysOk P kt (mapO (h.f a).2) (keyV kv) ∧ evh (h.set a (b, .map (mput (mapO (h.f a).2) (keyV kv) vv))) (fun h' => k .any h')))
    ∧ (∀ (f : FuncId) (cs : List LV), fnOf (.fn f cs) = f)
    ∧ (∀ (f : FuncId) (cs : List LV), capsOf (.fn f cs) = cs)
    ∧ (∀ (f : FuncId) (cs : List LV), isFn (.fn f cs) = True)
    ∧ (∀ (h : LH) (n a v z i c : Nat) (vv : LV) (k : LV → LH → Prop), stK h n (.ptr a v z i c) vv k = (flatOk vv = true ∧ (flat vv).length = n ∧ a < h.n ∧ (h.f a).1 = v ∧ stC (h.f a).2 z i c (flat vv) ∧ evh (h.set a (v, stV (h.f a).2 i c (flat vv))) (fun h' => k .any h')))
    ∧ (∀ (h : LH) (kd z b a v y o n : Nat) (yv : LV) (k : LV → LH → Prop), appK h kd z b (.sl a v y o n) yv k = (yC h z yv ∧ ykC kd h yv ∧ y = z ∧ a < h.n ∧ (h.f a).1 = v ∧ kdC kd (h.f a).2 ∧ rngC (h.f a).2 z o n ∧ appRoom b (n + yN yv) ∧ evh (h.set a (v + 1, appO kd z o n (h.f a).2 h yv)) (fun h' => k (.sl a (v + 1) z 0 (n + yN yv)) h')))
    ∧ (∀ (h : LH) (kd z b : Nat) (yv : LV) (k : LV → LH → Prop), appK h kd z b .nsl yv k = (yC h z yv ∧ ykC kd h yv ∧ 0 < yN yv ∧ appRoom b (yN yv) ∧ evh (h.push (appO kd z 0 0 .dead h yv)) (fun h' => k (.sl h.n 0 z 0 (yN yv)) h')))
    ∧ (∀ (ob : LO) (i c : Nat), stV ob i c [] = ob)
    ∧ (∀ (ob : LO) (i c : Nat) (v : LV) (r : List LV), stV ob i c (v :: r) = stV (stV1 ob i c v) i (c + 1) r)
    ∧ (∀ (ob : LO) (z i c : Nat), stC ob z i c [] = True)
    ∧ (∀ (ob : LO) (z i c : Nat) (v : LV) (r : List LV), stC ob z i c (v :: r) = (stC1 ob z i c v ∧ stC (stV1 ob i c v) z i (c + 1) r))
    ∧ (∀ (cs : List LV) (i c : Nat) (v : LV), stV1 (.box cs) i c v = .box (cs.set c v))
    ∧ (∀ (xs : List Int) (i c : Nat) (v : LV), stV1 (.ints xs) i c v = .ints (xs.set i (intOfV v)))
    ∧ (∀ (xs : List Bool) (i c : Nat) (v : LV), stV1 (.bools xs) i c v = .bools (xs.set i (boolOf v)))
    ∧ (∀ (a b : Nat) (f : Nat → List LV) (i c : Nat) (v : LV), stV1 (.row a b f) i c v = .row a b (fun j => if j = i then (f i).set c v else f j))
    ∧ (∀ (cs : List LV) (z i c : Nat) (v : LV), stC1 (.box cs) z i c v = (z = 0 ∧ i = 0 ∧ c < cs.length ∧ isCell v = true))
    ∧ (∀ (xs : List Int) (z i c : Nat) (v : LV), stC1 (.ints xs) z i c v = (z = 1 ∧ c = 0 ∧ i < xs.length ∧ isI64 v))
    ∧ (∀ (xs : List Bool) (z i c : Nat) (v : LV), stC1 (.bools xs) z i c v = (z = 1 ∧ c = 0 ∧ i < xs.length ∧ isBool v))
    ∧ (∀ (a b : Nat) (f : Nat → List LV) (z i c : Nat) (v : LV), stC1 (.row a b f) z i c v = (z = a ∧ c < z ∧ i < b ∧ (f i).length = z ∧ isCell v = true)) :=
  ⟨(fun _ => rfl),
    (fun _ _ => rfl),
    (fun _ _ => rfl),
    (fun _ _ => rfl),
    (fun _ _ => rfl),
    (fun _ _ _ => rfl),
    (fun _ _ _ => rfl),
    (fun _ _ _ => rfl),
    (fun _ _ _ => rfl),
    (fun _ _ => rfl),
    (fun _ _ _ => rfl),
    (fun _ => rfl),
    (fun _ _ => rfl),
    (fun _ _ _ => rfl),
    (fun _ _ _ => rfl),
    (fun _ => rfl),
    (fun _ _ => rfl),
    (fun _ => rfl),
    (fun _ _ => rfl),
    (fun _ _ _ => rfl),
    (fun _ _ _ _ => rfl),
    (fun _ _ _ _ _ => rfl),
    (fun _ _ _ _ _ _ _ => rfl),
    (fun _ _ => rfl),
    (fun _ _ => rfl),
    (fun _ _ _ => rfl),
    (fun _ _ _ _ => rfl),
    (fun _ _ _ _ => rfl),
    (fun _ _ _ _ _ _ => rfl),
    (fun _ => rfl),
    (fun _ _ => rfl),
    (fun _ _ _ _ _ => rfl),
    (fun _ _ _ _ _ _ _ => rfl),
    (fun _ _ => rfl),
    (fun _ _ _ => rfl),
    (fun _ _ => rfl),
    (fun _ _ _ _ _ _ => rfl),
    (fun _ _ => rfl),
    (fun _ _ _ _ _ _ => rfl),
    (fun _ _ _ _ _ => rfl),
    (fun _ _ _ _ _ _ _ => rfl),
    (fun _ _ _ _ _ _ _ _ => rfl),
    (fun _ _ _ _ _ _ _ _ _ _ => rfl),
    (fun _ _ _ _ => rfl),
    (fun _ _ _ _ _ _ _ _ => rfl),
    (fun _ _ _ _ _ _ => rfl),
    (fun _ _ _ _ _ _ _ _ _ _ => rfl),
    (fun _ _ _ => rfl),
    (fun _ _ _ _ _ _ _ => rfl),
    (fun _ _ _ _ => rfl),
    (fun _ _ _ _ _ _ _ _ => rfl),
    (fun _ _ _ _ => rfl),
    (fun _ _ _ _ => rfl),
    (fun _ _ _ _ => rfl),
    (fun _ _ _ _ _ _ => rfl),
    (fun _ _ _ _ _ _ => rfl),
    (fun _ _ _ _ _ _ => rfl),
    (fun _ _ _ _ _ _ => rfl),
    (fun _ _ _ _ _ _ _ _ => rfl),
    (fun _ => rfl),
    (fun _ _ _ _ _ => rfl),
    (fun _ _ => rfl),
    (fun _ => rfl),
    (fun _ _ _ _ _ => rfl),
    (fun _ _ => rfl),
    (fun _ _ _ _ _ _ => rfl),
    (fun _ => rfl),
    (fun _ _ _ _ _ => rfl),
    (fun _ => rfl),
    (fun _ _ _ _ _ => rfl),
    (fun _ _ => rfl),
    (fun _ _ _ _ => rfl),
    (fun _ => rfl),
    (fun _ => rfl),
    (fun _ => rfl),
    (rfl),
    (rfl),
    (rfl),
    (fun _ => rfl),
    (fun _ => rfl),
    (fun _ _ _ => rfl),
    (fun _ _ _ => rfl),
    (fun _ _ _ => rfl),
    (fun _ => rfl),
    (fun _ => rfl),
    (fun _ => rfl),
    (fun _ => rfl),
    (fun _ => rfl),
    (fun _ => rfl),
    (fun _ _ _ _ _ => rfl),
    (fun _ _ _ _ _ => rfl),
    (fun _ _ _ _ _ => rfl),
    (fun _ _ _ _ _ => rfl),
    (fun _ _ _ _ _ => rfl),
    (fun _ _ _ _ _ => rfl),
    (fun _ _ => rfl),
    (fun _ _ => rfl),
    (fun _ _ => rfl),
    (fun _ _ => rfl),
    (fun _ _ => rfl),
    (fun _ _ => rfl),
    (fun _ _ _ _ _ _ _ _ => rfl),
    (fun _ _ => rfl),
    (fun _ _ => rfl),
    (fun _ _ => rfl),
    (fun _ _ _ _ _ _ _ _ _ => rfl),
    (fun _ _ _ _ _ _ _ _ _ _ _ => rfl),
    (fun _ _ _ _ _ _ => rfl),
    (fun _ _ _ => rfl),
    (fun _ _ _ _ _ => rfl),
    (fun _ _ _ _ => rfl),
    (fun _ _ _ _ _ _ => rfl),
    (fun _ _ _ _ => rfl),
    (fun _ _ _ _ => rfl),
    (fun _ _ _ _ => rfl),
    (fun _ _ _ _ _ _ => rfl),
    (fun _ _ _ _ _ => rfl),
    (fun _ _ _ _ _ => rfl),
    (fun _ _ _ _ _ => rfl),
    (fun _ _ _ _ _ _ _ => rfl)⟩

theorem EVQ3 :
    (∀ (z n : Nat) (zr : List Value), repO 1 z n zr = .ints (List.replicate n 0))
    ∧ (∀ (z n : Nat) (zr : List Value), repO 2 z n zr = .bools (List.replicate n false))
    ∧ (∀ (z n : Nat) (zr : List Value), repO 0 z n zr = .row z n (fun _ => zr.map liftC1))
    ∧ (∀ (z n : Nat) (cs : List LV), litO 1 z n cs = .ints (cs.map intOfV))
    ∧ (∀ (z n : Nat) (cs : List LV), litO 2 z n cs = .bools (cs.map boolOf))
    ∧ (∀ (z n : Nat) (cs : List LV), litO 0 z n cs = .row z n (fun i => (cs.drop (i * z)).take z))
    ∧ (∀ (cs : List LV), litC 1 cs = allI cs)
    ∧ (∀ (cs : List LV), litC 2 cs = allB cs)
    ∧ (∀ (cs : List LV), litC 0 cs = True)
    ∧ (allI [] = True)
    ∧ (∀ (x : LV) (r : List LV), allI (x :: r) = (isI64 x ∧ allI r))
    ∧ (allB [] = True)
    ∧ (∀ (x : LV) (r : List LV), allB (x :: r) = (isBool x ∧ allB r))
    ∧ (∀ (n z : Nat) (zr : List Value), repZ n z zr = (List.range (n * z)).map (fun i => (zr.map liftC1).getD (i % z) .any))
    ∧ (∀ (a b c d m : Nat), yN (.sl a b c d m) = m)
    ∧ (∀ (a m : Nat) (f : Nat → List LV), yN (.rsl a m f) = m)
    ∧ (yN .nsl = 0)
    ∧ (∀ (h : LH) (q a b c d m : Nat), yC h q (.sl a b c d m) = (c = q ∧ a < h.n ∧ (h.f a).1 = b ∧ rngC (h.f a).2 q d m))
    ∧ (∀ (h : LH) (q a m : Nat) (f : Nat → List LV), yC h q (.rsl a m f) = (a = q))
    ∧ (∀ (h : LH) (q : Nat), yC h q .nsl = True)
    ∧ (∀ (h : LH) (y : LV), ykC 1 h y = yIntsC h y)
    ∧ (∀ (h : LH) (y : LV), ykC 2 h y = yBoolsC h y)
    ∧ (∀ (h : LH) (y : LV), ykC 0 h y = True)
    ∧ (∀ (h : LH) (a b c d m : Nat), yIntsC h (.sl a b c d m) = isInts (h.f a).2)
    ∧ (∀ (h : LH) (a b c d m : Nat), yBoolsC h (.sl a b c d m) = isBools (h.f a).2)
    ∧ (∀ (h : LH) (a b c d m : Nat), yInts h (.sl a b c d m) = ((intsO (h.f a).2).drop d).take m)
    ∧ (∀ (h : LH) (a b c d m : Nat), yBools h (.sl a b c d m) = ((boolsO (h.f a).2).drop d).take m)
    ∧ (∀ (h : LH) (a m : Nat) (f : Nat → List LV), yInts h (.rsl a m f) = (List.range m).map (fun i => intOfV ((f i).getD 0 .any)))
    ∧ (∀ (h : LH) (a m : Nat) (f : Nat → List LV), yIntsC h (.rsl a m f) = ∀ i, i < m → isI64 ((f i).getD 0 .any))
    ∧ (∀ (h : LH) (a b c d m : Nat), yF h (.sl a b c d m) = fun i => elO (h.f a).2 (d + i))
    ∧ (∀ (h : LH) (a m : Nat) (f : Nat → List LV), yF h (.rsl a m f) = f)
    ∧ (∀ (xs : List Int) (q o m : Nat), rngC (.ints xs) q o m = (q = 1 ∧ o + m ≤ xs.length))
    ∧ (∀ (xs : List Bool) (q o m : Nat), rngC (.bools xs) q o m = (q = 1 ∧ o + m ≤ xs.length))
    ∧ (∀ (a n : Nat) (f : Nat → List LV) (q o m : Nat), rngC (.row a n f) q o m = (a = q ∧ o + m ≤ n ∧ ∀ i, i < m → (f (o + i)).length = q))
    ∧ (∀ (ob : LO), kdC 1 ob = isInts ob)
    ∧ (∀ (ob : LO), kdC 2 ob = isBools ob)
    ∧ (∀ (ob : LO), kdC 0 ob = True)
    ∧ (∀ (xs : List Int), isInts (.ints xs) = True)
    ∧ (∀ (xs : List Bool), isBools (.bools xs) = True)
    ∧ (∀ (xs : List Int), intsO (.ints xs) = xs)
    ∧ (∀ (xs : List Bool), boolsO (.bools xs) = xs)
    ∧ (intsO .dead = [])
    ∧ (boolsO .dead = [])
    ∧ (∀ (z o n : Nat) (ob : LO) (h : LH) (y : LV), appO 1 z o n ob h y = .ints (((intsO ob).drop o).take n ++ yInts h y))
    ∧ (∀ (z o n : Nat) (ob : LO) (h : LH) (y : LV), appO 2 z o n ob h y = .bools (((boolsO ob).drop o).take n ++ yBools h y))
    ∧ (∀ (z o n : Nat) (ob : LO) (h : LH) (y : LV), appO 0 z o n ob h y = .row z (n + yN y) (fun i => if i < n then elO ob (o + i) else yF h y (i - n)))
    ∧ (∀ (xs : List Int) (i : Nat), elO (.ints xs) i = [.sc (.int .i64 (xs.getD i 0))])
    ∧ (∀ (xs : List Bool) (i : Nat), elO (.bools xs) i = [.sc (.bool (xs.getD i false))])
    ∧ (∀ (a b : Nat) (f : Nat → List LV) (i : Nat), elO (.row a b f) i = f i)
    ∧ (∀ (l : List (Nat × LO)) (ob : LO), (mkH l).push ob = mkH (l ++ [(0, ob)]))
    ∧ (∀ (l : List (Nat × LO)) (k : Nat) (vo : Nat × LO), k < l.length → (mkH l).set k vo = mkH (l.set k vo))
    ∧ (∀ (l : List (Nat × LO)), (mkH l).n = l.length)
    ∧ (∀ (l : List (Nat × LO)) (k : Nat), (mkH l).f k = l.getD k (0, .dead))
    ∧ (LH.empty = mkH [])
    ∧ (∀ (i : Nat), argS [] i = fun _ => .any)
    ∧ (∀ (x : LV) (r : List LV) (i : Nat), argS (x :: r) i = upd (argS r (i + 1)) i x)
    ∧ (mkS [] = fun _ => .any)
    ∧ (∀ (i : Nat) (v : LV) (r : List (Nat × LV)), mkS ((i, v) :: r) = upd (mkS r) i v)
    ∧ (∀ (s : LS) (h : LH) (sv : List (Nat × LV)) (ho : List (Nat × LO)), weakTo s h sv ho = (ho.length ≤ h.n ∧ weakS ho.length s sv ∧ weakH ho.length h 0 ho))
    ∧ (∀ (n : Nat) (s : LS), weakS n s [] = True)
    ∧ (∀ (n : Nat) (s : LS) (i : Nat) (v : LV) (r : List (Nat × LV)), weakS n s ((i, v) :: r) = (s i = v ∧ belowV n v ∧ weakS n s r))
    ∧ (∀ (n : Nat) (h : LH) (k : Nat), weakH n h k [] = True)
    ∧ (∀ (n : Nat) (h : LH) (k : Nat) (vo : Nat × LO) (r : List (Nat × LO)), weakH n h k (vo :: r) = (h.f k = vo ∧ belowO n vo.2 ∧ weakH n h (k + 1) r))
    ∧ (∀ (q : Nat) (x : Value), belowC q (.sc x) = True)
    ∧ (∀ (q : Nat) (x : Value), belowV q (.sc x) = True)
    ∧ (∀ (q : Nat), belowC q (.nsl) = True)
    ∧ (∀ (q : Nat), belowV q (.nsl) = True)
    ∧ (∀ (q : Nat) (x : List LV), belowV q (.agg x) = allC q x)
    ∧ (∀ (q : Nat) (a b : Nat) (f : Nat → List LV), belowC q (.rsl a b f) = True)
    ∧ (∀ (q : Nat) (a b : Nat) (f : Nat → List LV), belowV q (.rsl a b f) = True)
    ∧ (∀ (q : Nat) (x : List LV), belowC q (.rptr x) = True)
    ∧ (∀ (q : Nat) (x : List LV), belowV q (.rptr x) = True)
    ∧ (∀ (q : Nat) (x : List (Value × LV)), belowC q (.rmp x) = True)
    ∧ (∀ (q : Nat) (x : List (Value × LV)), belowV q (.rmp x) = True)
    ∧ (∀ (q : Nat) (a b c d e : Nat), belowC q (.sl a b c d e) = (a < q))
    ∧ (∀ (q : Nat) (a b c d e : Nat), belowV q (.sl a b c d e) = (a < q))
    ∧ (∀ (q : Nat) (a b c d e : Nat), belowC q (.ptr a b c d e) = (a < q))
    ∧ (∀ (q : Nat) (a b c d e : Nat), belowV q (.ptr a b c d e) = (a < q))
    ∧ (∀ (q : Nat) (a b : Nat), belowC q (.mp a b) = (a < q))
    ∧ (∀ (q : Nat) (a b : Nat), belowV q (.mp a b) = (a < q))
    ∧ (∀ (q : Nat) (f : FuncId) (x : List LV), belowV q (.fn f x) = allC q x)
    ∧ (∀ (q : Nat) (x : List LV), belowV q (.tup x) = allC q x)
    ∧ (∀ (q : Nat), belowC q (.any) = True)
    ∧ (∀ (q : Nat), belowV q (.any) = True)
    ∧ (∀ (q : Nat) (a v z o n : Nat), belowB q (.sl a v z o n) = (a < q))
    ∧ (∀ (q : Nat) (a v z o n : Nat), belowB q (.ptr a v z o n) = (a < q))
    ∧ (∀ (q : Nat) (a v : Nat), belowB q (.mp a v) = (a < q))
    ∧ (∀ (q : Nat) (x : Value), belowB q (.sc x) = True)
    ∧ (∀ (q : Nat) (z n : Nat) (f : Nat → List LV), belowB q (.rsl z n f) = True)
    ∧ (∀ (q : Nat) (x : List LV), belowB q (.rptr x) = True)
    ∧ (∀ (q : Nat) (x : List (Value × LV)), belowB q (.rmp x) = True)
    ∧ (∀ (q : Nat), belowB q .any = True)
    ∧ (∀ (q : Nat), belowB q .nsl = True)
    ∧ (∀ (q : Nat) (f : FuncId) (x : List LV), belowC q (.fn f x) = allBl q x)
    ∧ (∀ (q : Nat), allBl q [] = True)
    ∧ (∀ (q : Nat) (x : LV) (r : List LV), allBl q (x :: r) = (belowB q x ∧ allBl q r))
    ∧ (∀ (q : Nat), allC q [] = True)
    ∧ (∀ (q : Nat) (x : LV) (r : List LV), allC q (x :: r) = (belowC q x ∧ allC q r))
    ∧ (∀ (q : Nat) (cs : List LV), belowO q (.box cs) = allC q cs)
    ∧ (∀ (q : Nat) (xs : List Int), belowO q (.ints xs) = True)
    ∧ (∀ (q : Nat) (xs : List Bool), belowO q (.bools xs) = True)
    ∧ (∀ (q : Nat), belowO q .dead = True)
    ∧ (∀ (q a b : Nat) (f : Nat → List LV), belowO q (.row a b f) = ∀ i, i < b → allC q ((f i).take a))
    ∧ (∀ (l : List RX) (r : LV) (s : LS) (h : LH), fin l r s h = (resCL s h l ∧ roTo3 h (outV s h l) r))
    ∧ (∀ (s : LS) (h : LH), resCL s h [] = True)
    ∧ (∀ (s : LS) (h : LH) (x : RX) (r : List RX), resCL s h (x :: r) = (resC s h x ∧ resCL s h r))
    ∧ (∀ (s : LS) (h : LH) (t : Nat), resC s h (.tmp t) = True)
    ∧ (∀ (s : LS) (h : LH) (a : Nat) (n : Option Nat), resC s h (.cell a n) = ldC true n h (s a))
    ∧ (∀ (s : LS) (h : LH) (t : Nat), resV s h (.tmp t) = s t)
    ∧ (∀ (s : LS) (h : LH) (a : Nat) (n : Option Nat), resV s h (.cell a n) = ldV n h (s a))
    ∧ (∀ (s : LS) (h : LH) (x : RX), outV s h [x] = resV s h x)
    ∧ (∀ (s : LS) (h : LH), outV s h [] = .tup [])
    ∧ (∀ (s : LS) (h : LH) (x y : RX) (r : List RX), outV s h (x :: y :: r) = .tup (resV s h x :: resV s h y :: r.map (resV s h)))
    ∧ (∀ (h : LH) (v : Value) (r : LV), roTo3 h (.sc v) r = (.sc v = r))
    ∧ (∀ (h : LH) (v : Value) (r : LV), roTo2 h (.sc v) r = (.sc v = r))
    ∧ (∀ (h : LH) (v : Value) (r : LV), roTo1 h (.sc v) r = (.sc v = r))
    ∧ (∀ (h : LH) (cs ds : List LV), roTo3 h (.tup cs) (.tup ds) = roToL2 h cs ds)
    ∧ (∀ (h : LH) (cs ds : List LV), roTo3 h (.agg cs) (.agg ds) = roToL h cs ds)
    ∧ (∀ (h : LH) (cs ds : List LV), roTo2 h (.agg cs) (.agg ds) = roToL h cs ds)
    ∧ (∀ (h : LH), roToL h [] [] = True) :=
  ⟨(fun _ _ _ => rfl),
    (fun _ _ _ => rfl),
    (fun _ _ _ => rfl),
    (fun _ _ _ => rfl),
    (fun _ _ _ => rfl),
    (fun _ _ _ => rfl),
    (fun _ => rfl),
    (fun _ => rfl),
    (fun _ => rfl),
    (rfl),
    (fun _ _ => rfl),
    (rfl),
    (fun _ _ => rfl),
    (fun _ _ _ => rfl),
    (fun _ _ _ _ _ => rfl),
    (fun _ _ _ => rfl),
    (rfl),
    (fun _ _ _ _ _ _ _ => rfl),
    (fun _ _ _ _ _ => rfl),
    (fun _ _ => rfl),
    (fun _ _ => rfl),
    (fun _ _ => rfl),
    (fun _ _ => rfl),
    (fun _ _ _ _ _ _ => yIntsC_sl),
    (fun _ _ _ _ _ _ => yBoolsC_sl),
    (fun _ _ _ _ _ _ => yInts_sl),
    (fun _ _ _ _ _ _ => yBools_sl),
    (fun _ _ _ _ => rfl),
    (fun _ _ _ _ => rfl),
    (fun _ _ _ _ _ _ => rfl),
    (fun _ _ _ _ => rfl),
    (fun _ _ _ _ => rfl),
    (fun _ _ _ _ => rfl),
    (fun _ _ _ _ _ _ => rfl),
    (fun _ => rfl),
    (fun _ => rfl),
    (fun _ => rfl),
    (fun _ => rfl),
    (fun _ => rfl),
    (fun _ => rfl),
    (fun _ => rfl),
    (rfl),
    (rfl),
    (fun _ _ _ _ _ _ => rfl),
    (fun _ _ _ _ _ _ => rfl),
    (fun _ _ _ _ _ _ => rfl),
    (fun _ _ => rfl),
    (fun _ _ => rfl),
    (fun _ _ _ _ => rfl),
    (fun l ob => mkH_push l ob),
    (fun l k vo hk => mkH_set l k vo hk),
    (fun _ => rfl),
    (fun _ _ => rfl),
    (mkH_nil.symm),
    (fun _ => rfl),
    (fun _ _ _ => rfl),
    (rfl),
    (fun _ _ _ => rfl),
    (fun _ _ _ _ => rfl),
    (fun _ _ => rfl),
    (fun _ _ _ _ _ => rfl),
    (fun _ _ _ => rfl),
    (fun _ _ _ _ _ => rfl),
    (fun _ _ => rfl),
    (fun _ _ => rfl),
    (fun _ => rfl),
    (fun _ => rfl),
    (fun _ _ => rfl),
    (fun _ _ _ _ => rfl),
    (fun _ _ _ _ => rfl),
    (fun _ _ => rfl),
    (fun _ _ => rfl),
    (fun _ _ => rfl),
    (fun _ _ => rfl),
    (fun _ _ _ _ _ _ => rfl),
    (fun _ _ _ _ _ _ => rfl),
    (fun _ _ _ _ _ _ => rfl),
    (fun _ _ _ _ _ _ => rfl),
    (fun _ _ _ => rfl),
    (fun _ _ _ => rfl),
    (fun _ _ _ => rfl),
    (fun _ _ => rfl),
    (fun _ => rfl),
    (fun _ => rfl),
    (fun _ _ _ _ _ _ => rfl),
    (fun _ _ _ _ _ _ => rfl),
    (fun _ _ _ => rfl),
    (fun _ _ => rfl),
    (fun _ _ _ _ => rfl),
    (fun _ _ => rfl),
    (fun _ _ => rfl),
    (fun _ => rfl),
    (fun _ => rfl),
    (fun _ _ _ => rfl),
    (fun _ => rfl),
    (fun _ _ _ => rfl),
    (fun _ => rfl),
    (fun _ _ _ => rfl),
    (fun _ _ => rfl),
    (fun _ _ => rfl),
    (fun _ _ => rfl),
    (fun _ => rfl),
    (fun _ _ _ _ => rfl),
    (fun _ _ _ _ => rfl),
    (fun _ _ => rfl),
    (fun _ _ _ _ => rfl),
    (fun _ _ _ => rfl),
    (fun _ _ _ _ => rfl),
    (fun _ _ _ => rfl),
    (fun _ _ _ _ => rfl),
    (fun _ _ _ => rfl),
    (fun _ _ => rfl),
    (fun _ _ _ _ _ => rfl),
    (fun _ _ _ => roTo3_sc),
    (fun _ _ _ => roTo2_sc),
    (fun _ _ _ => roTo1_sc),
    (fun _ _ _ => rfl),
    (fun _ _ _ => rfl),
    (fun _ _ _ => rfl),
    (fun _ => rfl)⟩

theorem EVQ4 :
    (∀ (h : LH) (x y : LV) (r q : List LV), roToL h (x :: r) (y :: q) = (roTo1 h x y ∧ roToL h r q))
    ∧ (∀ (h : LH), roToL2 h [] [] = True)
    ∧ (∀ (h : LH) (x y : LV) (r q : List LV), roToL2 h (x :: r) (y :: q) = (roTo2 h x y ∧ roToL2 h r q))
    ∧ (∀ (h : LH) (a n : Nat) (f : Nat → List LV), roTo1 h .nsl (.rsl a n f) = (n = 0))
    ∧ (∀ (h : LH) (a b c d e z n : Nat) (f : Nat → List LV), roTo1 h (.sl a b c d e) (.rsl z n f) = (z = c ∧ n = e ∧ a < h.n ∧ (h.f a).1 = b ∧ rngC (h.f a).2 c d e ∧ (∀ i, i < e → elO (h.f a).2 (d + i) = f i ∧ roishL (f i))))
    ∧ (∀ (h : LH) (a n : Nat) (f : Nat → List LV) (r : LV), roTo1 h (.rsl a n f) r = (.rsl a n f = r))
    ∧ (∀ (h : LH) (a n : Nat) (f : Nat → List LV), roTo2 h .nsl (.rsl a n f) = (n = 0))
    ∧ (∀ (h : LH) (a b c d e z n : Nat) (f : Nat → List LV), roTo2 h (.sl a b c d e) (.rsl z n f) = (z = c ∧ n = e ∧ a < h.n ∧ (h.f a).1 = b ∧ rngC (h.f a).2 c d e ∧ (∀ i, i < e → elO (h.f a).2 (d + i) = f i ∧ roishL (f i))))
    ∧ (∀ (h : LH) (a n : Nat) (f : Nat → List LV) (r : LV), roTo2 h (.rsl a n f) r = (.rsl a n f = r))
    ∧ (∀ (h : LH) (a n : Nat) (f : Nat → List LV), roTo3 h .nsl (.rsl a n f) = (n = 0))
    ∧ (∀ (h : LH) (a b c d e z n : Nat) (f : Nat → List LV), roTo3 h (.sl a b c d e) (.rsl z n f) = (z = c ∧ n = e ∧ a < h.n ∧ (h.f a).1 = b ∧ rngC (h.f a).2 c d e ∧ (∀ i, i < e → elO (h.f a).2 (d + i) = f i ∧ roishL (f i))))
    ∧ (∀ (h : LH) (a n : Nat) (f : Nat → List LV) (r : LV), roTo3 h (.rsl a n f) r = (.rsl a n f = r))
    ∧ (∀ (h : LH) (a b : Nat) (ds : List (Value × LV)), roTo1 h (.mp a b) (.rmp ds) = (a < h.n ∧ (h.f a).1 = b ∧ (h.f a).2 = .map ds ∧ ∀ kv, kv ∈ ds → roish1 kv.2))
    ∧ (∀ (h : LH) (a b : Nat) (ds : List (Value × LV)), roTo2 h (.mp a b) (.rmp ds) = (a < h.n ∧ (h.f a).1 = b ∧ (h.f a).2 = .map ds ∧ ∀ kv, kv ∈ ds → roish1 kv.2))
    ∧ (∀ (h : LH) (a b : Nat) (ds : List (Value × LV)), roTo3 h (.mp a b) (.rmp ds) = (a < h.n ∧ (h.f a).1 = b ∧ (h.f a).2 = .map ds ∧ ∀ kv, kv ∈ ds → roish1 kv.2))
    ∧ (∀ (x : List (Value × LV)), roish1 (.rmp x) = True)
    ∧ (∀ (q : Nat) (x : List (Value × LV)), belowO q (.map x) = allC q (x.map (·.2)))
    ∧ (roishL2 [] = True)
    ∧ (∀ (x : LV) (r : List LV), roishL2 (x :: r) = (roish2 x ∧ roishL2 r))
    ∧ (∀ (x : List LV), roish2 (.agg x) = roishL x)
    ∧ (∀ (x : Value), roish2 (.sc x) = True)
    ∧ (∀ (a b : Nat) (f : Nat → List LV), roish2 (.rsl a b f) = True)
    ∧ (roish2 .nsl = True)
    ∧ (∀ (x : List LV), roish2 (.rptr x) = True)
    ∧ (∀ (x : List (Value × LV)), roish2 (.rmp x) = True)
    ∧ (∀ (f : FuncId) (x : List LV), roish2 (.fn f x) = roishL x)
    ∧ (∀ (x : Value), scal (.sc x) = True)
    ∧ (∀ (x : Value), scal2 (.sc x) = True)
    ∧ (∀ (x : Value), scal1 (.sc x) = True)
    ∧ (∀ (x : List LV), scal (.tup x) = scalL2 x)
    ∧ (∀ (x : List LV), scal (.agg x) = scalL x)
    ∧ (∀ (x : List LV), scal2 (.agg x) = scalL x)
    ∧ (scalL [] = True)
    ∧ (scalL2 [] = True)
    ∧ (∀ (x : LV) (r : List LV), scalL (x :: r) = (scal1 x ∧ scalL r))
    ∧ (∀ (x : LV) (r : List LV), scalL2 (x :: r) = (scal2 x ∧ scalL2 r))
    ∧ (roishL [] = True)
    ∧ (∀ (x : LV) (r : List LV), roishL (x :: r) = (roish1 x ∧ roishL r))
    ∧ (∀ (x : Value), roish1 (.sc x) = True)
    ∧ (roish1 .nsl = True)
    ∧ (∀ (a b : Nat) (f : Nat → List LV), roish1 (.rsl a b f) = True)
    ∧ (∀ (x : List LV), roish1 (.rptr x) = True) :=
  ⟨(fun _ _ _ _ _ => rfl),
    (fun _ => rfl),
    (fun _ _ _ _ _ => rfl),
    (fun _ _ _ _ => rfl),
    (fun _ _ _ _ _ _ _ _ _ => rfl),
    (fun _ _ _ _ _ => roTo1_rsl),
    (fun _ _ _ _ => rfl),
    (fun _ _ _ _ _ _ _ _ _ => rfl),
    (fun _ _ _ _ _ => roTo2_rsl),
    (fun _ _ _ _ => rfl),
    (fun _ _ _ _ _ _ _ _ _ => rfl),
    (fun _ _ _ _ _ => roTo3_rsl),
    (fun _ _ _ _ => rfl),
    (fun _ _ _ _ => rfl),
    (fun _ _ _ _ => rfl),
    (fun _ => rfl),
    (fun _ _ => rfl),
    (rfl),
    (fun _ _ => rfl),
    (fun _ => rfl),
    (fun _ => rfl),
    (fun _ _ _ => rfl),
    (rfl),
    (fun _ => rfl),
    (fun _ => rfl),
    (fun _ _ => rfl),
    (fun _ => rfl),
    (fun _ => rfl),
    (fun _ => rfl),
    (fun _ => rfl),
    (fun _ => rfl),
    (fun _ => rfl),
    (rfl),
    (rfl),
    (fun _ _ => rfl),
    (fun _ _ => rfl),
    (rfl),
    (fun _ _ => rfl),
    (fun _ => rfl),
    (rfl),
    (fun _ _ _ => rfl),
    (fun _ => rfl)⟩

end Go.Proofs.Ytfhifkcbdpgomaa
