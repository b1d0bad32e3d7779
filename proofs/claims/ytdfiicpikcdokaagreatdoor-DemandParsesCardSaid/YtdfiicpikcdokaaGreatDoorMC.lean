/- The lifted layer, part 17: the rewrite rules by which a walk is run; The lifted layer, part 18: the rules of loops and of joins, as one uses them; The lifted layer, part 19: functions that change what the caller owns; The lifted layer, part 20: what is handed to a call may become read-only for good; The lifted layer, part 21: what can be read as data is a read-only value; and rows from what functions compute; The lifted layer, part 22: rows that list package-level variables; The lifted layer, part 23: slices of slices, seen as read-only; The lifted layer, part 24: code within rounds, and behind marks of deferred calls; The lifted layer, part 25: records of loops that stand in the heap beside what is spoken of; The lifted layer, part 26: a round of a range over a function, and the statement itself. Conditions: none. -/
import Derived.Test.YtdfiicpikcdokaaGreatDoorMB
import Derived.Test.YtdfiicpikcdokaaGreatDoorRows
import Derived.ChangeArms
import Derived.ProofKit
import Derived.Lay
import Derived.LaidMore
import Derived.RangeFuncNested
import Derived.RangeFuncOwn
import Derived.TacticsIn
namespace Go.Proofs.YtdfiicpikcdokaaGreatDoor
set_option linter.unusedSimpArgs false
set_option linter.unusedVariables false
open Go.RowKit

class KE where
  e : Nat → LS → LH → Prop
  t : LS → LH → Prop
def lwpL (P : Program) (nb : Nat) (a : LC) [c : KE] (s : LS) (h : LH) : Prop := lwp P nb (.loop a) (fun _ _ => True) c.e c.t s h
class KJ where
  k : LS → LH → Prop
  e : Nat → LS → LH → Prop
  t : LS → LH → Prop
def lwpJ (P : Program) (nb : Nat) (a b : LC) [c : KJ] (s : LS) (h : LH) : Prop := lwp P nb (.seqj a b) c.k c.e c.t s h
def evk (v : LV) (k : LV → Prop) : Prop := k v
def evb (v : Bool) (k : Bool → Prop) : Prop := k v
def evh (v : LH) (k : LH → Prop) : Prop := k v
def brK (v : LV) (A B : Prop) : Prop := isBool v ∧ Br (boolOf v) A B
@[congr] theorem evk_congr {v v' : LV} {k : LV → Prop} (h : v = v') : evk v k = evk v' k := by rw [h]
@[congr] theorem evb_congr {v v' : Bool} {k : Bool → Prop} (h : v = v') : evb v k = evb v' k := by rw [h]
@[congr] theorem evh_congr {v v' : LH} {k : LH → Prop} (h : v = v') : evh v k = evh v' k := by rw [h]
@[congr] theorem Br_congr {g g' : Bool} {A B : Prop} (h : g = g') : Br g A B = Br g' A B := by rw [h]
@[congr] theorem brK_congr {g g' : LV} {A B : Prop} (h : g = g') : brK g A B = brK g' A B := by rw [h]

def andI (k : IntKind) (a b : Int) : Int := k.wrap ((BitVec.ofInt k.bits a &&& BitVec.ofInt k.bits b).toNat)
def orbI (k : IntKind) (a b : Int) : Int := k.wrap ((BitVec.ofInt k.bits a ||| BitVec.ofInt k.bits b).toNat)
def xorI (k : IntKind) (a b : Int) : Int := k.wrap ((BitVec.ofInt k.bits a ^^^ BitVec.ofInt k.bits b).toNat)
def andnI (k : IntKind) (a b : Int) : Int := k.wrap ((BitVec.ofInt k.bits a &&& ~~~BitVec.ofInt k.bits b).toNat)
def prtV (o : Nat) (n : Option Nat) : LV → LV
  | .agg cs => partV n (cs.drop o)
  | _ => .any
def prtC (o : Nat) (n : Option Nat) : LV → Prop
  | .agg cs => partC n (cs.drop o)
  | _ => False

def stK (h : LH) (n : Nat) (xv vv : LV) (k : LV → LH → Prop) : Prop :=
  match xv with
  | .ptr a v z i c => flatOk vv = true ∧ (flat vv).length = n ∧ a < h.n ∧ (h.f a).1 = v ∧ stC (h.f a).2 z i c (flat vv) ∧ evh (h.set a (v, stV (h.f a).2 i c (flat vv))) (fun h' => k .any h')
  | _ => False
def appK (h : LH) (kd z b : Nat) (xv yv : LV) (k : LV → LH → Prop) : Prop :=
  match xv with
  | .sl a v y o n => yC h z yv ∧ ykC kd h yv ∧ y = z ∧ a < h.n ∧ (h.f a).1 = v ∧ kdC kd (h.f a).2 ∧ rngC (h.f a).2 z o n ∧ appRoom b (n + yN yv) ∧ evh (h.set a (v + 1, appO kd z o n (h.f a).2 h yv)) (fun h' => k (.sl a (v + 1) z 0 (n + yN yv)) h')
  | .nsl => yC h z yv ∧ ykC kd h yv ∧ 0 < yN yv ∧ appRoom b (yN yv) ∧ evh (h.push (appO kd z 0 0 .dead h yv)) (fun h' => k (.sl h.n 0 z 0 (yN yv)) h')
  | _ => False
def apsK (h : LH) (el : TypeId) (b : Nat) (xv yv : LV) (k : LV → LH → Prop) : Prop :=
  match xv with
  | .sl a v z o n => yBC yv ∧ 0 < (yB yv).length ∧ z = 1 ∧ o = 0 ∧ a < h.n ∧ (h.f a).1 = v ∧ bytC el (h.f a).2 ∧ (bytL (h.f a).2).length = n ∧ appRoom b (n + (yB yv).length) ∧ evh (h.set a (v + 1, .byt el (bytL (h.f a).2 ++ yB yv))) (fun h' => k (.sl a (v + 1) 1 0 (n + (yB yv).length)) h')
  | .nsl => yBC yv ∧ 0 < (yB yv).length ∧ appRoom b (yB yv).length ∧ evh (h.push (.byt el (yB yv))) (fun h' => k (.sl h.n 0 1 0 (yB yv).length) h')
  | _ => False
class KC where
  k : LV → LH → Prop
def callK (P : Program) (f : FuncId) (al : List LV) (h : LH) [c : KC] : Prop := ∃ r h', LCall P f al h r h' ∧ c.k r h'
def gCallK (P : Program) (g : Bool) (f : FuncId) (al : List LV) (h : LH) [c : KC] : Prop := ∃ r, (g = true → LCall P f al h r h) ∧ c.k (.cnd g r) h
def effK (P : Program) (s : LS) (h : LH) (q : LEf) (k : LV → LH → Prop) : Prop := ∃ v h', eff P s h q v h' ∧ k v h'
def gEff (P : Program) (g : Bool) (s : LS) (h : LH) (q : LEf) (k : LV → LH → Prop) : Prop :=
  match q with
  | .call f al => (g = true → ∀ x, x ∈ al → opC true s x) ∧ @gCallK P g f (al.map (op1 s)) h ⟨k⟩
  | .calv y al => (g = true → opC true s y ∧ (∀ x, x ∈ al → opC true s x) ∧ isFn (op1 s y) ∧ okF P (fnOf (op1 s y)) = true) ∧ @gCallK P g (fnOf (op1 s y)) (al.map (op1 s) ++ capsOf (op1 s y)) h ⟨k⟩
  | q => Br g (effK P s h q k) (k .any h)

class KG where
  k : LS → LH → Prop
def lopsG (P : Program) (d : Option Nat) (t : Nat) (b : Bool) (q : LEf) (r : List LX) [c : KG] (s : LS) (h : LH) : Prop := lops P (⟨d, some (t, b), .e q⟩ :: r) c.k s h
def lopsQ (P : Program) (o : LX) (K : LS → Prop) (s : LS) (h : LH) : Prop := ∃ v, LStep P o s h v h ∧ K (updO s o.dst v)
def lops0 (P : Program) (o : LX) (K : LS → LH → Prop) (s : LS) (h : LH) : Prop := ∃ v h', LStep P o s h v h' ∧ K (updO s o.dst v) h'
class KQG where
  k : LS → Prop
def lopsQG (P : Program) (d : Option Nat) (t : Nat) (b : Bool) (q : LEf) [c : KQG] (s : LS) (h : LH) : Prop := lopsQ P ⟨d, some (t, b), .e q⟩ c.k s h
def lops0G (P : Program) (d : Option Nat) (t : Nat) (b : Bool) (q : LEf) [c : KG] (s : LS) (h : LH) : Prop := lops0 P ⟨d, some (t, b), .e q⟩ c.k s h
class KQ where
  k : LV → Prop
def qCallK (P : Program) (f : FuncId) (al : List LV) (h : LH) [c : KQ] : Prop := ∃ r, LCall P f al h r h ∧ c.k r

def xCallK (P : Program) (f : FuncId) (al : List LV) (h : LH) [c : KC] : Prop := ∃ r, XCall P f al r ∧ c.k r h
def mupK (P : Program) (h : LH) (kt : TypeId) (mv kv vv : LV) (k : LV → LH → Prop) : Prop :=
  match mv with
  | .mp a b => a < h.n ∧ (h.f a).1 = b ∧ (h.f a).2.isMap = true ∧ keysOk P kt (mapO (h.f a).2) (keyV kv) ∧ evh (h.set a (b, .map (mput (mapO (h.f a).2) (keyV kv) vv))) (fun h' => k .any h')
  | _ => False
def lenMO : LO → LV
  | .map es => .sc (.int .i64 es.length)
  | _ => .any
theorem lenV_mp {h : LH} {a b : Nat} : lenV h (.mp a b) = lenMO (h.f a).2 := by
  simp only [lenV]
  generalize (h.f a).2 = ob
  cases ob <;> rfl
-- what stands still is not looked into
@[congr] theorem lwp_stop {P : Program} {nb : Nat} {c : LC} {K : LS → LH → Prop} {E : Nat → LS → LH → Prop} {T : LS → LH → Prop} {s s' : LS} {h h' : LH} (h1 : s = s') (h2 : h = h') : lwp P nb c K E T s h = lwp P nb c K E T s' h' := by rw [h1, h2]
@[congr] theorem lops_stop {P : Program} {l : List LX} {K : LS → LH → Prop} {s s' : LS} {h h' : LH} (h1 : s = s') (h2 : h = h') : lops P l K s h = lops P l K s' h' := by rw [h1, h2]
@[congr] theorem lopsD_stop {P : Program} {l : List LX} {m : List (List LX)} {K : LS → LH → Prop} {s s' : LS} {h h' : LH} (h1 : s = s') (h2 : h = h') : lopsD P l m K s h = lopsD P l m K s' h' := by rw [h1, h2]
@[congr] theorem lopsE_stop {P : Program} {l : List LX} {K : LS → LH → Prop} {s s' : LS} {h h' : LH} (h1 : s = s') (h2 : h = h') : lopsE P l K s h = lopsE P l K s' h' := by rw [h1, h2]
@[congr] theorem lopsQ_stop {P : Program} {o : LX} {K : LS → Prop} {s s' : LS} {h h' : LH} (h1 : s = s') (h2 : h = h') : lopsQ P o K s h = lopsQ P o K s' h' := by rw [h1, h2]
@[congr] theorem lops0_stop {P : Program} {o : LX} {K : LS → LH → Prop} {s s' : LS} {h h' : LH} (h1 : s = s') (h2 : h = h') : lops0 P o K s h = lops0 P o K s' h' := by rw [h1, h2]

section
variable {P : Program} {nb : Nat} {K : LS → LH → Prop} {E : Nat → LS → LH → Prop} {T : LS → LH → Prop} {s : LS} {h : LH} {k : LV → LH → Prop}

theorem lwp_cond_eq {c : Operand} {a b : LC} : lwp P nb (.cond c a b) K E T s h = (opC true s c ∧ brK (op1 s c) (lwp P nb a K E T s h) (lwp P nb b K E T s h)) := by
  simp only [lwp, brK, eq_iff_iff]
  constructor
  · rintro ⟨a, b, c⟩; exact ⟨b, a, c⟩
  · rintro ⟨b, a, c⟩; exact ⟨a, b, c⟩
theorem lops_p_eq {d : Option Nat} {q : LOp} {r : List LX} : lops P (⟨d, none, .p q⟩ :: r) K s h = (pvc P true s h q ∧ evk (pval s h q) (fun v => pfact s q → lops P r K (updO s d v) h)) := by
  simp only [lops, LStep, LFact, evk, eq_iff_iff]
  constructor
  · rintro ⟨v, h', ⟨h1, rfl, rfl⟩, h3⟩; exact ⟨h1, h3⟩
  · rintro ⟨h1, h3⟩; exact ⟨_, _, ⟨h1, rfl, rfl⟩, h3⟩
theorem lops_gp_eq {d : Option Nat} {t : Nat} {b : Bool} {q : LOp} {r : List LX} : lops P (⟨d, some (t, b), .p q⟩ :: r) K s h = evk (s t) (fun gv => gOk gv ∧ evb (gOf b gv) (fun g => pvc P g s h q ∧ evk (pval s h q) (fun v => lops P r K (updO s d (.cnd g v)) h))) := by
  simp only [lops, LStep, LFact, evk, evb, eq_iff_iff]
  constructor
  · rintro ⟨v, h', ⟨h1, h2, rfl, rfl⟩, h3⟩; exact ⟨h1, h2, h3 trivial⟩
  · rintro ⟨h1, h2, h3⟩; exact ⟨_, _, ⟨h1, h2, rfl, rfl⟩, fun _ => h3⟩
theorem lops_e_eq {d : Option Nat} {q : LEf} {r : List LX} : lops P (⟨d, none, .e q⟩ :: r) K s h = effK P s h q (fun v h' => lops P r K (updO s d v) h') := by
  simp only [lops, LStep, LFact, effK, eq_iff_iff]
  constructor
  · rintro ⟨v, h', h1, h3⟩; exact ⟨v, h', h1, h3 trivial⟩
  · rintro ⟨v, h', h1, h3⟩; exact ⟨v, h', h1, fun _ => h3⟩
theorem lops_ge_imp {d : Option Nat} {t : Nat} {b : Bool} {q : LEf} {r : List LX} (hx : evk (s t) (fun gv => gOk gv ∧ evb (gOf b gv) (fun g => gEff P g s h q (fun v h' => lops P r K (updO s d v) h')))) : @lopsG P d t b q r ⟨K⟩ s h := by
  show lops P (⟨d, some (t, b), .e q⟩ :: r) K s h
  simp only [lops, LStep, LFact, evk, evb] at hx ⊢
  obtain ⟨h1, h2⟩ := hx
  unfold gEff at h2
  split at h2
  · obtain ⟨h3, r', h4, h5⟩ := h2
    exact ⟨_, _, ⟨h1, .inr (.inr ⟨r', rfl, rfl, fun hg => ⟨h3 hg, h4 hg⟩⟩)⟩, fun _ => h5⟩
  · obtain ⟨h3, r', h4, h5⟩ := h2
    exact ⟨_, _, ⟨h1, .inr (.inr ⟨r', rfl, rfl, fun hg => let ⟨a1, a2, a3, a4⟩ := h3 hg; ⟨a1, a2, a3, a4, h4 hg⟩⟩)⟩, fun _ => h5⟩
  · by_cases hg : gOf b (s t) = true
    · obtain ⟨v, h', h3, h4⟩ := h2.1 hg
      exact ⟨v, h', ⟨h1, .inl ⟨hg, h3⟩⟩, fun _ => h4⟩
    · have hg' : gOf b (s t) = false := by simpa using hg
      exact ⟨_, _, ⟨h1, .inr (.inl ⟨hg', rfl, rfl⟩)⟩, fun _ => h2.2 hg'⟩
theorem lopsE_nil_eq : lopsE P [] K s h = K s h := rfl
theorem lopsE_cons_eq {o : LX} {r : List LX} : lopsE P (o :: r) K s h = lops0 P o (fun s h => lopsE P r K s h) s h := rfl
theorem lopsD_nil_eq {m : List (List LX)} : lopsD P [] m K s h = lopsA P m K s h := rfl
theorem lopsA_one_eq {m : List LX} : lopsA P [m] K s h = lopsE P m K s h := by simp [lopsA]
theorem lopsA_cons_eq {m m2 : List LX} {r : List (List LX)} : lopsA P (m :: m2 :: r) K s h = (lopsE P m K s h ∧ lopsA P (m2 :: r) K s h) := rfl
theorem lopsD_cons_eq {o : LX} {r : List LX} {m : List (List LX)} : lopsD P (o :: r) m K s h = lopsQ P o (fun s => lopsD P r m K s h) s h := rfl
theorem lopsQ_p {K : LS → Prop} {d : Option Nat} {q : LOp} : lopsQ P ⟨d, none, .p q⟩ K s h = (pvc P true s h q ∧ evk (pval s h q) (fun v => K (updO s d v))) := by
  simp only [lopsQ, LStep, evk, eq_iff_iff]
  constructor
  · rintro ⟨v, ⟨h1, rfl, _⟩, h3⟩; exact ⟨h1, h3⟩
  · rintro ⟨h1, h3⟩; exact ⟨_, ⟨h1, rfl, trivial⟩, h3⟩
theorem lopsQ_gp {K : LS → Prop} {d : Option Nat} {t : Nat} {b : Bool} {q : LOp} : lopsQ P ⟨d, some (t, b), .p q⟩ K s h = evk (s t) (fun gv => gOk gv ∧ evb (gOf b gv) (fun g => pvc P g s h q ∧ evk (pval s h q) (fun v => K (updO s d (.cnd g v))))) := by
  simp only [lopsQ, LStep, evk, evb, eq_iff_iff]
  constructor
  · rintro ⟨v, ⟨h1, h2, rfl, _⟩, h3⟩; exact ⟨h1, h2, h3⟩
  · rintro ⟨h1, h2, h3⟩; exact ⟨_, ⟨h1, h2, rfl, trivial⟩, h3⟩
theorem lopsQ_call {K : LS → Prop} {d : Option Nat} {f : FuncId} {al : List Operand} : lopsQ P ⟨d, none, .e (.call f al)⟩ K s h = ((∀ x, x ∈ al → opC true s x) ∧ @qCallK P f (al.map (op1 s)) h ⟨fun v => K (updO s d v)⟩) := by
  simp only [lopsQ, LStep, eff, qCallK, eq_iff_iff]
  constructor
  · rintro ⟨v, ⟨h1, h2⟩, h3⟩; exact ⟨h1, v, h2, h3⟩
  · rintro ⟨h1, v, h2, h3⟩; exact ⟨v, ⟨h1, h2⟩, h3⟩
theorem lopsQ_gcall {K : LS → Prop} {d : Option Nat} {t : Nat} {b : Bool} {f : FuncId} {al : List Operand} (hx : evk (s t) (fun gv => gOk gv ∧ evb (gOf b gv) (fun g => (g = true → ∀ x, x ∈ al → opC true s x) ∧ @gCallK P g f (al.map (op1 s)) h ⟨fun v _ => K (updO s d v)⟩))) :
    @lopsQG P d t b (.call f al) ⟨K⟩ s h := by
  show lopsQ P ⟨d, some (t, b), .e (.call f al)⟩ K s h
  simp only [evk, evb, gCallK] at hx
  obtain ⟨h1, h2, r, h3, h4⟩ := hx
  exact ⟨.cnd (gOf b (s t)) r, ⟨h1, .inr (.inr ⟨r, rfl, rfl, fun hg => ⟨h2 hg, h3 hg⟩⟩)⟩, h4⟩
theorem lops0_p {d : Option Nat} {q : LOp} : lops0 P ⟨d, none, .p q⟩ K s h = (pvc P true s h q ∧ evk (pval s h q) (fun v => K (updO s d v) h)) := by
  simp only [lops0, LStep, evk, eq_iff_iff]
  constructor
  · rintro ⟨v, h', ⟨h1, rfl, rfl⟩, h3⟩; exact ⟨h1, h3⟩
  · rintro ⟨h1, h3⟩; exact ⟨_, _, ⟨h1, rfl, rfl⟩, h3⟩
theorem lops0_gp {d : Option Nat} {t : Nat} {b : Bool} {q : LOp} : lops0 P ⟨d, some (t, b), .p q⟩ K s h = evk (s t) (fun gv => gOk gv ∧ evb (gOf b gv) (fun g => pvc P g s h q ∧ evk (pval s h q) (fun v => K (updO s d (.cnd g v)) h))) := by
  simp only [lops0, LStep, evk, evb, eq_iff_iff]
  constructor
  · rintro ⟨v, h', ⟨h1, h2, rfl, rfl⟩, h3⟩; exact ⟨h1, h2, h3⟩
  · rintro ⟨h1, h2, h3⟩; exact ⟨_, _, ⟨h1, h2, rfl, rfl⟩, h3⟩
def eCallK (P : Program) (f : FuncId) (al : List LV) [c : KQ] : Prop := ∃ r, (∀ hh, LCall P f al hh r hh) ∧ c.k r
def geCallK (P : Program) (g : Bool) (f : FuncId) (al : List LV) [c : KQ] : Prop := ∃ r, (g = true → ∀ hh, LCall P f al hh r hh) ∧ c.k r
theorem lopsQ_ecl {K : LS → Prop} {d : Option Nat} {f : FuncId} {al : List Operand} : lopsQ P ⟨d, none, .e (.ecl f al)⟩ K s h = ((∀ x, x ∈ al → opC true s x) ∧ @eCallK P f (al.map (op1 s)) ⟨fun v => K (updO s d v)⟩) := by
  simp only [lopsQ, LStep, eff, eCallK, eq_iff_iff]
  constructor
  · rintro ⟨v, ⟨h1, h2, _⟩, h3⟩; exact ⟨h1, v, h2, h3⟩
  · rintro ⟨h1, v, h2, h3⟩; exact ⟨v, ⟨h1, h2, trivial⟩, h3⟩
theorem lopsQ_gecl {K : LS → Prop} {d : Option Nat} {t : Nat} {b : Bool} {f : FuncId} {al : List Operand} (hx : evk (s t) (fun gv => gOk gv ∧ evb (gOf b gv) (fun g => (g = true → ∀ x, x ∈ al → opC true s x) ∧ @geCallK P g f (al.map (op1 s)) ⟨fun v => K (updO s d (.cnd g v))⟩))) :
    @lopsQG P d t b (.ecl f al) ⟨K⟩ s h := by
  show lopsQ P ⟨d, some (t, b), .e (.ecl f al)⟩ K s h
  simp only [evk, evb, geCallK] at hx
  obtain ⟨h1, h2, r, h3, h4⟩ := hx
  exact ⟨.cnd (gOf b (s t)) r, ⟨h1, .inr (.inr ⟨r, rfl, rfl, fun hg => ⟨h2 hg, h3 hg, rfl⟩⟩)⟩, h4⟩
theorem brK_eq {g : Bool} {A B : Prop} : brK (.sc (.bool g)) A B = Br g A B := by simp [brK, isBool, boolOf]
theorem Br_true {A B : Prop} : Br true A B = A := by simp [Br]
theorem Br_false {A B : Prop} : Br false A B = B := by simp [Br]
theorem liftC1_ncnd (x : Value) (g : Bool) (v : LV) : liftC1 x ≠ .cnd g v := by
  unfold liftC1; split <;> simp
theorem liftC_ncnd (x : Value) (g : Bool) (v : LV) : liftC x ≠ .cnd g v := by
  cases x <;> simp [liftC, liftC1_ncnd]
theorem opC_const {g : Bool} {v : Value} : opC g s (.const v) = True := by
  show stripC g (if aggOk v then liftC v else .any) = True
  split
  · generalize hx : liftC v = lv
    cases lv with
    | cnd g' v' => exact absurd hx (liftC_ncnd _ _ _)
    | _ => rfl
  · rfl
theorem op1_agg {cs : Array Value} : op1 s (.const (.agg cs)) = if cs.all plainV then .agg (cs.toList.map liftC1) else .any := by
  show stripV (if cs.all plainV then .agg (cs.toList.map liftC1) else .any) = _
  split <;> rfl
theorem selB_true (a b : LV) : selB true a b = a := by unfold selB; split <;> rfl
theorem selB_false (a b : LV) : selB false a b = b := by unfold selB; split <;> rfl
theorem gOf_t (b : Bool) : gOf true (.sc (.bool b)) = b := by cases b <;> rfl
theorem gOf_f (b : Bool) : gOf false (.sc (.bool b)) = !b := by cases b <;> rfl
theorem gOf_ct (g b : Bool) : gOf true (.cnd g (.sc (.bool b))) = (g && b) := by cases b <;> cases g <;> rfl
theorem gOf_cf (g b : Bool) : gOf false (.cnd g (.sc (.bool b))) = (g && !b) := by cases b <;> cases g <;> rfl

theorem effK_st {n : Nat} {x v : Operand} : effK P s h (.st n x v) k = (opC true s x ∧ opC true s v ∧ evk (op1 s v) (fun vv => evk (op1 s x) (fun xv => stK h n xv vv k))) := by
  simp only [effK, eff, evk, stK, eq_iff_iff]
  generalize op1 s x = xv
  cases xv with
  | ptr a ver z i c =>
    simp only [evh]
    constructor
    · rintro ⟨_, _, ⟨h1, h2, h3, h4, h5, h6, h7, rfl, rfl⟩, h8⟩; exact ⟨h1, h2, h3, h4, h5, h6, h7, h8⟩
    · rintro ⟨h1, h2, h3, h4, h5, h6, h7, h8⟩; exact ⟨_, _, ⟨h1, h2, h3, h4, h5, h6, h7, rfl, rfl⟩, h8⟩
  | _ => simp
theorem effK_alc {z : List Value} : effK P s h (.alc z) k = evh (h.push (.box (z.map liftC1))) (fun h' => k (.ptr h.n 0 0 0 0) h') := by
  simp only [effK, eff, evh, eq_iff_iff]
  constructor
  · rintro ⟨_, _, ⟨rfl, rfl⟩, h1⟩; exact h1
  · intro h1; exact ⟨_, _, ⟨rfl, rfl⟩, h1⟩
theorem effK_box {v : Operand} : effK P s h (.box v) k = (opC true s v ∧ evk (op1 s v) (fun vv => flatOk vv = true ∧ evh (h.push (.box (flat vv))) (fun h' => k (.ptr h.n 0 0 0 0) h'))) := by
  simp only [effK, eff, evk, evh, eq_iff_iff]
  constructor
  · rintro ⟨_, _, ⟨h1, h2, rfl, rfl⟩, h3⟩; exact ⟨h1, h2, h3⟩
  · rintro ⟨h1, h2, h3⟩; exact ⟨_, _, ⟨h1, h2, rfl, rfl⟩, h3⟩
theorem effK_s2b {x : Operand} : effK P s h (.s2b x) k = (opC true s x ∧ evk (op1 s x) (fun xv => s2bC xv ∧ k (bysR (yB xv)) h)) := by
  simp only [effK, eff, evk, eq_iff_iff]
  constructor
  · rintro ⟨_, _, ⟨h1, h2, rfl, rfl⟩, h3⟩; exact ⟨h1, h2, h3⟩
  · rintro ⟨h1, h2, h3⟩; exact ⟨_, _, ⟨h1, h2, rfl, rfl⟩, h3⟩
theorem effK_mks {kd z : Nat} {zr : List Value} {b : Nat} {l c : Operand} : effK P s h (.mks kd z zr b l c) k = (opC true s l ∧ opC true s c ∧ evk (op1 s l) (fun lv => evk (op1 s c) (fun cv => isI64 lv ∧ isI64 cv ∧ mksC (intOfV lv) (intOfV cv) b ∧ evh (h.push (repO kd z (intOfV lv).toNat zr)) (fun h' => k (.sl h.n 0 z 0 (intOfV lv).toNat) h')))) := by
  simp only [effK, eff, evk, evh, eq_iff_iff]
  constructor
  · rintro ⟨_, _, ⟨h1, h2, h3, h4, h5, rfl, rfl⟩, h6⟩; exact ⟨h1, h2, h3, h4, h5, h6⟩
  · rintro ⟨h1, h2, h3, h4, h5, h6⟩; exact ⟨_, _, ⟨h1, h2, h3, h4, h5, rfl, rfl⟩, h6⟩
theorem effK_bsl {kd l z : Nat} {zr : List Value} {ps : List (Nat × Nat × Operand)} : effK P s h (.bsl kd l z zr ps) k = (opLC true s ps ∧ fillC (l * z) (opL s ps) ∧ litC kd (fillV (repZ l z zr) (opL s ps)) ∧ evh (h.push (litO kd z l (fillV (repZ l z zr) (opL s ps)))) (fun h' => k (.sl h.n 0 z 0 l) h')) := by
  simp only [effK, eff, evh, eq_iff_iff]
  constructor
  · rintro ⟨_, _, ⟨h1, h2, h3, rfl, rfl⟩, h6⟩; exact ⟨h1, h2, h3, h6⟩
  · rintro ⟨h1, h2, h3, h6⟩; exact ⟨_, _, ⟨h1, h2, h3, rfl, rfl⟩, h6⟩
theorem effK_bsr {l z : Nat} {zr : List Value} {ps : List (Nat × Nat × Operand)} : effK P s h (.bsr l z zr ps) k = (opLC true s ps ∧ fillC (l * z) (opL s ps) ∧ roishL (fillV (repZ l z zr) (opL s ps)) ∧ ∃ f, (∀ i, i < l → f i = ((fillV (repZ l z zr) (opL s ps)).drop (i * z)).take z) ∧ k (.rsl z l f) h) := by
  simp only [effK, eff, eq_iff_iff]
  constructor
  · rintro ⟨_, _, ⟨h1, h2, h3, ⟨f, hf, rfl⟩, rfl⟩, h6⟩; exact ⟨h1, h2, h3, f, hf, h6⟩
  · rintro ⟨h1, h2, h3, f, hf, h6⟩; exact ⟨_, _, ⟨h1, h2, h3, ⟨f, hf, rfl⟩, rfl⟩, h6⟩
theorem lopsQ_bsr {K : LS → Prop} {d : Option Nat} {l z : Nat} {zr : List Value} {ps : List (Nat × Nat × Operand)} : lopsQ P ⟨d, none, .e (.bsr l z zr ps)⟩ K s h = (opLC true s ps ∧ fillC (l * z) (opL s ps) ∧ roishL (fillV (repZ l z zr) (opL s ps)) ∧ ∃ f, (∀ i, i < l → f i = ((fillV (repZ l z zr) (opL s ps)).drop (i * z)).take z) ∧ K (updO s d (.rsl z l f))) := by
  simp only [lopsQ, LStep, eff, eq_iff_iff]
  constructor
  · rintro ⟨_, ⟨h1, h2, h3, ⟨f, hf, rfl⟩, _⟩, h6⟩; exact ⟨h1, h2, h3, f, hf, h6⟩
  · rintro ⟨h1, h2, h3, f, hf, h6⟩; exact ⟨_, ⟨h1, h2, h3, ⟨f, hf, rfl⟩, trivial⟩, h6⟩
theorem tbox_inj {t t' : TypeId} {cs cs' : List LV} : (LO.tbox t cs = LO.tbox t' cs') = (t = t' ∧ cs = cs') := by simp
theorem byt_inj {t t' : TypeId} {xs xs' : List Int} : (LO.byt t xs = LO.byt t' xs') = (t = t' ∧ xs = xs') := by simp
theorem effK_alct {t : TypeId} {z : List Value} : effK P s h (.alct t z) k = evh (h.push (.tbox t (z.map liftC1))) (fun h' => k (.ptr h.n 0 0 0 0) h') := by
  simp only [effK, eff, evh, eq_iff_iff]
  constructor
  · rintro ⟨_, _, ⟨rfl, rfl⟩, h1⟩; exact h1
  · intro h1; exact ⟨_, _, ⟨rfl, rfl⟩, h1⟩
theorem effK_aps {el : TypeId} {b : Nat} {x y : Operand} : effK P s h (.aps el b x y) k = (opC true s x ∧ opC true s y ∧ evk (op1 s y) (fun yv => evk (op1 s x) (fun xv => apsK h el b xv yv k))) := by
  simp only [effK, eff, evk, apsK, eq_iff_iff]
  generalize op1 s x = xv
  cases xv with
  | sl a v z o n =>
    simp only [evh]
    constructor
    · rintro ⟨_, _, ⟨h1, h2, h3, h4, h5, h6, h7, h8, h9, h10, h11, rfl, rfl⟩, h14⟩; exact ⟨h1, h2, h3, h4, h5, h6, h7, h8, h9, h10, h11, h14⟩
    · rintro ⟨h1, h2, h3, h4, h5, h6, h7, h8, h9, h10, h11, h14⟩; exact ⟨_, _, ⟨h1, h2, h3, h4, h5, h6, h7, h8, h9, h10, h11, rfl, rfl⟩, h14⟩
  | nsl =>
    simp only [evh]
    constructor
    · rintro ⟨_, _, ⟨h1, h2, h3, h4, h5, rfl, rfl⟩, h6⟩; exact ⟨h1, h2, h3, h4, h5, h6⟩
    · rintro ⟨h1, h2, h3, h4, h5, h6⟩; exact ⟨_, _, ⟨h1, h2, h3, h4, h5, rfl, rfl⟩, h6⟩
  | _ => simp
theorem effK_app {kd z b : Nat} {x y : Operand} : effK P s h (.app kd z b x y) k = (opC true s x ∧ opC true s y ∧ evk (op1 s y) (fun yv => evk (op1 s x) (fun xv => appK h kd z b xv yv k))) := by
  simp only [effK, eff, evk, appK, eq_iff_iff]
  generalize op1 s x = xv
  cases xv with
  | sl a ver y' o n =>
    simp only [evh]
    constructor
    · rintro ⟨_, _, ⟨h1, h2, h3, h4, h5, h6, h7, h8, h9, h10, rfl, rfl⟩, h11⟩; exact ⟨h1, h2, h3, h4, h5, h6, h7, h8, h9, h10, h11⟩
    · rintro ⟨h1, h2, h3, h4, h5, h6, h7, h8, h9, h10, h11⟩; exact ⟨_, _, ⟨h1, h2, h3, h4, h5, h6, h7, h8, h9, h10, rfl, rfl⟩, h11⟩
  | nsl =>
    simp only [evh]
    constructor
    · rintro ⟨_, _, ⟨h1, h2, h3, h4, h5, h6, rfl, rfl⟩, h11⟩; exact ⟨h1, h2, h3, h4, h5, h6, h11⟩
    · rintro ⟨h1, h2, h3, h4, h5, h6, h11⟩; exact ⟨_, _, ⟨h1, h2, h3, h4, h5, h6, rfl, rfl⟩, h11⟩
  | _ => simp
theorem effK_call {f : FuncId} {al : List Operand} : effK P s h (.call f al) k = ((∀ x, x ∈ al → opC true s x) ∧ @callK P f (al.map (op1 s)) h ⟨k⟩) := by
  simp only [effK, eff, callK, eq_iff_iff]
  constructor
  · rintro ⟨r, h', ⟨h1, h2⟩, h3⟩; exact ⟨h1, r, h', h2, h3⟩
  · rintro ⟨h1, r, h', h2, h3⟩; exact ⟨r, h', ⟨h1, h2⟩, h3⟩
theorem effK_calv {x : Operand} {al : List Operand} : effK P s h (.calv x al) k = (opC true s x ∧ (∀ x, x ∈ al → opC true s x) ∧ evk (op1 s x) (fun xv => isFn xv ∧ okF P (fnOf xv) = true ∧ @callK P (fnOf xv) (al.map (op1 s) ++ capsOf xv) h ⟨k⟩)) := by
  simp only [effK, eff, callK, evk, eq_iff_iff]
  constructor
  · rintro ⟨r, h', ⟨h1, h2, h3, h4, h5⟩, h6⟩; exact ⟨h1, h2, h3, h4, r, h', h5, h6⟩
  · rintro ⟨h1, h2, h3, h4, r, h', h5, h6⟩; exact ⟨r, h', ⟨h1, h2, h3, h4, h5⟩, h6⟩
theorem effK_ext {f : FuncId} {al : List Operand} : effK P s h (.ext f al) k = ((∀ x, x ∈ al → opC true s x) ∧ @xCallK P f (al.map (op1 s)) h ⟨k⟩) := by
  simp only [effK, eff, xCallK, eq_iff_iff]
  constructor
  · rintro ⟨r, h', ⟨h1, h2, rfl⟩, h3⟩; exact ⟨h1, r, h2, h3⟩
  · rintro ⟨h1, r, h2, h3⟩; exact ⟨r, h, ⟨h1, h2, rfl⟩, h3⟩
theorem effK_bad : effK P s h .bad k = False := by
  simp [effK, eff]
theorem lopsQ_ext {K : LS → Prop} {d : Option Nat} {f : FuncId} {al : List Operand} : lopsQ P ⟨d, none, .e (.ext f al)⟩ K s h = ((∀ x, x ∈ al → opC true s x) ∧ @xCallK P f (al.map (op1 s)) h ⟨fun v _ => K (updO s d v)⟩) := by
  simp only [lopsQ, LStep, eff, xCallK, eq_iff_iff]
  constructor
  · rintro ⟨v, ⟨h1, h2, _⟩, h3⟩; exact ⟨h1, v, h2, h3⟩
  · rintro ⟨h1, v, h2, h3⟩; exact ⟨v, ⟨h1, h2, trivial⟩, h3⟩
theorem effK_mkm : effK P s h .mkm k = evh (h.push (.map [])) (fun h' => k (.mp h.n 0) h') := by
  simp only [effK, eff, evh, eq_iff_iff]
  constructor
  · rintro ⟨_, _, ⟨rfl, rfl⟩, h1⟩; exact h1
  · intro h1; exact ⟨_, _, ⟨rfl, rfl⟩, h1⟩
theorem effK_mup {kt : TypeId} {m q v : Operand} : effK P s h (.mup kt m q v) k = (opC true s m ∧ opC true s q ∧ opC true s v ∧ evk (op1 s q) (fun kv => evk (op1 s v) (fun vv => keyC kv ∧ evk (op1 s m) (fun mv => mupK P h kt mv kv vv k)))) := by
  simp only [effK, eff, evk, mupK, eq_iff_iff]
  generalize op1 s m = mv
  cases mv with
  | mp a b =>
    simp only [evh]
    constructor
    · rintro ⟨_, _, ⟨h1, h2, h3, h4, h5, h6, h7, h8, rfl, rfl⟩, h9⟩; exact ⟨h1, h2, h3, h4, h5, h6, h7, h8, h9⟩
    · rintro ⟨h1, h2, h3, h4, h5, h6, h7, h8, h9⟩; exact ⟨_, _, ⟨h1, h2, h3, h4, h5, h6, h7, h8, rfl, rfl⟩, h9⟩
  | _ => simp
theorem yIntsC_sl {a b c d m : Nat} : yIntsC h (.sl a b c d m) = isInts (h.f a).2 := by
  unfold yIntsC isInts; split <;> simp_all
theorem yBoolsC_sl {a b c d m : Nat} : yBoolsC h (.sl a b c d m) = isBools (h.f a).2 := by
  unfold yBoolsC isBools; split <;> simp_all
theorem yInts_sl {a b c d m : Nat} : yInts h (.sl a b c d m) = ((intsO (h.f a).2).drop d).take m := by
  simp only [yInts]
  generalize (h.f a).2 = ob
  cases ob <;> simp [intsO]
theorem yBools_sl {a b c d m : Nat} : yBools h (.sl a b c d m) = ((boolsO (h.f a).2).drop d).take m := by
  simp only [yBools]
  generalize (h.f a).2 = ob
  cases ob <;> simp [boolsO]
theorem mkH_push (l : List (Nat × LO)) (ob : LO) : (mkH l).push ob = mkH (l ++ [(0, ob)]) := by
  unfold mkH LH.push
  congr 1
  · simp
  · funext k
    simp only [List.getD_eq_getElem?_getD]
    by_cases e : k < l.length
    · rw [if_neg (by omega), List.getElem?_append_left e]
    · by_cases e2 : k = l.length
      · subst e2; simp
      · rw [if_neg e2, List.getElem?_eq_none (by omega), List.getElem?_eq_none (by simp; omega)]
theorem mkH_set (l : List (Nat × LO)) (k : Nat) (vo : Nat × LO) (hk : k < l.length) : (mkH l).set k vo = mkH (l.set k vo) := by
  unfold mkH LH.set
  congr 1
  · simp
  · funext j
    simp only [List.getD_eq_getElem?_getD]
    by_cases e : j = k
    · subst e; simp [hk]
    · rw [if_neg e, List.getElem?_set_ne (fun h => e h.symm)]
theorem mkH_nil : mkH [] = LH.empty := by
  unfold mkH LH.empty; simp
theorem roTo1_sc {v : Value} {r : LV} : roTo1 h (.sc v) r = (.sc v = r) := by
  unfold roTo1; split <;> simp_all [roish1]
theorem roTo2_sc {v : Value} {r : LV} : roTo2 h (.sc v) r = (.sc v = r) := by
  unfold roTo2
  split <;> first | contradiction | exact roTo1_sc
theorem roTo3_sc {v : Value} {r : LV} : roTo3 h (.sc v) r = (.sc v = r) := by
  unfold roTo3
  split <;> first | contradiction | exact roTo2_sc
theorem roTo1_rsl {a n : Nat} {f : Nat → List LV} {r : LV} : roTo1 h (.rsl a n f) r = (.rsl a n f = r) := by
  unfold roTo1; split <;> simp_all [roish1]
theorem roTo2_rsl {a n : Nat} {f : Nat → List LV} {r : LV} : roTo2 h (.rsl a n f) r = (.rsl a n f = r) := by
  unfold roTo2
  split <;> first | contradiction | exact roTo1_rsl
theorem roTo3_rsl {a n : Nat} {f : Nat → List LV} {r : LV} : roTo3 h (.rsl a n f) r = (.rsl a n f = r) := by
  unfold roTo3
  split <;> first | contradiction | exact roTo2_rsl
end

theorem EVP0 :
    (∀ (P : Program) (nb : Nat) (K : LS → LH → Prop) (E : Nat → LS → LH → Prop) (T : LS → LH → Prop) (s : LS) (h : LH), lwp P nb .skip K E T s h = K s h)
    ∧ (∀ (P : Program) (nb : Nat) (K : LS → LH → Prop) (E : Nat → LS → LH → Prop) (T : LS → LH → Prop) (s : LS) (h : LH) (ops : List LX), lwp P nb (.reg ops) K E T s h = lops P ops K s h)
    ∧ (∀ (P : Program) (nb : Nat) (K : LS → LH → Prop) (E : Nat → LS → LH → Prop) (T : LS → LH → Prop) (s : LS) (h : LH) (pre : List LX) (sufs : List (List LX)), lwp P nb (.dreg pre sufs) K E T s h = lopsD P pre sufs K s h)
    ∧ (∀ (P : Program) (K : LS → LH → Prop) (s : LS) (h : LH) (m : List (List LX)), lopsD P [] m K s h = lopsA P m K s h)
    ∧ (∀ (P : Program) (K : LS → LH → Prop) (s : LS) (h : LH) (m : List LX), lopsA P [m] K s h = lopsE P m K s h)
    ∧ (∀ (P : Program) (K : LS → LH → Prop) (s : LS) (h : LH) (m m2 : List LX) (r : List (List LX)), lopsA P (m :: m2 :: r) K s h = (lopsE P m K s h ∧ lopsA P (m2 :: r) K s h))
    ∧ (∀ (P : Program) (K : LS → LH → Prop) (s : LS) (h : LH), lopsE P [] K s h = K s h)
    ∧ (∀ (P : Program) (K : LS → LH → Prop) (s : LS) (h : LH) (o : LX) (r : List LX), lopsE P (o :: r) K s h = lops0 P o (fun s h => lopsE P r K s h) s h)
    ∧ (∀ (P : Program) (K : LS → LH → Prop) (s : LS) (h : LH) (o : LX) (r : List LX) (m : List (List LX)), lopsD P (o :: r) m K s h = lopsQ P o (fun s => lopsD P r m K s h) s h)
    ∧ (∀ (P : Program) (K : LS → Prop) (s : LS) (h : LH) (d : Option Nat) (q : LOp), lopsQ P ⟨d, none, .p q⟩ K s h = (pvc P true s h q ∧ evk (pval s h q) (fun v => K (updO s d v))))
    ∧ (∀ (P : Program) (K : LS → Prop) (s : LS) (h : LH) (d : Option Nat) (t : Nat) (b : Bool) (q : LOp), lopsQ P ⟨d, some (t, b), .p q⟩ K s h = evk (s t) (fun gv => gOk gv ∧ evb (gOf b gv) (fun g => pvc P g s h q ∧ evk (pval s h q) (fun v => K (updO s d (.cnd g v))))))
    ∧ (∀ (P : Program) (K : LS → Prop) (s : LS) (h : LH) (d : Option Nat) (f : FuncId) (al : List Operand), lopsQ P ⟨d, none, .e (.call f al)⟩ K s h = ((∀ x, x ∈ al → opC true s x) ∧ @qCallK P f (al.map (op1 s)) h ⟨fun v => K (updO s d v)⟩))
    ∧ (∀ (P : Program) (K : LS → Prop) (s : LS) (h : LH) (d : Option Nat) (f : FuncId) (al : List Operand), lopsQ P ⟨d, none, .e (.ecl f al)⟩ K s h = ((∀ x, x ∈ al → opC true s x) ∧ @eCallK P f (al.map (op1 s)) ⟨fun v => K (updO s d v)⟩))
    ∧ (∀ (P : Program) (K : LS → LH → Prop) (s : LS) (h : LH) (d : Option Nat) (q : LOp), lops0 P ⟨d, none, .p q⟩ K s h = (pvc P true s h q ∧ evk (pval s h q) (fun v => K (updO s d v) h)))
    ∧ (∀ (P : Program) (K : LS → LH → Prop) (s : LS) (h : LH) (d : Option Nat) (t : Nat) (b : Bool) (q : LOp), lops0 P ⟨d, some (t, b), .p q⟩ K s h = evk (s t) (fun gv => gOk gv ∧ evb (gOf b gv) (fun g => pvc P g s h q ∧ evk (pval s h q) (fun v => K (updO s d (.cnd g v)) h))))
    ∧ (∀ (P : Program) (K : LS → LH → Prop) (s : LS) (h : LH) (d : Option Nat) (q : LEf), lops0 P ⟨d, none, .e q⟩ K s h = effK P s h q (fun v h' => K (updO s d v) h'))
    ∧ (∀ (P : Program) (nb : Nat) (K : LS → LH → Prop) (E : Nat → LS → LH → Prop) (T : LS → LH → Prop) (s : LS) (h : LH) (a b : LC), lwp P nb (.seq a b) K E T s h = lwp P nb a (fun s h => lwp P nb b K E T s h) E T s h)
    ∧ (∀ (P : Program) (nb : Nat) (K : LS → LH → Prop) (E : Nat → LS → LH → Prop) (T : LS → LH → Prop) (s : LS) (h : LH) (a b : LC), lwp P nb (.seqj a b) K E T s h = @lwpJ P nb a b ⟨K, E, T⟩ s h)
    ∧ (∀ (P : Program) (nb : Nat) (K : LS → LH → Prop) (E : Nat → LS → LH → Prop) (T : LS → LH → Prop) (s : LS) (h : LH) (c : Operand) (a b : LC), lwp P nb (.cond c a b) K E T s h = (opC true s c ∧ brK (op1 s c) (lwp P nb a K E T s h) (lwp P nb b K E T s h)))
    ∧ (∀ (P : Program) (nb : Nat) (K : LS → LH → Prop) (E : Nat → LS → LH → Prop) (T : LS → LH → Prop) (s : LS) (h : LH) (id : Nat) (a : LC), lwp P nb (.block id a) K E T s h = lwp P nb a K (fun j s h => if j = id then K s h else E j s h) T s h)
    ∧ (∀ (P : Program) (nb : Nat) (K : LS → LH → Prop) (E : Nat → LS → LH → Prop) (T : LS → LH → Prop) (s : LS) (h : LH) (a : LC), lwp P nb (.loop a) K E T s h = @lwpL P nb a ⟨E, T⟩ s h)
    ∧ (∀ (P : Program) (nb : Nat) (K : LS → LH → Prop) (E : Nat → LS → LH → Prop) (T : LS → LH → Prop) (s : LS) (h : LH) (id : Nat), lwp P nb (.exit id) K E T s h = E id s h)
    ∧ (∀ (P : Program) (nb : Nat) (K : LS → LH → Prop) (E : Nat → LS → LH → Prop) (T : LS → LH → Prop) (s : LS) (h : LH), lwp P nb .ret K E T s h = T s h)
    ∧ (∀ (P : Program) (K : LS → LH → Prop) (s : LS) (h : LH), lops P [] K s h = K s h)
    ∧ (∀ (P : Program) (K : LS → LH → Prop) (s : LS) (h : LH) (d : Option Nat) (q : LOp) (r : List LX), lops P (⟨d, none, .p q⟩ :: r) K s h = (pvc P true s h q ∧ evk (pval s h q) (fun v => pfact s q → lops P r K (updO s d v) h)))
    ∧ (∀ (P : Program) (K : LS → LH → Prop) (s : LS) (h : LH) (d : Option Nat) (t : Nat) (b : Bool) (q : LOp) (r : List LX), lops P (⟨d, some (t, b), .p q⟩ :: r) K s h = evk (s t) (fun gv => gOk gv ∧ evb (gOf b gv) (fun g => pvc P g s h q ∧ evk (pval s h q) (fun v => lops P r K (updO s d (.cnd g v)) h))))
    ∧ (∀ (P : Program) (K : LS → LH → Prop) (s : LS) (h : LH) (d : Option Nat) (q : LEf) (r : List LX), lops P (⟨d, none, .e q⟩ :: r) K s h = effK P s h q (fun v h' => lops P r K (updO s d v) h'))
    ∧ (∀ (P : Program) (K : LS → LH → Prop) (s : LS) (h : LH) (d : Option Nat) (t : Nat) (b : Bool) (q : LEf) (r : List LX), lops P (⟨d, some (t, b), .e q⟩ :: r) K s h = @lopsG P d t b q r ⟨K⟩ s h)
    ∧ (∀ (P : Program) (K : LS → Prop) (s : LS) (h : LH) (d : Option Nat) (t : Nat) (b : Bool) (q : LEf), lopsQ P ⟨d, some (t, b), .e q⟩ K s h = @lopsQG P d t b q ⟨K⟩ s h)
    ∧ (∀ (P : Program) (K : LS → LH → Prop) (s : LS) (h : LH) (d : Option Nat) (t : Nat) (b : Bool) (q : LEf), lops0 P ⟨d, some (t, b), .e q⟩ K s h = @lops0G P d t b q ⟨K⟩ s h)
    ∧ (∀ (P : Program) (s : LS) (h : LH) (k : LV → LH → Prop) (n : Nat) (x v : Operand), effK P s h (.st n x v) k = (opC true s x ∧ opC true s v ∧ evk (op1 s v) (fun vv => evk (op1 s x) (fun xv => stK h n xv vv k))))
    ∧ (∀ (P : Program) (s : LS) (h : LH) (k : LV → LH → Prop) (z : List Value), effK P s h (.alc z) k = evh (h.push (.box (z.map liftC1))) (fun h' => k (.ptr h.n 0 0 0 0) h'))
    ∧ (∀ (P : Program) (s : LS) (h : LH) (k : LV → LH → Prop) (t : TypeId) (z : List Value), effK P s h (.alct t z) k = evh (h.push (.tbox t (z.map liftC1))) (fun h' => k (.ptr h.n 0 0 0 0) h'))
    ∧ (∀ (P : Program) (s : LS) (h : LH) (k : LV → LH → Prop) (el : TypeId) (b : Nat) (x y : Operand), effK P s h (.aps el b x y) k = (opC true s x ∧ opC true s y ∧ evk (op1 s y) (fun yv => evk (op1 s x) (fun xv => apsK h el b xv yv k))))
    ∧ (∀ (P : Program) (g : Bool) (s : LS) (h : LH) (k : LV → LH → Prop) (t : TypeId) (z : List Value), gEff P g s h (.alct t z) k = Br g (effK P s h (.alct t z) k) (k .any h))
    ∧ (∀ (P : Program) (g : Bool) (s : LS) (h : LH) (k : LV → LH → Prop) (el : TypeId) (b : Nat) (x y : Operand), gEff P g s h (.aps el b x y) k = Br g (effK P s h (.aps el b x y) k) (k .any h))
    ∧ (∀ (P : Program) (s : LS) (h : LH) (k : LV → LH → Prop) (v : Operand), effK P s h (.box v) k = (opC true s v ∧ evk (op1 s v) (fun vv => flatOk vv = true ∧ evh (h.push (.box (flat vv))) (fun h' => k (.ptr h.n 0 0 0 0) h'))))
    ∧ (∀ (P : Program) (s : LS) (h : LH) (k : LV → LH → Prop) (x : Operand), effK P s h (.s2b x) k = (opC true s x ∧ evk (op1 s x) (fun xv => s2bC xv ∧ k (bysR (yB xv)) h)))
    ∧ (∀ (P : Program) (g : Bool) (s : LS) (h : LH) (k : LV → LH → Prop) (x : Operand), gEff P g s h (.s2b x) k = Br g (effK P s h (.s2b x) k) (k .any h))
    ∧ (∀ (P : Program) (s : LS) (h : LH) (k : LV → LH → Prop) (kd z : Nat) (zr : List Value) (b : Nat) (l c : Operand), effK P s h (.mks kd z zr b l c) k = (opC true s l ∧ opC true s c ∧ evk (op1 s l) (fun lv => evk (op1 s c) (fun cv => isI64 lv ∧ isI64 cv ∧ mksC (intOfV lv) (intOfV cv) b ∧ evh (h.push (repO kd z (intOfV lv).toNat zr)) (fun h' => k (.sl h.n 0 z 0 (intOfV lv).toNat) h')))))
    ∧ (∀ (P : Program) (s : LS) (h : LH) (k : LV → LH → Prop) (kd l z : Nat) (zr : List Value) (ps : List (Nat × Nat × Operand)), effK P s h (.bsl kd l z zr ps) k = (opLC true s ps ∧ fillC (l * z) (opL s ps) ∧ litC kd (fillV (repZ l z zr) (opL s ps)) ∧ evh (h.push (litO kd z l (fillV (repZ l z zr) (opL s ps)))) (fun h' => k (.sl h.n 0 z 0 l) h')))
    ∧ (∀ (P : Program) (s : LS) (h : LH) (k : LV → LH → Prop) (l z : Nat) (zr : List Value) (ps : List (Nat × Nat × Operand)), effK P s h (.bsr l z zr ps) k = (opLC true s ps ∧ fillC (l * z) (opL s ps) ∧ roishL (fillV (repZ l z zr) (opL s ps)) ∧ ∃ f, (∀ i, i < l → f i = ((fillV (repZ l z zr) (opL s ps)).drop (i * z)).take z) ∧ k (.rsl z l f) h))
    ∧ (∀ (P : Program) (K : LS → Prop) (s : LS) (h : LH) (d : Option Nat) (l z : Nat) (zr : List Value) (ps : List (Nat × Nat × Operand)), lopsQ P ⟨d, none, .e (.bsr l z zr ps)⟩ K s h = (opLC true s ps ∧ fillC (l * z) (opL s ps) ∧ roishL (fillV (repZ l z zr) (opL s ps)) ∧ ∃ f, (∀ i, i < l → f i = ((fillV (repZ l z zr) (opL s ps)).drop (i * z)).take z) ∧ K (updO s d (.rsl z l f))))
    ∧ (∀ (P : Program) (s : LS) (h : LH) (k : LV → LH → Prop) (kd z b : Nat) (x y : Operand), effK P s h (.app kd z b x y) k = (opC true s x ∧ opC true s y ∧ evk (op1 s y) (fun yv => evk (op1 s x) (fun xv => appK h kd z b xv yv k))))
    ∧ (∀ (P : Program) (s : LS) (h : LH) (k : LV → LH → Prop) (f : FuncId) (al : List Operand), effK P s h (.call f al) k = ((∀ x, x ∈ al → opC true s x) ∧ @callK P f (al.map (op1 s)) h ⟨k⟩))
    ∧ (∀ (P : Program) (s : LS) (h : LH) (k : LV → LH → Prop) (f : FuncId) (al : List Operand), effK P s h (.ext f al) k = ((∀ x, x ∈ al → opC true s x) ∧ @xCallK P f (al.map (op1 s)) h ⟨k⟩))
    ∧ (∀ (P : Program) (s : LS) (h : LH) (k : LV → LH → Prop), effK P s h .bad k = False)
    ∧ (∀ (P : Program) (K : LS → Prop) (s : LS) (h : LH) (d : Option Nat) (f : FuncId) (al : List Operand), lopsQ P ⟨d, none, .e (.ext f al)⟩ K s h = ((∀ x, x ∈ al → opC true s x) ∧ @xCallK P f (al.map (op1 s)) h ⟨fun v _ => K (updO s d v)⟩))
    ∧ (∀ (P : Program) (s : LS) (h : LH) (k : LV → LH → Prop) (x : Operand) (al : List Operand), effK P s h (.calv x al) k = (opC true s x ∧ (∀ x, x ∈ al → opC true s x) ∧ evk (op1 s x) (fun xv => isFn xv ∧ okF P (fnOf xv) = true ∧ @callK P (fnOf xv) (al.map (op1 s) ++ capsOf xv) h ⟨k⟩)))
    ∧ (∀ (P : Program) (g : Bool) (s : LS) (h : LH) (k : LV → LH → Prop) (n : Nat) (x v : Operand), gEff P g s h (.st n x v) k = Br g (effK P s h (.st n x v) k) (k .any h))
    ∧ (∀ (P : Program) (g : Bool) (s : LS) (h : LH) (k : LV → LH → Prop) (z : List Value), gEff P g s h (.alc z) k = Br g (effK P s h (.alc z) k) (k .any h))
    ∧ (∀ (P : Program) (g : Bool) (s : LS) (h : LH) (k : LV → LH → Prop) (v : Operand), gEff P g s h (.box v) k = Br g (effK P s h (.box v) k) (k .any h))
    ∧ (∀ (P : Program) (g : Bool) (s : LS) (h : LH) (k : LV → LH → Prop) (kd z : Nat) (zr : List Value) (b : Nat) (l c : Operand), gEff P g s h (.mks kd z zr b l c) k = Br g (effK P s h (.mks kd z zr b l c) k) (k .any h))
    ∧ (∀ (P : Program) (g : Bool) (s : LS) (h : LH) (k : LV → LH → Prop) (kd l z : Nat) (zr : List Value) (ps : List (Nat × Nat × Operand)), gEff P g s h (.bsl kd l z zr ps) k = Br g (effK P s h (.bsl kd l z zr ps) k) (k .any h))
    ∧ (∀ (P : Program) (g : Bool) (s : LS) (h : LH) (k : LV → LH → Prop) (l z : Nat) (zr : List Value) (ps : List (Nat × Nat × Operand)), gEff P g s h (.bsr l z zr ps) k = Br g (effK P s h (.bsr l z zr ps) k) (k .any h))
    ∧ (∀ (P : Program) (g : Bool) (s : LS) (h : LH) (k : LV → LH → Prop) (kd z b : Nat) (x y : Operand), gEff P g s h (.app kd z b x y) k = Br g (effK P s h (.app kd z b x y) k) (k .any h))
    ∧ (∀ (P : Program) (g : Bool) (s : LS) (h : LH) (k : LV → LH → Prop) (kt : TypeId) (m q v : Operand), gEff P g s h (.mup kt m q v) k = Br g (effK P s h (.mup kt m q v) k) (k .any h))
    ∧ (∀ (P : Program) (g : Bool) (s : LS) (h : LH) (k : LV → LH → Prop), gEff P g s h .mkm k = Br g (effK P s h .mkm k) (k .any h))
    ∧ (∀ (P : Program) (g : Bool) (s : LS) (h : LH) (k : LV → LH → Prop) (y : Operand) (al : List Operand), gEff P g s h (.calv y al) k = ((g = true → opC true s y ∧ (∀ x, x ∈ al → opC true s x) ∧ isFn (op1 s y) ∧ okF P (fnOf (op1 s y)) = true) ∧ @gCallK P g (fnOf (op1 s y)) (al.map (op1 s) ++ capsOf (op1 s y)) h ⟨k⟩))
    ∧ (∀ (P : Program) (g : Bool) (s : LS) (h : LH) (k : LV → LH → Prop) (f : FuncId) (al : List Operand), gEff P g s h (.call f al) k = ((g = true → ∀ x, x ∈ al → opC true s x) ∧ @gCallK P g f (al.map (op1 s)) h ⟨k⟩))
    ∧ (∀ (P : Program) (s : LS) (h : LH) (k : LV → LH → Prop), effK P s h .mkm k = evh (h.push (.map [])) (fun h' => k (.mp h.n 0) h'))
    ∧ (∀ (P : Program) (s : LS) (h : LH) (k : LV → LH → Prop) (kt : TypeId) (m q v : Operand), effK P s h (.mup kt m q v) k = (opC true s m ∧ opC true s q ∧ opC true s v ∧ evk (op1 s q) (fun kv => evk (op1 s v) (fun vv => keyC kv ∧ evk (op1 s m) (fun mv => mupK P h kt mv kv vv k))))) :=
  ⟨(fun _ _ _ _ _ _ _ => rfl),
    (fun _ _ _ _ _ _ _ _ => rfl),
    (fun _ _ _ _ _ _ _ _ _ => rfl),
    (fun _ _ _ _ _ => lopsD_nil_eq),
    (fun _ _ _ _ _ => lopsA_one_eq),
    (fun _ _ _ _ _ _ _ => lopsA_cons_eq),
    (fun _ _ _ _ => lopsE_nil_eq),
    (fun _ _ _ _ _ _ => lopsE_cons_eq),
    (fun _ _ _ _ _ _ _ => lopsD_cons_eq),
    (fun _ _ _ _ _ _ => lopsQ_p),
    (fun _ _ _ _ _ _ _ _ => lopsQ_gp),
    (fun _ _ _ _ _ _ _ => lopsQ_call),
    (fun _ _ _ _ _ _ _ => lopsQ_ecl),
    (fun _ _ _ _ _ _ => lops0_p),
    (fun _ _ _ _ _ _ _ _ => lops0_gp),
    (fun _ _ _ _ _ _ => rfl),
    (fun _ _ _ _ _ _ _ _ _ => rfl),
    (fun _ _ _ _ _ _ _ _ _ => rfl),
    (fun _ _ _ _ _ _ _ _ _ _ => lwp_cond_eq),
    (fun _ _ _ _ _ _ _ _ _ => rfl),
    (fun _ _ _ _ _ _ _ _ => rfl),
    (fun _ _ _ _ _ _ _ _ => rfl),
    (fun _ _ _ _ _ _ _ => rfl),
    (fun _ _ _ _ => rfl),
    (fun _ _ _ _ _ _ _ => lops_p_eq),
    (fun _ _ _ _ _ _ _ _ _ => lops_gp_eq),
    (fun _ _ _ _ _ _ _ => lops_e_eq),
    (fun _ _ _ _ _ _ _ _ _ => rfl),
    (fun _ _ _ _ _ _ _ _ => rfl),
    (fun _ _ _ _ _ _ _ _ => rfl),
    (fun _ _ _ _ _ _ _ => effK_st),
    (fun _ _ _ _ _ => effK_alc),
    (fun _ _ _ _ _ _ => effK_alct),
    (fun _ _ _ _ _ _ _ _ => effK_aps),
    (fun _ _ _ _ _ _ _ => rfl),
    (fun _ _ _ _ _ _ _ _ _ => rfl),
    (fun _ _ _ _ _ => effK_box),
    (fun _ _ _ _ _ => effK_s2b),
    (fun _ _ _ _ _ _ => rfl),
    (fun _ _ _ _ _ _ _ _ _ _ => effK_mks),
    (fun _ _ _ _ _ _ _ _ _ => effK_bsl),
    (fun _ _ _ _ _ _ _ _ => effK_bsr),
    (fun _ _ _ _ _ _ _ _ _ => lopsQ_bsr),
    (fun _ _ _ _ _ _ _ _ _ => effK_app),
    (fun _ _ _ _ _ _ => effK_call),
    (fun _ _ _ _ _ _ => effK_ext),
    (fun _ _ _ _ => effK_bad),
    (fun _ _ _ _ _ _ _ => lopsQ_ext),
    (fun _ _ _ _ _ _ => effK_calv),
    (fun _ _ _ _ _ _ _ _ => rfl),
    (fun _ _ _ _ _ _ => rfl),
    (fun _ _ _ _ _ _ => rfl),
    (fun _ _ _ _ _ _ _ _ _ _ _ => rfl),
    (fun _ _ _ _ _ _ _ _ _ _ => rfl),
    (fun _ _ _ _ _ _ _ _ _ => rfl),
    (fun _ _ _ _ _ _ _ _ _ _ => rfl),
    (fun _ _ _ _ _ _ _ _ _ => rfl),
    (fun _ _ _ _ _ => rfl),
    (fun _ _ _ _ _ _ _ => rfl),
    (fun _ _ _ _ _ _ _ => rfl),
    (fun _ _ _ _ => effK_mkm),
    (fun _ _ _ _ _ _ _ _ => effK_mup)⟩

theorem EVQ0 :
    (∀ (v : LV) (k : LV → Prop), evk v k = k v)
    ∧ (∀ (v : Bool) (k : Bool → Prop), evb v k = k v)
    ∧ (∀ (v : LH) (k : LH → Prop), evh v k = k v)
    ∧ (∀ (g : Bool) (A B : Prop), brK (.sc (.bool g)) A B = Br g A B)
    ∧ (∀ (A B : Prop), Br true A B = A)
    ∧ (∀ (A B : Prop), Br false A B = B)
    ∧ (∀ (s : LS) (i : Nat) (v : LV) (j : Nat), upd s i v j = if j = i then v else s j)
    ∧ (∀ (s : LS) (d : Nat) (v : LV), updO s (some d) v = upd s d v)
    ∧ (∀ (s : LS) (v : LV), updO s none v = s)
    ∧ (∀ (s : LS) (t : Nat), op1 s (.tmp t) = stripV (s t))
    ∧ (∀ (s : LS) (k : IntKind) (n : Int), op1 s (.const (.int k n)) = .sc (.int k n))
    ∧ (∀ (s : LS) (b : Bool), op1 s (.const (.bool b)) = .sc (.bool b))
    ∧ (∀ (s : LS) (x : ByteArray), op1 s (.const (.string x)) = .sc (.string x))
    ∧ (∀ (s : LS), op1 s (.const (.slice none 0 0)) = .nsl)
    ∧ (∀ (s : LS) (cs : Array Value), op1 s (.const (.agg cs)) = if cs.all plainV then .agg (cs.toList.map liftC1) else .any)
    ∧ (∀ (k : IntKind) (n : Int), liftC1 (.int k n) = .sc (.int k n))
    ∧ (∀ (b : Bool), liftC1 (.bool b) = .sc (.bool b))
    ∧ (∀ (b : ByteArray), liftC1 (.string b) = .sc (.string b))
    ∧ (liftC1 (.slice none 0 0) = .nsl)
    ∧ (∀ (s : LS) (f : FuncId), op1 s (.func f) = .fn f [])
    ∧ (∀ (g : Bool) (s : LS) (t : Nat), opC g s (.tmp t) = stripC g (s t))
    ∧ (∀ (g : Bool) (s : LS) (v : Value), opC g s (.const v) = True)
    ∧ (∀ (g : Bool) (s : LS) (f : FuncId), opC g s (.func f) = True)
    ∧ (∀ (lo hi : Option LV) (z n : Nat) (f : Nat → List LV), slcV lo hi (.rsl z n f) = .rsl z ((hiOf n hi).toNat - (loOf lo).toNat) (fun i => f ((loOf lo).toNat + i)))
    ∧ (∀ (lo hi : Option LV) (k v z o n : Nat), slcV lo hi (.sl k v z o n) = .sl k v z (o + (loOf lo).toNat) ((hiOf n hi).toNat - (loOf lo).toNat))
    ∧ (∀ (lo hi : Option LV) (x : ByteArray), slcsV lo hi (.sc (.string x)) = .sc (.string (x.extract (loOf lo).toNat (hiOf x.size hi).toNat)))
    ∧ (∀ (g : Bool) (sz : Nat) (lo hi : Option LV) (z n : Nat) (f : Nat → List LV), slcC g sz lo hi (.rsl z n f) = (z = sz ∧ bndOk lo ∧ bndOk hi ∧ (g = true → 0 ≤ loOf lo ∧ loOf lo ≤ hiOf n hi ∧ hiOf n hi ≤ n)))
    ∧ (∀ (g : Bool) (sz : Nat) (lo hi : Option LV) (k v z o n : Nat), slcC g sz lo hi (.sl k v z o n) = (z = sz ∧ bndOk lo ∧ bndOk hi ∧ (g = true → 0 ≤ loOf lo ∧ loOf lo ≤ hiOf n hi ∧ hiOf n hi ≤ n)))
    ∧ (∀ (g : Bool) (lo hi : Option LV) (x : ByteArray), slcsC g lo hi (.sc (.string x)) = (bndOk lo ∧ bndOk hi ∧ (g = true → 0 ≤ loOf lo ∧ loOf lo ≤ hiOf x.size hi ∧ hiOf x.size hi ≤ x.size)))
    ∧ (∀ (k : IntKind) (n : Int), loOf (some (.sc (.int k n))) = n)
    ∧ (loOf none = 0)
    ∧ (∀ (m : Nat) (k : IntKind) (n : Int), hiOf m (some (.sc (.int k n))) = n)
    ∧ (∀ (m : Nat), hiOf m none = m)
    ∧ (bndOk none = True)
    ∧ (loOf (none : Option LV) = 0)
    ∧ (bndOk (none : Option LV) = True)
    ∧ (∀ (k : IntKind) (n : Int), bndOk (some (.sc (.int k n))) = True)
    ∧ (∀ (x : Value), stripV (.sc x) = .sc x)
    ∧ (∀ (g : Bool) (x : Value), stripC g (.sc x) = True)
    ∧ (stripV .nsl = .nsl)
    ∧ (∀ (g : Bool), stripC g .nsl = True)
    ∧ (∀ (x : List LV), stripV (.agg x) = .agg x)
    ∧ (∀ (g : Bool) (x : List LV), stripC g (.agg x) = True)
    ∧ (∀ (a b : Nat) (f : Nat → List LV), stripV (.rsl a b f) = .rsl a b f)
    ∧ (∀ (g : Bool) (a b : Nat) (f : Nat → List LV), stripC g (.rsl a b f) = True)
    ∧ (∀ (x : List LV), stripV (.rptr x) = .rptr x)
    ∧ (∀ (g : Bool) (x : List LV), stripC g (.rptr x) = True)
    ∧ (∀ (x : List (Value × LV)), stripV (.rmp x) = .rmp x)
    ∧ (∀ (g : Bool) (x : List (Value × LV)), stripC g (.rmp x) = True)
    ∧ (∀ (a b c d e : Nat), stripV (.sl a b c d e) = .sl a b c d e)
    ∧ (∀ (g : Bool) (a b c d e : Nat), stripC g (.sl a b c d e) = True)
    ∧ (∀ (a b c d e : Nat), stripV (.ptr a b c d e) = .ptr a b c d e)
    ∧ (∀ (g : Bool) (a b c d e : Nat), stripC g (.ptr a b c d e) = True)
    ∧ (∀ (a b : Nat), stripV (.mp a b) = .mp a b)
    ∧ (∀ (g : Bool) (a b : Nat), stripC g (.mp a b) = True)
    ∧ (∀ (f : FuncId) (x : List LV), stripV (.fn f x) = .fn f x)
    ∧ (∀ (g : Bool) (f : FuncId) (x : List LV), stripC g (.fn f x) = True)
    ∧ (∀ (x : List LV), stripV (.tup x) = .tup x)
    ∧ (∀ (g : Bool) (x : List LV), stripC g (.tup x) = True)
    ∧ (stripV .any = .any)
    ∧ (∀ (g : Bool), stripC g .any = True)
    ∧ (∀ (b : Bool), stripV (.ifc b) = .ifc b)
    ∧ (∀ (g : Bool) (b : Bool), stripC g (.ifc b) = True)
    ∧ (∀ (g : Bool) (v : LV), stripV (.cnd g v) = v)
    ∧ (∀ (g g' : Bool) (v : LV), stripC g (.cnd g' v) = (g = true → g' = true))
    ∧ (∀ (s : LS) (h : LH) (x : Operand), pval s h (.mov x) = op1 s x)
    ∧ (∀ (P : Program) (g : Bool) (s : LS) (h : LH) (x : Operand), pvc P g s h (.mov x) = (opC g s x))
    ∧ (∀ (s : LS) (h : LH) (c a b : Operand), pval s h (.pick c a b) = selB (boolOf (op1 s c)) (op1 s a) (op1 s b))
    ∧ (∀ (P : Program) (g : Bool) (s : LS) (h : LH) (c a b : Operand), pvc P g s h (.pick c a b) = (opC g s c ∧ isBool (op1 s c) ∧ opC (g && boolOf (op1 s c)) s a ∧ opC (g && !boolOf (op1 s c)) s b))
    ∧ (∀ (s : LS) (h : LH) (o : BinOp) (x y : Operand), pval s h (.bin o x y) = binV o (op1 s x) (op1 s y))
    ∧ (∀ (P : Program) (g : Bool) (s : LS) (h : LH) (o : BinOp) (x y : Operand), pvc P g s h (.bin o x y) = (opC g s x ∧ opC g s y ∧ binC g o (op1 s x) (op1 s y)))
    ∧ (∀ (s : LS) (h : LH) (o : Bool) (x y : Operand), pval s h (.binb o x y) = binbV o (op1 s x) (op1 s y))
    ∧ (∀ (P : Program) (g : Bool) (s : LS) (h : LH) (o : Bool) (x y : Operand), pvc P g s h (.binb o x y) = (opC g s x ∧ opC g s y ∧ isBool (op1 s x) ∧ isBool (op1 s y)))
    ∧ (∀ (s : LS) (h : LH) (x : Operand), pval s h (.nile x) = nileV (op1 s x))
    ∧ (∀ (P : Program) (g : Bool) (s : LS) (h : LH) (x : Operand), pvc P g s h (.nile x) = (opC g s x ∧ nileC h (op1 s x)))
    ∧ (nileV .nsl = .sc (.bool true))
    ∧ (∀ (z n : Nat) (f : Nat → List LV), nileV (.rsl z n f) = .sc (.bool false))
    ∧ (∀ (a b c d e : Nat), nileV (.sl a b c d e) = .sc (.bool false))
    ∧ (∀ (h : LH), nileC h .nsl = True)
    ∧ (∀ (h : LH) (z n : Nat) (f : Nat → List LV), nileC h (.rsl z n f) = (0 < n))
    ∧ (∀ (h : LH) (k v z o n : Nat), nileC h (.sl k v z o n) = (0 < n ∧ k < h.n ∧ (h.f k).1 = v))
    ∧ (∀ (s : LS) (h : LH) (n : Bool) (x : Operand), pval s h (.nili n x) = niliV n (op1 s x))
    ∧ (∀ (P : Program) (g : Bool) (s : LS) (h : LH) (n : Bool) (x : Operand), pvc P g s h (.nili n x) = (opC g s x ∧ niliC (op1 s x)))
    ∧ (∀ (s : LS) (h : LH) (x : Operand), pval s h (.b2s x) = b2sV (op1 s x))
    ∧ (∀ (P : Program) (g : Bool) (s : LS) (h : LH) (x : Operand), pvc P g s h (.b2s x) = (opC g s x ∧ b2sC (op1 s x)))
    ∧ (∀ (n b : Bool), niliV n (.ifc b) = .sc (.bool (n ^^ b)))
    ∧ (∀ (b : Bool), niliC (.ifc b) = True)
    ∧ (∀ (n : Bool), niliV n (.sc .nilIface) = .sc (.bool !n))
    ∧ (niliC (.sc .nilIface) = True)
    ∧ (∀ (z n : Nat) (f : Nat → List LV), b2sV (.rsl z n f) = .sc (.string (strOfNums ((List.range n).map fun i => u8Of ((f i).getD 0 .any)))))
    ∧ (∀ (z n : Nat) (f : Nat → List LV), b2sC (.rsl z n f) = (z = 1 ∧ 0 < n ∧ ∀ i, i < n → u8L (f i)))
    ∧ (∀ (s : LS) (h : LH) (m : Bool) (x y : Operand), pval s h (.mx m x y) = mxV m (op1 s x) (op1 s y))
    ∧ (∀ (P : Program) (g : Bool) (s : LS) (h : LH) (m : Bool) (x y : Operand), pvc P g s h (.mx m x y) = (opC g s x ∧ opC g s y ∧ mxC (op1 s x) (op1 s y)))
    ∧ (∀ (m : Bool) (k k2 : IntKind) (a b : Int), mxV m (.sc (.int k a)) (.sc (.int k2 b)) = .sc (.int k (bif m then (if b < a then b else a) else (if b > a then b else a))))
    ∧ (∀ (k k2 : IntKind) (a b : Int), mxC (.sc (.int k a)) (.sc (.int k2 b)) = True)
    ∧ (∀ (s : LS) (h : LH) (y : Operand), pval s h (.ng0 y) = ngV (op1 s y))
    ∧ (∀ (P : Program) (g : Bool) (s : LS) (h : LH) (y : Operand), pvc P g s h (.ng0 y) = (opC g s y ∧ ngC (op1 s y)))
    ∧ (∀ (a : Int), ngV (.sc (.int .i64 a)) = .sc (.int .i64 (IntKind.i64.wrap (0 - a))))
    ∧ (∀ (a : Int), ngC (.sc (.int .i64 a)) = True)
    ∧ (∀ (s : LS) (h : LH) (o : UnOp) (x : Operand), pval s h (.un o x) = unV o (op1 s x))
    ∧ (∀ (P : Program) (g : Bool) (s : LS) (h : LH) (o : UnOp) (x : Operand), pvc P g s h (.un o x) = (opC g s x ∧ unC g o (op1 s x)))
    ∧ (∀ (s : LS) (h : LH) (o : Nat) (n : Option Nat) (x : Operand), pval s h (.part o n x) = prtV o n (op1 s x))
    ∧ (∀ (P : Program) (g : Bool) (s : LS) (h : LH) (o : Nat) (n : Option Nat) (x : Operand), pvc P g s h (.part o n x) = (opC g s x ∧ prtC o n (op1 s x)))
    ∧ (∀ (s : LS) (h : LH) (x i : Operand), pval s h (.idxs x i) = idxsV (op1 s x) (op1 s i))
    ∧ (∀ (P : Program) (g : Bool) (s : LS) (h : LH) (x i : Operand), pvc P g s h (.idxs x i) = (opC g s x ∧ opC g s i ∧ idxsC g (op1 s x) (op1 s i)))
    ∧ (∀ (s : LS) (h : LH) (l z : Nat) (n : Option Nat) (x i : Operand), pval s h (.idxa l z n x i) = idxaV z n (op1 s x) (op1 s i))
    ∧ (∀ (P : Program) (g : Bool) (s : LS) (h : LH) (l z : Nat) (n : Option Nat) (x i : Operand), pvc P g s h (.idxa l z n x i) = (opC g s x ∧ opC g s i ∧ idxaC g l z n (op1 s x) (op1 s i)))
    ∧ (∀ (s : LS) (h : LH) (x : Operand) (i : Nat), pval s h (.ext x i) = extV i (op1 s x))
    ∧ (∀ (P : Program) (g : Bool) (s : LS) (h : LH) (x : Operand) (i : Nat), pvc P g s h (.ext x i) = (opC g s x ∧ extC i (op1 s x)))
    ∧ (∀ (s : LS) (h : LH) (z : List Value) (ps : List (Nat × Nat × Operand)), pval s h (.bld z ps) = .agg (fillV (z.map liftC1) (opL s ps)))
    ∧ (∀ (P : Program) (g : Bool) (s : LS) (h : LH) (z : List Value) (ps : List (Nat × Nat × Operand)), pvc P g s h (.bld z ps) = (opLC g s ps ∧ fillC z.length (opL s ps)))
    ∧ (∀ (s : LS) (h : LH) (o : Bool) (n : List CK) (x y : Operand), pval s h (.eqa o n x y) = eqaV o (op1 s x) (op1 s y))
    ∧ (∀ (P : Program) (g : Bool) (s : LS) (h : LH) (o : Bool) (n : List CK) (x y : Operand), pvc P g s h (.eqa o n x y) = (opC g s x ∧ opC g s y ∧ eqaC n (op1 s x) (op1 s y)))
    ∧ (∀ (xs ys : List LV), eqaV false (.agg xs) (.agg ys) = .sc (.bool (eqL xs ys)))
    ∧ (∀ (xs ys : List LV), eqaV true (.agg xs) (.agg ys) = .sc (.bool (!eqL xs ys)))
    ∧ (∀ (k : List CK) (xs ys : List LV), eqaC k (.agg xs) (.agg ys) = (kindL k xs ∧ kindL k ys))
    ∧ (kindL [] [] = True)
    ∧ (∀ (k k' : IntKind) (n : Int) (r : List CK) (q : List LV), kindL (.i k :: r) (.sc (.int k' n) :: q) = (k' = k ∧ kindL r q))
    ∧ (∀ (b : Bool) (r : List CK) (q : List LV), kindL (.b :: r) (.sc (.bool b) :: q) = kindL r q)
    ∧ (∀ (b : ByteArray) (r : List CK) (q : List LV), kindL (.s :: r) (.sc (.string b) :: q) = kindL r q) :=
  ⟨(fun _ _ => rfl),
    (fun _ _ => rfl),
    (fun _ _ => rfl),
    (fun _ _ _ => brK_eq),
    (fun _ _ => Br_true),
    (fun _ _ => Br_false),
    (fun _ _ _ _ => rfl),
    (fun _ _ _ => rfl),
    (fun _ _ => rfl),
    (fun _ _ => rfl),
    (fun _ _ _ => rfl),
    (fun _ _ => rfl),
    (fun _ _ => rfl),
    (fun _ => rfl),
    (fun _ _ => op1_agg),
    (fun _ _ => rfl),
    (fun _ => rfl),
    (fun _ => rfl),
    (rfl),
    (fun _ _ => rfl),
    (fun _ _ _ => rfl),
    (fun _ _ _ => opC_const),
    (fun _ _ _ => rfl),
    (fun _ _ _ _ _ => rfl),
    (fun _ _ _ _ _ _ _ => rfl),
    (fun _ _ _ => rfl),
    (fun _ _ _ _ _ _ _ => rfl),
    (fun _ _ _ _ _ _ _ _ _ => rfl),
    (fun _ _ _ _ => rfl),
    (fun _ _ => rfl),
    (rfl),
    (fun _ _ _ => rfl),
    (fun _ => rfl),
    (rfl),
    (rfl),
    (rfl),
    (fun _ _ => rfl),
    (fun _ => rfl),
    (fun _ _ => rfl),
    (rfl),
    (fun _ => rfl),
    (fun _ => rfl),
    (fun _ _ => rfl),
    (fun _ _ _ => rfl),
    (fun _ _ _ _ => rfl),
    (fun _ => rfl),
    (fun _ _ => rfl),
    (fun _ => rfl),
    (fun _ _ => rfl),
    (fun _ _ _ _ _ => rfl),
    (fun _ _ _ _ _ _ => rfl),
    (fun _ _ _ _ _ => rfl),
    (fun _ _ _ _ _ _ => rfl),
    (fun _ _ => rfl),
    (fun _ _ _ => rfl),
    (fun _ _ => rfl),
    (fun _ _ _ => rfl),
    (fun _ => rfl),
    (fun _ _ => rfl),
    (rfl),
    (fun _ => rfl),
    (fun _ => rfl),
    (fun _ _ => rfl),
    (fun _ _ => rfl),
    (fun _ _ _ => rfl),
    (fun _ _ _ => rfl),
    (fun _ _ _ _ _ => rfl),
    (fun _ _ _ _ _ => rfl),
    (fun _ _ _ _ _ _ _ => rfl),
    (fun _ _ _ _ _ => rfl),
    (fun _ _ _ _ _ _ _ => rfl),
    (fun _ _ _ _ _ => rfl),
    (fun _ _ _ _ _ _ _ => rfl),
    (fun _ _ _ => rfl),
    (fun _ _ _ _ _ => rfl),
    (rfl),
    (fun _ _ _ => rfl),
    (fun _ _ _ _ _ => rfl),
    (fun _ => rfl),
    (fun _ _ _ _ => rfl),
    (fun _ _ _ _ _ _ => rfl),
    (fun _ _ _ _ => rfl),
    (fun _ _ _ _ _ _ => rfl),
    (fun _ _ _ => rfl),
    (fun _ _ _ _ _ => rfl),
    (fun _ _ => rfl),
    (fun _ => rfl),
    (fun _ => rfl),
    (rfl),
    (fun _ _ _ => rfl),
    (fun _ _ _ => rfl),
    (fun _ _ _ _ _ => rfl),
    (fun _ _ _ _ _ _ _ => rfl),
    (fun _ _ _ _ _ => rfl),
    (fun _ _ _ _ => rfl),
    (fun _ _ _ => rfl),
    (fun _ _ _ _ _ => rfl),
    (fun _ => rfl),
    (fun _ => rfl),
    (fun _ _ _ _ => rfl),
    (fun _ _ _ _ _ _ => rfl),
    (fun _ _ _ _ _ => rfl),
    (fun _ _ _ _ _ _ _ => rfl),
    (fun _ _ _ _ => rfl),
    (fun _ _ _ _ _ _ => rfl),
    (fun _ _ _ _ _ _ _ => rfl),
    (fun _ _ _ _ _ _ _ _ _ => rfl),
    (fun _ _ _ _ => rfl),
    (fun _ _ _ _ _ _ => rfl),
    (fun _ _ _ _ => rfl),
    (fun _ _ _ _ _ _ => rfl),
    (fun _ _ _ _ _ _ => rfl),
    (fun _ _ _ _ _ _ _ _ => rfl),
    (fun _ _ => rfl),
    (fun _ _ => rfl),
    (fun _ _ _ => rfl),
    (rfl),
    (fun _ _ _ _ _ => rfl),
    (fun _ _ _ => rfl),
    (fun _ _ _ => rfl)⟩

theorem EVQ1 :
    (eqL [] [] = true)
    ∧ (∀ (x y : LV) (r q : List LV), eqL (x :: r) (y :: q) = (eqCell x y && eqL r q))
    ∧ (∀ (k k' : IntKind) (a b : Int), eqCell (.sc (.int k a)) (.sc (.int k' b)) = decide (a = b))
    ∧ (∀ (a b : ByteArray), eqCell (.sc (.string a)) (.sc (.string b)) = decide (a = b))
    ∧ (∀ (a b : Bool), eqCell (.sc (.bool a)) (.sc (.bool b)) = decide (a = b))
    ∧ (∀ (k : IntKind) (a b : Int), binI .and k a b = .sc (.int k (andI k a b)))
    ∧ (∀ (g : Bool) (k k' : IntKind) (a b : Int), binIC g .and k k' a b = (k = k'))
    ∧ (∀ (k : IntKind) (a b : Int), binI .or k a b = .sc (.int k (orbI k a b)))
    ∧ (∀ (g : Bool) (k k' : IntKind) (a b : Int), binIC g .or k k' a b = (k = k'))
    ∧ (∀ (k : IntKind) (a b : Int), binI .xor k a b = .sc (.int k (xorI k a b)))
    ∧ (∀ (g : Bool) (k k' : IntKind) (a b : Int), binIC g .xor k k' a b = (k = k'))
    ∧ (∀ (k : IntKind) (a b : Int), binI .andNot k a b = .sc (.int k (andnI k a b)))
    ∧ (∀ (g : Bool) (k k' : IntKind) (a b : Int), binIC g .andNot k k' a b = (k = k'))
    ∧ (∀ (s : LS) (h : LH) (k : IntKind) (x : Operand), pval s h (.cvt k x) = cvtV k (op1 s x))
    ∧ (∀ (P : Program) (g : Bool) (s : LS) (h : LH) (k : IntKind) (x : Operand), pvc P g s h (.cvt k x) = (opC g s x ∧ cvtC g k (op1 s x)))
    ∧ (∀ (s : LS) (h : LH) (k : Nat) (x : Operand), pval s h (.len k x) = lenV h (op1 s x))
    ∧ (∀ (P : Program) (g : Bool) (s : LS) (h : LH) (k : Nat) (x : Operand), pvc P g s h (.len k x) = (opC g s x ∧ lenC h k (op1 s x)))
    ∧ (∀ (s : LS) (h : LH) (o : Nat) (x : Operand), pval s h (.fad o x) = fadV o (op1 s x))
    ∧ (∀ (P : Program) (g : Bool) (s : LS) (h : LH) (o : Nat) (x : Operand), pvc P g s h (.fad o x) = (opC g s x ∧ fadC o (op1 s x)))
    ∧ (∀ (s : LS) (h : LH) (z : Nat) (x i : Operand), pval s h (.iad z x i) = iadV (op1 s x) (op1 s i))
    ∧ (∀ (P : Program) (g : Bool) (s : LS) (h : LH) (z : Nat) (x i : Operand), pvc P g s h (.iad z x i) = (opC g s x ∧ opC g s i ∧ iadC h g z (op1 s x) (op1 s i)))
    ∧ (∀ (s : LS) (h : LH) (l z : Nat) (x i : Operand), pval s h (.iada l z x i) = iadaV z (op1 s x) (op1 s i))
    ∧ (∀ (P : Program) (g : Bool) (s : LS) (h : LH) (l z : Nat) (x i : Operand), pvc P g s h (.iada l z x i) = (opC g s x ∧ opC g s i ∧ iadaC g l z (op1 s x) (op1 s i)))
    ∧ (∀ (s : LS) (h : LH) (n : Option Nat) (x : Operand), pval s h (.ld n x) = ldV n h (op1 s x))
    ∧ (∀ (P : Program) (g : Bool) (s : LS) (h : LH) (n : Option Nat) (x : Operand), pvc P g s h (.ld n x) = (opC g s x ∧ ldC g n h (op1 s x)))
    ∧ (∀ (s : LS) (h : LH) (f : FuncId) (cs : List Operand), pval s h (.mkf f cs) = .fn f (cs.map (op1 s)))
    ∧ (∀ (P : Program) (g : Bool) (s : LS) (h : LH) (f : FuncId) (cs : List Operand), pvc P g s h (.mkf f cs) = (∀ x, x ∈ cs → opC g s x))
    ∧ (∀ (s : LS) (h : LH) (x : Operand), pval s h (.nilc x) = op1 s x)
    ∧ (∀ (P : Program) (g : Bool) (s : LS) (h : LH) (x : Operand), pvc P g s h (.nilc x) = (opC g s x ∧ nilcC (op1 s x)))
    ∧ (∀ (s : LS) (h : LH) (z : Nat) (x : Operand) (lo hi : Option Operand), pval s h (.slc z x lo hi) = slcV (lo.map (op1 s)) (hi.map (op1 s)) (op1 s x))
    ∧ (∀ (P : Program) (g : Bool) (s : LS) (h : LH) (z : Nat) (x : Operand) (lo hi : Option Operand), pvc P g s h (.slc z x lo hi) = (opC g s x ∧ (∀ y, lo = some y → opC g s y) ∧ (∀ y, hi = some y → opC g s y) ∧ slcC g z (lo.map (op1 s)) (hi.map (op1 s)) (op1 s x)))
    ∧ (∀ (s : LS) (h : LH) (x : Operand) (lo hi : Option Operand), pval s h (.slcs x lo hi) = slcsV (lo.map (op1 s)) (hi.map (op1 s)) (op1 s x))
    ∧ (∀ (P : Program) (g : Bool) (s : LS) (h : LH) (x : Operand) (lo hi : Option Operand), pvc P g s h (.slcs x lo hi) = (opC g s x ∧ (∀ y, lo = some y → opC g s y) ∧ (∀ y, hi = some y → opC g s y) ∧ slcsC g (lo.map (op1 s)) (hi.map (op1 s)) (op1 s x)))
    ∧ (∀ (s : LS) (h : LH) (kt : TypeId) (z : Value) (ok : Bool) (m q : Operand), pval s h (.lkp kt z ok m q) = lkpV z ok (mapE h (op1 s m)) (keyV (op1 s q)))
    ∧ (∀ (P : Program) (g : Bool) (s : LS) (h : LH) (kt : TypeId) (z : Value) (ok : Bool) (m q : Operand), pvc P g s h (.lkp kt z ok m q) = (opC g s m ∧ opC g s q ∧ mapLive h (op1 s m) ∧ keyC (op1 s q) ∧ keysOk P kt (mapE h (op1 s m)) (keyV (op1 s q))))
    ∧ (∀ (s : LS) (kt : TypeId) (z : Value) (ok : Bool) (m q : Operand), pfact s (.lkp kt z ok m q) = True)
    ∧ (∀ (h : LH) (a b : Nat), mapE h (.mp a b) = mapO (h.f a).2)
    ∧ (∀ (h : LH) (x : List (Value × LV)), mapE h (.rmp x) = x)
    ∧ (∀ (x : List (Value × LV)), mapO (.map x) = x)
    ∧ (∀ (h : LH) (a b : Nat), mapLive h (.mp a b) = (a < h.n ∧ (h.f a).1 = b ∧ (h.f a).2.isMap = true))
    ∧ (∀ (h : LH) (x : List (Value × LV)), mapLive h (.rmp x) = True)
    ∧ (∀ (x : List (Value × LV)), (LO.map x).isMap = true)
    ∧ (∀ (x : Value), keyV (.sc x) = x)
    ∧ (∀ (x : List LV), keyV (.agg x) = .agg (x.map scV).toArray)
    ∧ (∀ (x : Value), scV (.sc x) = x)
    ∧ (∀ (x : Value), keyC (.sc x) = True)
    ∧ (∀ (x : List LV), keyC (.agg x) = scalC x)
    ∧ (scalC [] = True)
    ∧ (∀ (x : Value) (r : List LV), scalC (.sc x :: r) = scalC r)
    ∧ (∀ (z : Value) (es : List (Value × LV)) (x : Value), lkpV z true es x = .tup [(mfind es x).getD (liftC z), .sc (.bool (mfind es x).isSome)])
    ∧ (∀ (z : Value) (es : List (Value × LV)) (x : Value), lkpV z false es x = (mfind es x).getD (liftC z))
    ∧ (∀ (k : IntKind) (n : Int), liftC (.int k n) = .sc (.int k n))
    ∧ (∀ (b : Bool), liftC (.bool b) = .sc (.bool b))
    ∧ (∀ (b : ByteArray), liftC (.string b) = .sc (.string b))
    ∧ (∀ (h : LH) (a b : Nat), lenV h (.mp a b) = lenMO (h.f a).2)
    ∧ (∀ (x : List (Value × LV)), lenMO (.map x) = .sc (.int .i64 x.length))
    ∧ (∀ (h : LH) (x : List (Value × LV)), lenV h (.rmp x) = .sc (.int .i64 x.length))
    ∧ (∀ (h : LH) (q a b : Nat), lenC h q (.mp a b) = (q = 2 ∧ a < h.n ∧ (h.f a).1 = b ∧ (h.f a).2.isMap = true))
    ∧ (∀ (h : LH) (q : Nat) (x : List (Value × LV)), lenC h q (.rmp x) = (q = 2))
    ∧ (∀ (x : List (Value × LV)), lenF (.rmp x) = True)
    ∧ (∀ (s : LS) (x : Operand), pfact s (.mov x) = True)
    ∧ (∀ (s : LS) (c a b : Operand), pfact s (.pick c a b) = True)
    ∧ (∀ (s : LS) (o : BinOp) (x y : Operand), pfact s (.bin o x y) = True)
    ∧ (∀ (s : LS) (o : Bool) (x y : Operand), pfact s (.binb o x y) = True)
    ∧ (∀ (s : LS) (o : UnOp) (x : Operand), pfact s (.un o x) = True)
    ∧ (∀ (s : LS) (o : Nat) (n : Option Nat) (x : Operand), pfact s (.part o n x) = True)
    ∧ (∀ (s : LS) (x i : Operand), pfact s (.idxs x i) = True)
    ∧ (∀ (s : LS) (l z : Nat) (n : Option Nat) (x i : Operand), pfact s (.idxa l z n x i) = True)
    ∧ (∀ (s : LS) (x : Operand) (i : Nat), pfact s (.ext x i) = True)
    ∧ (∀ (s : LS) (z : List Value) (ps : List (Nat × Nat × Operand)), pfact s (.bld z ps) = True)
    ∧ (∀ (s : LS) (k : IntKind) (x : Operand), pfact s (.cvt k x) = True)
    ∧ (∀ (s : LS) (o : Nat) (x : Operand), pfact s (.fad o x) = True)
    ∧ (∀ (s : LS) (z : Nat) (x i : Operand), pfact s (.iad z x i) = True)
    ∧ (∀ (s : LS) (l z : Nat) (x i : Operand), pfact s (.iada l z x i) = True)
    ∧ (∀ (s : LS) (n : Option Nat) (x : Operand), pfact s (.ld n x) = True)
    ∧ (∀ (s : LS) (f : FuncId) (cs : List Operand), pfact s (.mkf f cs) = True)
    ∧ (∀ (s : LS) (x : Operand), pfact s (.nilc x) = True)
    ∧ (∀ (s : LS) (y : Operand), pfact s (.ng0 y) = True)
    ∧ (∀ (s : LS) (x : Operand), pfact s (.nile x) = True)
    ∧ (∀ (s : LS) (n : Bool) (x : Operand), pfact s (.nili n x) = True)
    ∧ (∀ (s : LS) (x : Operand), pfact s (.b2s x) = True)
    ∧ (∀ (s : LS) (m : Bool) (x y : Operand), pfact s (.mx m x y) = True)
    ∧ (∀ (s : LS) (z : Nat) (x : Operand) (lo hi : Option Operand), pfact s (.slc z x lo hi) = True)
    ∧ (∀ (s : LS) (x : Operand) (lo hi : Option Operand), pfact s (.slcs x lo hi) = True)
    ∧ (∀ (s : LS) (g : Bool) (n : List CK) (x y : Operand), pfact s (.eqa g n x y) = True)
    ∧ (∀ (s : LS) (k : Nat) (x : Operand), pfact s (.len k x) = lenF (op1 s x))
    ∧ (∀ (a n : Nat) (f : Nat → List LV), lenF (.rsl a n f) = (n ≤ 9223372036854775807))
    ∧ (∀ (a b c d n : Nat), lenF (.sl a b c d n) = (n ≤ 9223372036854775807))
    ∧ (lenF .nsl = True)
    ∧ (∀ (x : ByteArray), lenF (.sc (.string x)) = True)
    ∧ (∀ (a b : Nat), lenF (.mp a b) = True)
    ∧ (∀ (c x y : Bool), selB c (.sc (.bool x)) (.sc (.bool y)) = .sc (.bool (bif c then x else y)))
    ∧ (∀ (a b : LV), selB true a b = a)
    ∧ (∀ (a b : LV), selB false a b = b)
    ∧ (∀ (b : Bool), boolOf (.sc (.bool b)) = b)
    ∧ (∀ (b : Bool), isBool (.sc (.bool b)) = True)
    ∧ (∀ (k : IntKind) (b : Int), intOfV (.sc (.int k b)) = b)
    ∧ (∀ (b : Int), isI64 (.sc (.int .i64 b)) = True)
    ∧ (∀ (b : Bool), gOk (.sc (.bool b)) = True)
    ∧ (∀ (g b : Bool), gOk (.cnd g (.sc (.bool b))) = True)
    ∧ (∀ (b : Bool), gOf true (.sc (.bool b)) = b)
    ∧ (∀ (b : Bool), gOf false (.sc (.bool b)) = !b)
    ∧ (∀ (g b : Bool), gOf true (.cnd g (.sc (.bool b))) = (g && b))
    ∧ (∀ (g b : Bool), gOf false (.cnd g (.sc (.bool b))) = (g && !b))
    ∧ (∀ (o : BinOp) (k k' : IntKind) (a b : Int), binV o (.sc (.int k a)) (.sc (.int k' b)) = binI o k a b)
    ∧ (∀ (o : BinOp) (a b : ByteArray), binV o (.sc (.string a)) (.sc (.string b)) = binS o a b)
    ∧ (∀ (g : Bool) (o : BinOp) (k k' : IntKind) (a b : Int), binC g o (.sc (.int k a)) (.sc (.int k' b)) = binIC g o k k' a b)
    ∧ (∀ (g : Bool) (o : BinOp) (a b : ByteArray), binC g o (.sc (.string a)) (.sc (.string b)) = binSC g o a b)
    ∧ (∀ (k : IntKind) (a b : Int), binI .add k a b = arV k (a + b))
    ∧ (∀ (k : IntKind) (a b : Int), binI .sub k a b = arV k (a - b))
    ∧ (∀ (k : IntKind) (a b : Int), binI .mul k a b = arV k (a * b))
    ∧ (∀ (k : IntKind) (a b : Int), binI .quo k a b = arV k (a.tdiv b))
    ∧ (∀ (k : IntKind) (a b : Int), binI .rem k a b = .sc (.int k (a.tmod b)))
    ∧ (∀ (k : IntKind) (a b : Int), binI .eql k a b = .sc (.bool (decide (a = b))))
    ∧ (∀ (k : IntKind) (a b : Int), binI .neq k a b = .sc (.bool (!decide (a = b))))
    ∧ (∀ (k : IntKind) (a b : Int), binI .lss k a b = .sc (.bool (decide (a < b))))
    ∧ (∀ (k : IntKind) (a b : Int), binI .leq k a b = .sc (.bool (decide (a ≤ b))))
    ∧ (∀ (k : IntKind) (a b : Int), binI .gtr k a b = .sc (.bool (decide (b < a))))
    ∧ (∀ (k : IntKind) (a b : Int), binI .geq k a b = .sc (.bool (decide (b ≤ a))))
    ∧ (∀ (k : IntKind) (a b : Int), binI .shl k a b = arV k (a * 2 ^ b.toNat)) :=
  ⟨(rfl),
    (fun _ _ _ _ => rfl),
    (fun _ _ _ _ => rfl),
    (fun _ _ => rfl),
    (fun _ _ => rfl),
    (fun _ _ _ => rfl),
    (fun _ _ _ _ _ => rfl),
    (fun _ _ _ => rfl),
    (fun _ _ _ _ _ => rfl),
    (fun _ _ _ => rfl),
    (fun _ _ _ _ _ => rfl),
    (fun _ _ _ => rfl),
    (fun _ _ _ _ _ => rfl),
    (fun _ _ _ _ => rfl),
    (fun _ _ _ _ _ _ => rfl),
    (fun _ _ _ _ => rfl),
    (fun _ _ _ _ _ _ => rfl),
    (fun _ _ _ _ => rfl),
    (fun _ _ _ _ _ _ => rfl),
    (fun _ _ _ _ _ => rfl),
    (fun _ _ _ _ _ _ _ => rfl),
    (fun _ _ _ _ _ _ => rfl),
    (fun _ _ _ _ _ _ _ _ => rfl),
    (fun _ _ _ _ => rfl),
    (fun _ _ _ _ _ _ => rfl),
    (fun _ _ _ _ => rfl),
    (fun _ _ _ _ _ _ => rfl),
    (fun _ _ _ => rfl),
    (fun _ _ _ _ _ => rfl),
    (fun _ _ _ _ _ _ => rfl),
    (fun _ _ _ _ _ _ _ _ => rfl),
    (fun _ _ _ _ _ => rfl),
    (fun _ _ _ _ _ _ _ => rfl),
    (fun _ _ _ _ _ _ _ => rfl),
    (fun _ _ _ _ _ _ _ _ _ => rfl),
    (fun _ _ _ _ _ _ => rfl),
    (fun _ _ _ => rfl),
    (fun _ _ => rfl),
    (fun _ => rfl),
    (fun _ _ _ => rfl),
    (fun _ _ => rfl),
    (fun _ => rfl),
    (fun _ => rfl),
    (fun _ => rfl),
    (fun _ => rfl),
    (fun _ => rfl),
    (fun _ => rfl),
    (rfl),
    (fun _ _ => rfl),
    (fun _ _ _ => rfl),
    (fun _ _ _ => rfl),
    (fun _ _ => rfl),
    (fun _ => rfl),
    (fun _ => rfl),
    (fun _ _ _ => lenV_mp),
    (fun _ => rfl),
    (fun _ _ => rfl),
    (fun _ _ _ _ => rfl),
    (fun _ _ _ => rfl),
    (fun _ => rfl),
    (fun _ _ => rfl),
    (fun _ _ _ _ => rfl),
    (fun _ _ _ _ => rfl),
    (fun _ _ _ _ => rfl),
    (fun _ _ _ => rfl),
    (fun _ _ _ _ => rfl),
    (fun _ _ _ => rfl),
    (fun _ _ _ _ _ _ => rfl),
    (fun _ _ _ => rfl),
    (fun _ _ _ => rfl),
    (fun _ _ _ => rfl),
    (fun _ _ _ => rfl),
    (fun _ _ _ _ => rfl),
    (fun _ _ _ _ _ => rfl),
    (fun _ _ _ => rfl),
    (fun _ _ _ => rfl),
    (fun _ _ => rfl),
    (fun _ _ => rfl),
    (fun _ _ => rfl),
    (fun _ _ _ => rfl),
    (fun _ _ => rfl),
    (fun _ _ _ _ => rfl),
    (fun _ _ _ _ _ => rfl),
    (fun _ _ _ _ => rfl),
    (fun _ _ _ _ _ => rfl),
    (fun _ _ _ => rfl),
    (fun _ _ _ => rfl),
    (fun _ _ _ _ _ => rfl),
    (rfl),
    (fun _ => rfl),
    (fun _ _ => rfl),
    (fun _ _ _ => rfl),
    (fun a b => selB_true a b),
    (fun a b => selB_false a b),
    (fun _ => rfl),
    (fun _ => rfl),
    (fun _ _ => rfl),
    (fun _ => rfl),
    (fun _ => rfl),
    (fun _ _ => rfl),
    (fun b => gOf_t b),
    (fun b => gOf_f b),
    (fun g b => gOf_ct g b),
    (fun g b => gOf_cf g b),
    (fun _ _ _ _ _ => rfl),
    (fun _ _ _ => rfl),
    (fun _ _ _ _ _ _ => rfl),
    (fun _ _ _ _ => rfl),
    (fun _ _ _ => rfl),
    (fun _ _ _ => rfl),
    (fun _ _ _ => rfl),
    (fun _ _ _ => rfl),
    (fun _ _ _ => rfl),
    (fun _ _ _ => rfl),
    (fun _ _ _ => rfl),
    (fun _ _ _ => rfl),
    (fun _ _ _ => rfl),
    (fun _ _ _ => rfl),
    (fun _ _ _ => rfl),
    (fun _ _ _ => rfl)⟩

theorem EVQ2 :
    (∀ (k : IntKind) (a b : Int), binI .shr k a b = .sc (.int k (a.fdiv (2 ^ b.toNat))))
    ∧ (∀ (g : Bool) (k k' : IntKind) (a b : Int), binIC g .add k k' a b = (k = k' ∧ arC g k (a + b)))
    ∧ (∀ (g : Bool) (k k' : IntKind) (a b : Int), binIC g .sub k k' a b = (k = k' ∧ arC g k (a - b)))
    ∧ (∀ (g : Bool) (k k' : IntKind) (a b : Int), binIC g .mul k k' a b = (k = k' ∧ arC g k (a * b)))
    ∧ (∀ (g : Bool) (k k' : IntKind) (a b : Int), binIC g .quo k k' a b = (k = k' ∧ (g = true → b ≠ 0) ∧ arC g k (a.tdiv b)))
    ∧ (∀ (g : Bool) (k k' : IntKind) (a b : Int), binIC g .rem k k' a b = (k = k' ∧ (g = true → b ≠ 0)))
    ∧ (∀ (g : Bool) (k k' : IntKind) (a b : Int), binIC g .eql k k' a b = (k = k'))
    ∧ (∀ (g : Bool) (k k' : IntKind) (a b : Int), binIC g .neq k k' a b = (k = k'))
    ∧ (∀ (g : Bool) (k k' : IntKind) (a b : Int), binIC g .lss k k' a b = (k = k'))
    ∧ (∀ (g : Bool) (k k' : IntKind) (a b : Int), binIC g .leq k k' a b = (k = k'))
    ∧ (∀ (g : Bool) (k k' : IntKind) (a b : Int), binIC g .gtr k k' a b = (k = k'))
    ∧ (∀ (g : Bool) (k k' : IntKind) (a b : Int), binIC g .geq k k' a b = (k = k'))
    ∧ (∀ (g : Bool) (k k' : IntKind) (a b : Int), binIC g .shl k k' a b = ((g = true → 0 ≤ b ∧ b.toNat ≤ k.bits) ∧ arC g k (a * 2 ^ b.toNat)))
    ∧ (∀ (g : Bool) (k k' : IntKind) (a b : Int), binIC g .shr k k' a b = (g = true → 0 ≤ b ∧ b.toNat ≤ k.bits))
    ∧ (∀ (x : Int), arV .i64 x = .sc (.int .i64 x))
    ∧ (∀ (g : Bool) (x : Int), arC g .i64 x = (g = true → In64 x))
    ∧ (∀ (x : Int), arV .u8 x = .sc (.int .u8 (IntKind.u8.wrap x)))
    ∧ (∀ (g : Bool) (x : Int), arC g .u8 x = True)
    ∧ (∀ (x : Int), arV .u16 x = .sc (.int .u16 (IntKind.u16.wrap x)))
    ∧ (∀ (g : Bool) (x : Int), arC g .u16 x = True)
    ∧ (∀ (x : Int), arV .u32 x = .sc (.int .u32 (IntKind.u32.wrap x)))
    ∧ (∀ (g : Bool) (x : Int), arC g .u32 x = True)
    ∧ (∀ (x : Int), arV .u64 x = .sc (.int .u64 (IntKind.u64.wrap x)))
    ∧ (∀ (g : Bool) (x : Int), arC g .u64 x = True)
    ∧ (∀ (x : Int), arV .i8 x = .sc (.int .i8 (IntKind.i8.wrap x)))
    ∧ (∀ (g : Bool) (x : Int), arC g .i8 x = True)
    ∧ (∀ (x : Int), arV .i16 x = .sc (.int .i16 (IntKind.i16.wrap x)))
    ∧ (∀ (g : Bool) (x : Int), arC g .i16 x = True)
    ∧ (∀ (x : Int), arV .i32 x = .sc (.int .i32 (IntKind.i32.wrap x)))
    ∧ (∀ (g : Bool) (x : Int), arC g .i32 x = True)
    ∧ (∀ (a b : ByteArray), binS .add a b = .sc (.string (a ++ b)))
    ∧ (∀ (a b : ByteArray), binS .eql a b = .sc (.bool (decide (a = b))))
    ∧ (∀ (a b : ByteArray), binS .neq a b = .sc (.bool (!decide (a = b))))
    ∧ (∀ (g : Bool) (a b : ByteArray), binSC g .add a b = (g = true → a.size + b.size ≤ 9223372036854775807))
    ∧ (∀ (g : Bool) (a b : ByteArray), binSC g .eql a b = (True))
    ∧ (∀ (g : Bool) (a b : ByteArray), binSC g .neq a b = (True))
    ∧ (∀ (n x y : Bool), binbV n (.sc (.bool x)) (.sc (.bool y)) = .sc (.bool (xor n (decide (x = y)))))
    ∧ (∀ (k : IntKind) (a : Int), unV .neg (.sc (.int k a)) = arV k (0 - a))
    ∧ (∀ (g : Bool) (k : IntKind) (a : Int), unC g .neg (.sc (.int k a)) = arC g k (0 - a))
    ∧ (∀ (b : Bool), unV .not (.sc (.bool b)) = .sc (.bool (!b)))
    ∧ (∀ (g b : Bool), unC g .not (.sc (.bool b)) = True)
    ∧ (∀ (o : Nat) (n : Option Nat) (cs : List LV), prtV o n (.agg cs) = partV n (cs.drop o))
    ∧ (∀ (o : Nat) (n : Option Nat) (cs : List LV), prtC o n (.agg cs) = partC n (cs.drop o))
    ∧ (∀ (cs : List LV), partV none cs = cs.getD 0 .any)
    ∧ (∀ (m : Nat) (cs : List LV), partV (some m) cs = .agg (cs.take m))
    ∧ (∀ (cs : List LV), partC none cs = (1 ≤ cs.length))
    ∧ (∀ (m : Nat) (cs : List LV), partC (some m) cs = (m ≤ cs.length))
    ∧ (∀ (x : ByteArray) (k : IntKind) (i : Int), idxsV (.sc (.string x)) (.sc (.int k i)) = .sc (.int .u8 ((sbyte x i.toNat).toNat : Int)))
    ∧ (∀ (g : Bool) (x : ByteArray) (k : IntKind) (i : Int), idxsC g (.sc (.string x)) (.sc (.int k i)) = (g = true → 0 ≤ i ∧ i.toNat < x.size))
    ∧ (∀ (z : Nat) (n : Option Nat) (cs : List LV) (k : IntKind) (i : Int), idxaV z n (.agg cs) (.sc (.int k i)) = partV n (cs.drop (i.toNat * z)))
    ∧ (∀ (g : Bool) (l z : Nat) (n : Option Nat) (cs : List LV) (k : IntKind) (i : Int), idxaC g l z n (.agg cs) (.sc (.int k i)) = (g = true → (0 ≤ i ∧ i < l) ∧ partC n (cs.drop (i.toNat * z))))
    ∧ (∀ (i : Nat) (vs : List LV), extV i (.tup vs) = vs.getD i .any)
    ∧ (∀ (i : Nat) (vs : List LV), extC i (.tup vs) = (i < vs.length))
    ∧ (∀ (k j : IntKind) (i : Int), cvtV k (.sc (.int j i)) = arV k i)
    ∧ (∀ (g : Bool) (k j : IntKind) (i : Int), cvtC g k (.sc (.int j i)) = arC g k i)
    ∧ (∀ (h : LH) (a n : Nat) (f : Nat → List LV), lenV h (.rsl a n f) = .sc (.int .i64 n))
    ∧ (∀ (h : LH) (a b c d n : Nat), lenV h (.sl a b c d n) = .sc (.int .i64 n))
    ∧ (∀ (h : LH), lenV h .nsl = .sc (.int .i64 0))
    ∧ (∀ (h : LH) (x : ByteArray), lenV h (.sc (.string x)) = .sc (.int .i64 x.size))
    ∧ (∀ (h : LH) (q a n : Nat) (f : Nat → List LV), lenC h q (.rsl a n f) = (q = 1))
    ∧ (∀ (h : LH) (q a b c d n : Nat), lenC h q (.sl a b c d n) = (q = 1))
    ∧ (∀ (h : LH) (q : Nat), lenC h q .nsl = (q = 1))
    ∧ (∀ (h : LH) (q : Nat) (x : ByteArray), lenC h q (.sc (.string x)) = (q = 0))
    ∧ (∀ (o : Nat) (cs : List LV), fadV o (.rptr cs) = .rptr (cs.drop o))
    ∧ (∀ (o k v z i c : Nat), fadV o (.ptr k v z i c) = .ptr k v z i (c + o))
    ∧ (∀ (o : Nat) (cs : List LV), fadC o (.rptr cs) = (o ≤ cs.length))
    ∧ (∀ (o k v z i c : Nat), fadC o (.ptr k v z i c) = True)
    ∧ (∀ (z n : Nat) (f : Nat → List LV) (k : IntKind) (i : Int), iadV (.rsl z n f) (.sc (.int k i)) = .rptr (f i.toNat))
    ∧ (∀ (a v z o n : Nat) (k : IntKind) (i : Int), iadV (.sl a v z o n) (.sc (.int k i)) = .ptr a v z (o + i.toNat) 0)
    ∧ (∀ (h : LH) (g : Bool) (q z n : Nat) (f : Nat → List LV) (k : IntKind) (i : Int), iadC h g q (.rsl z n f) (.sc (.int k i)) = (z = q ∧ (g = true → 0 ≤ i ∧ i < n)))
    ∧ (∀ (h : LH) (g : Bool) (q a v z o n : Nat) (k : IntKind) (i : Int), iadC h g q (.sl a v z o n) (.sc (.int k i)) = (z = q ∧ a < h.n ∧ (h.f a).1 = v ∧ (g = true → 0 ≤ i ∧ i < n)))
    ∧ (∀ (z : Nat) (cs : List LV) (k : IntKind) (i : Int), iadaV z (.rptr cs) (.sc (.int k i)) = .rptr (cs.drop (i.toNat * z)))
    ∧ (∀ (z a v y j c : Nat) (k : IntKind) (i : Int), iadaV z (.ptr a v y j c) (.sc (.int k i)) = .ptr a v y j (c + i.toNat * z))
    ∧ (∀ (g : Bool) (l z : Nat) (cs : List LV) (k : IntKind) (i : Int), iadaC g l z (.rptr cs) (.sc (.int k i)) = (g = true → (0 ≤ i ∧ i < l) ∧ i.toNat * z ≤ cs.length))
    ∧ (∀ (g : Bool) (l z a v y j c : Nat) (k : IntKind) (i : Int), iadaC g l z (.ptr a v y j c) (.sc (.int k i)) = (g = true → 0 ≤ i ∧ i < l))
    ∧ (∀ (n : Option Nat) (h : LH) (cs : List LV), ldV n h (.rptr cs) = partV n cs)
    ∧ (∀ (n : Option Nat) (h : LH) (k v z i c : Nat), ldV n h (.ptr k v z i c) = ldO n i c (h.f k).2)
    ∧ (∀ (g : Bool) (n : Option Nat) (h : LH) (cs : List LV), ldC g n h (.rptr cs) = (g = true → partC n cs))
    ∧ (∀ (g : Bool) (n : Option Nat) (h : LH) (k v z i c : Nat), ldC g n h (.ptr k v z i c) = (k < h.n ∧ (h.f k).1 = v ∧ ldOC g n z i c (h.f k).2))
    ∧ (∀ (n : Option Nat) (i c : Nat) (cs : List LV), ldO n i c (.box cs) = partV n (cs.drop c))
    ∧ (∀ (n : Option Nat) (i c : Nat) (xs : List Int), ldO n i c (.ints xs) = .sc (.int .i64 (xs.getD i 0)))
    ∧ (∀ (n : Option Nat) (i c : Nat) (xs : List Bool), ldO n i c (.bools xs) = .sc (.bool (xs.getD i false)))
    ∧ (∀ (n : Option Nat) (i c a b : Nat) (f : Nat → List LV), ldO n i c (.row a b f) = partV n ((f i).drop c))
    ∧ (∀ (g : Bool) (n : Option Nat) (z i c : Nat) (cs : List LV), ldOC g n z i c (.box cs) = (i = 0 ∧ z = 0 ∧ partC n (cs.drop c)))
    ∧ (∀ (g : Bool) (n : Option Nat) (z i c : Nat) (xs : List Int), ldOC g n z i c (.ints xs) = (n = none ∧ c = 0 ∧ z = 1 ∧ (g = true → i < xs.length)))
    ∧ (∀ (g : Bool) (n : Option Nat) (z i c : Nat) (xs : List Bool), ldOC g n z i c (.bools xs) = (n = none ∧ c = 0 ∧ z = 1 ∧ (g = true → i < xs.length)))
    ∧ (∀ (g : Bool) (n : Option Nat) (z i c a b : Nat) (f : Nat → List LV), ldOC g n z i c (.row a b f) = (a = z ∧ c + n.getD 1 ≤ z ∧ (g = true → i < b ∧ (f i).length = z)))
    ∧ (∀ (cs : List LV), nilcC (.rptr cs) = True)
    ∧ (∀ (a b c d e : Nat), nilcC (.ptr a b c d e) = True)
    ∧ (∀ (f : FuncId) (cs : List LV), nilcC (.fn f cs) = True)
    ∧ (∀ (s : LS), opL s [] = [])
    ∧ (∀ (s : LS) (o z : Nat) (x : Operand) (r : List (Nat × Nat × Operand)), opL s ((o, z, x) :: r) = (o, z, op1 s x) :: opL s r)
    ∧ (∀ (g : Bool) (s : LS), opLC g s [] = True)
    ∧ (∀ (g : Bool) (s : LS) (o z : Nat) (x : Operand) (r : List (Nat × Nat × Operand)), opLC g s ((o, z, x) :: r) = (opC g s x ∧ opLC g s r))
    ∧ (∀ (cs : List LV), fillV cs [] = cs)
    ∧ (∀ (cs : List LV) (o z : Nat) (v : LV) (r : List (Nat × Nat × LV)), fillV cs ((o, z, v) :: r) = fillV (setL cs o (flat v)) r)
    ∧ (∀ (n : Nat), fillC n [] = True)
    ∧ (∀ (n o z : Nat) (v : LV) (r : List (Nat × Nat × LV)), fillC n ((o, z, v) :: r) = (flatOk v = true ∧ (flat v).length = z ∧ o + z ≤ n ∧ fillC n r))
    ∧ (∀ (cs : List LV) (o : Nat), setL cs o [] = cs)
    ∧ (∀ (cs : List LV) (o : Nat) (x : LV) (r : List LV), setL cs o (x :: r) = setL (cs.set o x) (o + 1) r)
    ∧ (∀ (x : Value), flat (.sc x) = [.sc x])
    ∧ (∀ (x : Value), flatOk (.sc x) = true)
    ∧ (∀ (x : Value), isCell (.sc x) = true)
    ∧ (flat (.nsl) = [.nsl])
    ∧ (flatOk (.nsl) = true)
    ∧ (isCell (.nsl) = true)
    ∧ (∀ (x : List LV), flat (.agg x) = x)
    ∧ (∀ (x : List LV), flatOk (.agg x) = true)
    ∧ (∀ (a b : Nat) (f : Nat → List LV), flat (.rsl a b f) = [.rsl a b f])
    ∧ (∀ (a b : Nat) (f : Nat → List LV), flatOk (.rsl a b f) = true)
    ∧ (∀ (a b : Nat) (f : Nat → List LV), isCell (.rsl a b f) = true)
    ∧ (∀ (x : List LV), flat (.rptr x) = [.rptr x])
    ∧ (∀ (x : List LV), flatOk (.rptr x) = true)
    ∧ (∀ (x : List LV), isCell (.rptr x) = true)
    ∧ (∀ (x : List (Value × LV)), flat (.rmp x) = [.rmp x])
    ∧ (∀ (x : List (Value × LV)), flatOk (.rmp x) = true)
    ∧ (∀ (x : List (Value × LV)), isCell (.rmp x) = true)
    ∧ (∀ (a b c d e : Nat), flat (.sl a b c d e) = [.sl a b c d e])
    ∧ (∀ (a b c d e : Nat), flatOk (.sl a b c d e) = true)
    ∧ (∀ (a b c d e : Nat), isCell (.sl a b c d e) = true) :=
  ⟨(fun _ _ _ => rfl),
    (fun _ _ _ _ _ => rfl),
    (fun _ _ _ _ _ => rfl),
    (fun _ _ _ _ _ => rfl),
    (fun _ _ _ _ _ => rfl),
    (fun _ _ _ _ _ => rfl),
    (fun _ _ _ _ _ => rfl),
    (fun _ _ _ _ _ => rfl),
    (fun _ _ _ _ _ => rfl),
    (fun _ _ _ _ _ => rfl),
    (fun _ _ _ _ _ => rfl),
    (fun _ _ _ _ _ => rfl),
    (fun _ _ _ _ _ => rfl),
    (fun _ _ _ _ _ => rfl),
    (fun _ => rfl),
    (fun _ _ => rfl),
    (fun _ => rfl),
    (fun _ _ => rfl),
    (fun _ => rfl),
    (fun _ _ => rfl),
    (fun _ => rfl),
    (fun _ _ => rfl),
    (fun _ => rfl),
    (fun _ _ => rfl),
    (fun _ => rfl),
    (fun _ _ => rfl),
    (fun _ => rfl),
    (fun _ _ => rfl),
    (fun _ => rfl),
    (fun _ _ => rfl),
    (fun _ _ => rfl),
    (fun _ _ => rfl),
    (fun _ _ => rfl),
    (fun _ _ _ => rfl),
    (fun _ _ _ => rfl),
    (fun _ _ _ => rfl),
    (fun _ _ _ => rfl),
    (fun _ _ => rfl),
    (fun _ _ _ => rfl),
    (fun _ => rfl),
    (fun _ _ => rfl),
    (fun _ _ _ => rfl),
    (fun _ _ _ => rfl),
    (fun _ => rfl),
    (fun _ _ => rfl),
    (fun _ => rfl),
    (fun _ _ => rfl),
    (fun _ _ _ => rfl),
    (fun _ _ _ _ => rfl),
    (fun _ _ _ _ _ => rfl),
    (fun _ _ _ _ _ _ _ => rfl),
    (fun _ _ => rfl),
    (fun _ _ => rfl),
    (fun _ _ _ => rfl),
    (fun _ _ _ _ => rfl),
    (fun _ _ _ _ => rfl),
    (fun _ _ _ _ _ _ => rfl),
    (fun _ => rfl),
    (fun _ _ => rfl),
    (fun _ _ _ _ _ => rfl),
    (fun _ _ _ _ _ _ _ => rfl),
    (fun _ _ => rfl),
    (fun _ _ _ => rfl),
    (fun _ _ => rfl),
    (fun _ _ _ _ _ _ => rfl),
    (fun _ _ => rfl),
    (fun _ _ _ _ _ _ => rfl),
    (fun _ _ _ _ _ => rfl),
    (fun _ _ _ _ _ _ _ => rfl),
    (fun _ _ _ _ _ _ _ _ => rfl),
    (fun _ _ _ _ _ _ _ _ _ _ => rfl),
    (fun _ _ _ _ => rfl),
    (fun _ _ _ _ _ _ _ _ => rfl),
    (fun _ _ _ _ _ _ => rfl),
    (fun _ _ _ _ _ _ _ _ _ _ => rfl),
    (fun _ _ _ => rfl),
    (fun _ _ _ _ _ _ _ => rfl),
    (fun _ _ _ _ => rfl),
    (fun _ _ _ _ _ _ _ _ => rfl),
    (fun _ _ _ _ => rfl),
    (fun _ _ _ _ => rfl),
    (fun _ _ _ _ => rfl),
    (fun _ _ _ _ _ _ => rfl),
    (fun _ _ _ _ _ _ => rfl),
    (fun _ _ _ _ _ _ => rfl),
    (fun _ _ _ _ _ _ => rfl),
    (fun _ _ _ _ _ _ _ _ => rfl),
    (fun _ => rfl),
    (fun _ _ _ _ _ => rfl),
    (fun _ _ => rfl),
    (fun _ => rfl),
    (fun _ _ _ _ _ => rfl),
    (fun _ _ => rfl),
    (fun _ _ _ _ _ _ => rfl),
    (fun _ => rfl),
    (fun _ _ _ _ _ => rfl),
    (fun _ => rfl),
    (fun _ _ _ _ _ => rfl),
    (fun _ _ => rfl),
    (fun _ _ _ _ => rfl),
    (fun _ => rfl),
    (fun _ => rfl),
    (fun _ => rfl),
    (rfl),
    (rfl),
    (rfl),
    (fun _ => rfl),
    (fun _ => rfl),
    (fun _ _ _ => rfl),
    (fun _ _ _ => rfl),
    (fun _ _ _ => rfl),
    (fun _ => rfl),
    (fun _ => rfl),
    (fun _ => rfl),
    (fun _ => rfl),
    (fun _ => rfl),
    (fun _ => rfl),
    (fun _ _ _ _ _ => rfl),
    (fun _ _ _ _ _ => rfl),
    (fun _ _ _ _ _ => rfl)⟩

theorem EVQ3 :
    (∀ (a b c d e : Nat), flat (.ptr a b c d e) = [.ptr a b c d e])
    ∧ (∀ (a b c d e : Nat), flatOk (.ptr a b c d e) = true)
    ∧ (∀ (a b c d e : Nat), isCell (.ptr a b c d e) = true)
    ∧ (∀ (a b : Nat), flat (.mp a b) = [.mp a b])
    ∧ (∀ (a b : Nat), flatOk (.mp a b) = true)
    ∧ (∀ (a b : Nat), isCell (.mp a b) = true)
    ∧ (∀ (f : FuncId) (x : List LV), flat (.fn f x) = [.fn f x])
    ∧ (∀ (f : FuncId) (x : List LV), flatOk (.fn f x) = true)
    ∧ (∀ (f : FuncId) (x : List LV), isCell (.fn f x) = true)
    ∧ (∀ (b : Bool), flat (.ifc b) = [.ifc b])
    ∧ (∀ (b : Bool), flatOk (.ifc b) = true)
    ∧ (∀ (b : Bool), isCell (.ifc b) = true)
    ∧ (∀ (h : LH) (el : TypeId) (b : Nat) (a v z o n : Nat) (yv : LV) (k : LV → LH → Prop), apsK h el b (.sl a v z o n) yv k = (yBC yv ∧ 0 < (yB yv).length ∧ z = 1 ∧ o = 0 ∧ a < h.n ∧ (h.f a).1 = v ∧ bytC el (h.f a).2 ∧ (bytL (h.f a).2).length = n ∧ appRoom b (n + (yB yv).length) ∧ evh (h.set a (v + 1, .byt el (bytL (h.f a).2 ++ yB yv))) (fun h' => k (.sl a (v + 1) 1 0 (n + (yB yv).length)) h')))
    ∧ (∀ (h : LH) (el : TypeId) (b : Nat) (yv : LV) (k : LV → LH → Prop), apsK h el b .nsl yv k = (yBC yv ∧ 0 < (yB yv).length ∧ appRoom b (yB yv).length ∧ evh (h.push (.byt el (yB yv))) (fun h' => k (.sl h.n 0 1 0 (yB yv).length) h')))
    ∧ (∀ (x : ByteArray), yBC (.sc (.string x)) = True)
    ∧ (∀ (x : ByteArray), yB (.sc (.string x)) = strI x)
    ∧ (∀ (z m : Nat) (f : Nat → List LV), yBC (.rsl z m f) = (z = 1 ∧ ∀ i, i < m → isU8 ((f i).getD 0 .any)))
    ∧ (∀ (t el : TypeId) (xs : List Int), bytC el (.byt t xs) = (t = el))
    ∧ (∀ (t : TypeId) (xs : List Int), bytL (.byt t xs) = xs)
    ∧ (∀ (n : Option Nat) (i c : Nat) (t : TypeId) (cs : List LV), ldO n i c (.tbox t cs) = partV n (cs.drop c))
    ∧ (∀ (g : Bool) (n : Option Nat) (z i c : Nat) (t : TypeId) (cs : List LV), ldOC g n z i c (.tbox t cs) = (i = 0 ∧ z = 0 ∧ partC n (cs.drop c)))
    ∧ (∀ (t : TypeId) (cs : List LV) (i c : Nat) (v : LV), stV1 (.tbox t cs) i c v = .tbox t (cs.set c v))
    ∧ (∀ (t : TypeId) (cs : List LV) (z i c : Nat) (v : LV), stC1 (.tbox t cs) z i c v = (z = 0 ∧ i = 0 ∧ c < cs.length ∧ isCell v = true))
    ∧ (∀ (q : Nat) (t : TypeId) (cs : List LV), belowO q (.tbox t cs) = allC q cs)
    ∧ (∀ (q : Nat) (t : TypeId) (xs : List Int), belowO q (.byt t xs) = True)
    ∧ (liftC1 (.pointer none) = .sc (.pointer none))
    ∧ (∀ (s : LS), op1 s (.const .nilIface) = .sc .nilIface)
    ∧ (∀ (t t' : TypeId) (cs cs' : List LV), (LO.tbox t cs = LO.tbox t' cs') = (t = t' ∧ cs = cs'))
    ∧ (∀ (t t' : TypeId) (xs xs' : List Int), (LO.byt t xs = LO.byt t' xs') = (t = t' ∧ xs = xs'))
    ∧ (∀ (x : ByteArray), s2bC (.sc (.string x)) = (x.size ≤ maxLen))
    ∧ (∀ (xs : List Int), bysR xs = .rsl 1 xs.length (bysG xs))
    ∧ (∀ (xs : List Int) (i : Nat), bysG xs i = [.sc (.int .u8 (xs.getD i 0))])
    ∧ (∀ (P : Program) (h : LH) (kt : TypeId) (a b : Nat) (kv vv : LV) (k : LV → LH → Prop), mupK P h kt (.mp a b) kv vv k = (a < h.n ∧ (h.f a).1 = b ∧ (h.f a).2.isMap = true ∧ keysOk P kt (mapO (h.f a).2) (keyV kv) ∧ evh (h.set a (b, .map (mput (mapO (h.f a).2) (keyV kv) vv))) (fun h' => k .any h')))
    ∧ (∀ (f : FuncId) (cs : List LV), fnOf (.fn f cs) = f)
    ∧ (∀ (f : FuncId) (cs : List LV), capsOf (.fn f cs) = cs)
    ∧ (∀ (f : FuncId) (cs : List LV), isFn (.fn f cs) = True)
    ∧ (∀ (h : LH) (n a v z i c : Nat) (vv : LV) (k : LV → LH → Prop), stK h n (.ptr a v z i c) vv k = (flatOk vv = true ∧ (flat vv).length = n ∧ a < h.n ∧ (h.f a).1 = v ∧ stC (h.f a).2 z i c (flat vv) ∧ evh (h.set a (v, stV (h.f a).2 i c (flat vv))) (fun h' => k .any h')))
    ∧ (∀ (h : LH) (kd z b a v y o n : Nat) (yv : LV) (k : LV → LH → Prop), appK h kd z b (.sl a v y o n) yv k = (yC h z yv ∧ ykC kd h yv ∧ y = z ∧ a < h.n ∧ (h.f a).1 = v ∧ kdC kd (h.f a).2 ∧ rngC (h.f a).2 z o n ∧ appRoom b (n + yN yv) ∧ evh (h.set a (v + 1, appO kd z o n (h.f a).2 h yv)) (fun h' => k (.sl a (v + 1) z 0 (n + yN yv)) h')))
    ∧ (∀ (h : LH) (kd z b : Nat) (yv : LV) (k : LV → LH → Prop), appK h kd z b .nsl yv k = (yC h z yv ∧ ykC kd h yv ∧ 0 < yN yv ∧ appRoom b (yN yv) ∧ evh (h.push (appO kd z 0 0 .dead h yv)) (fun h' => k (.sl h.n 0 z 0 (yN yv)) h')))
    ∧ (∀ (ob : LO) (i c : Nat), stV ob i c [] = ob)
    ∧ (∀ (ob : LO) (i c : Nat) (v : LV) (r : List LV), stV ob i c (v :: r) = stV (stV1 ob i c v) i (c + 1) r)
    ∧ (∀ (ob : LO) (z i c : Nat), stC ob z i c [] = True)
    ∧ (∀ (ob : LO) (z i c : Nat) (v : LV) (r : List LV), stC ob z i c (v :: r) = (stC1 ob z i c v ∧ stC (stV1 ob i c v) z i (c + 1) r))
    ∧ (∀ (cs : List LV) (i c : Nat) (v : LV), stV1 (.box cs) i c v = .box (cs.set c v))
    ∧ (∀ (xs : List Int) (i c : Nat) (v : LV), stV1 (.ints xs) i c v = .ints (xs.set i (intOfV v)))
    ∧ (∀ (xs : List Bool) (i c : Nat) (v : LV), stV1 (.bools xs) i c v = .bools (xs.set i (boolOf v)))
    ∧ (∀ (a b : Nat) (f : Nat → List LV) (i c : Nat) (v : LV), stV1 (.row a b f) i c v = .row a b (fun j => if j = i then (f i).set c v else f j))
    ∧ (∀ (cs : List LV) (z i c : Nat) (v : LV), stC1 (.box cs) z i c v = (z = 0 ∧ i = 0 ∧ c < cs.length ∧ isCell v = true))
    ∧ (∀ (xs : List Int) (z i c : Nat) (v : LV), stC1 (.ints xs) z i c v = (z = 1 ∧ c = 0 ∧ i < xs.length ∧ isI64 v))
    ∧ (∀ (xs : List Bool) (z i c : Nat) (v : LV), stC1 (.bools xs) z i c v = (z = 1 ∧ c = 0 ∧ i < xs.length ∧ isBool v))
    ∧ (∀ (a b : Nat) (f : Nat → List LV) (z i c : Nat) (v : LV), stC1 (.row a b f) z i c v = (z = a ∧ c < z ∧ i < b ∧ (f i).length = z ∧ isCell v = true))
    ∧ (∀ (z n : Nat) (zr : List Value), repO 1 z n zr = .ints (List.replicate n 0))
    ∧ (∀ (z n : Nat) (zr : List Value), repO 2 z n zr = .bools (List.replicate n false))
    ∧ (∀ (z n : Nat) (zr : List Value), repO 0 z n zr = .row z n (fun _ => zr.map liftC1))
    ∧ (∀ (z n : Nat) (cs : List LV), litO 1 z n cs = .ints (cs.map intOfV))
    ∧ (∀ (z n : Nat) (cs : List LV), litO 2 z n cs = .bools (cs.map boolOf))
    ∧ (∀ (z n : Nat) (cs : List LV), litO 0 z n cs = .row z n (fun i => (cs.drop (i * z)).take z))
    ∧ (∀ (cs : List LV), litC 1 cs = allI cs)
    ∧ (∀ (cs : List LV), litC 2 cs = allB cs)
    ∧ (∀ (cs : List LV), litC 0 cs = True)
    ∧ (allI [] = True)
    ∧ (∀ (x : LV) (r : List LV), allI (x :: r) = (isI64 x ∧ allI r))
    ∧ (allB [] = True)
    ∧ (∀ (x : LV) (r : List LV), allB (x :: r) = (isBool x ∧ allB r))
    ∧ (∀ (n z : Nat) (zr : List Value), repZ n z zr = (List.range (n * z)).map (fun i => (zr.map liftC1).getD (i % z) .any))
    ∧ (∀ (a b c d m : Nat), yN (.sl a b c d m) = m)
    ∧ (∀ (a m : Nat) (f : Nat → List LV), yN (.rsl a m f) = m)
    ∧ (yN .nsl = 0)
    ∧ (∀ (h : LH) (q a b c d m : Nat), yC h q (.sl a b c d m) = (c = q ∧ a < h.n ∧ (h.f a).1 = b ∧ rngC (h.f a).2 q d m))
    ∧ (∀ (h : LH) (q a m : Nat) (f : Nat → List LV), yC h q (.rsl a m f) = (a = q))
    ∧ (∀ (h : LH) (q : Nat), yC h q .nsl = True)
    ∧ (∀ (h : LH) (y : LV), ykC 1 h y = yIntsC h y)
    ∧ (∀ (h : LH) (y : LV), ykC 2 h y = yBoolsC h y)
    ∧ (∀ (h : LH) (y : LV), ykC 0 h y = True)
    ∧ (∀ (h : LH) (a b c d m : Nat), yIntsC h (.sl a b c d m) = isInts (h.f a).2)
    ∧ (∀ (h : LH) (a b c d m : Nat), yBoolsC h (.sl a b c d m) = isBools (h.f a).2)
    ∧ (∀ (h : LH) (a b c d m : Nat), yInts h (.sl a b c d m) = ((intsO (h.f a).2).drop d).take m)
    ∧ (∀ (h : LH) (a b c d m : Nat), yBools h (.sl a b c d m) = ((boolsO (h.f a).2).drop d).take m)
    ∧ (∀ (h : LH) (a m : Nat) (f : Nat → List LV), yInts h (.rsl a m f) = (List.range m).map (fun i => intOfV ((f i).getD 0 .any)))
    ∧ (∀ (h : LH) (a m : Nat) (f : Nat → List LV), yIntsC h (.rsl a m f) = ∀ i, i < m → isI64 ((f i).getD 0 .any))
    ∧ (∀ (h : LH) (a b c d m : Nat), yF h (.sl a b c d m) = fun i => elO (h.f a).2 (d + i))
    ∧ (∀ (h : LH) (a m : Nat) (f : Nat → List LV), yF h (.rsl a m f) = f)
    ∧ (∀ (xs : List Int) (q o m : Nat), rngC (.ints xs) q o m = (q = 1 ∧ o + m ≤ xs.length))
    ∧ (∀ (xs : List Bool) (q o m : Nat), rngC (.bools xs) q o m = (q = 1 ∧ o + m ≤ xs.length))
    ∧ (∀ (a n : Nat) (f : Nat → List LV) (q o m : Nat), rngC (.row a n f) q o m = (a = q ∧ o + m ≤ n ∧ ∀ i, i < m → (f (o + i)).length = q))
    ∧ (∀ (ob : LO), kdC 1 ob = isInts ob)
    ∧ (∀ (ob : LO), kdC 2 ob = isBools ob)
    ∧ (∀ (ob : LO), kdC 0 ob = True)
    ∧ (∀ (xs : List Int), isInts (.ints xs) = True)
    ∧ (∀ (xs : List Bool), isBools (.bools xs) = True)
    ∧ (∀ (xs : List Int), intsO (.ints xs) = xs)
    ∧ (∀ (xs : List Bool), boolsO (.bools xs) = xs)
    ∧ (intsO .dead = [])
    ∧ (boolsO .dead = [])
    ∧ (∀ (z o n : Nat) (ob : LO) (h : LH) (y : LV), appO 1 z o n ob h y = .ints (((intsO ob).drop o).take n ++ yInts h y))
    ∧ (∀ (z o n : Nat) (ob : LO) (h : LH) (y : LV), appO 2 z o n ob h y = .bools (((boolsO ob).drop o).take n ++ yBools h y))
    ∧ (∀ (z o n : Nat) (ob : LO) (h : LH) (y : LV), appO 0 z o n ob h y = .row z (n + yN y) (fun i => if i < n then elO ob (o + i) else yF h y (i - n)))
    ∧ (∀ (xs : List Int) (i : Nat), elO (.ints xs) i = [.sc (.int .i64 (xs.getD i 0))])
    ∧ (∀ (xs : List Bool) (i : Nat), elO (.bools xs) i = [.sc (.bool (xs.getD i false))])
    ∧ (∀ (a b : Nat) (f : Nat → List LV) (i : Nat), elO (.row a b f) i = f i)
    ∧ (∀ (l : List (Nat × LO)) (ob : LO), (mkH l).push ob = mkH (l ++ [(0, ob)]))
    ∧ (∀ (l : List (Nat × LO)) (k : Nat) (vo : Nat × LO), k < l.length → (mkH l).set k vo = mkH (l.set k vo))
    ∧ (∀ (l : List (Nat × LO)), (mkH l).n = l.length)
    ∧ (∀ (l : List (Nat × LO)) (k : Nat), (mkH l).f k = l.getD k (0, .dead))
    ∧ (LH.empty = mkH [])
    ∧ (∀ (i : Nat), argS [] i = fun _ => .any)
    ∧ (∀ (x : LV) (r : List LV) (i : Nat), argS (x :: r) i = upd (argS r (i + 1)) i x)
    ∧ (mkS [] = fun _ => .any)
    ∧ (∀ (i : Nat) (v : LV) (r : List (Nat × LV)), mkS ((i, v) :: r) = upd (mkS r) i v)
    ∧ (∀ (s : LS) (h : LH) (sv : List (Nat × LV)) (ho : List (Nat × LO)), weakTo s h sv ho = (ho.length ≤ h.n ∧ weakS ho.length s sv ∧ weakH ho.length h 0 ho))
    ∧ (∀ (n : Nat) (s : LS), weakS n s [] = True)
    ∧ (∀ (n : Nat) (s : LS) (i : Nat) (v : LV) (r : List (Nat × LV)), weakS n s ((i, v) :: r) = (s i = v ∧ belowV n v ∧ weakS n s r))
    ∧ (∀ (n : Nat) (h : LH) (k : Nat), weakH n h k [] = True)
    ∧ (∀ (n : Nat) (h : LH) (k : Nat) (vo : Nat × LO) (r : List (Nat × LO)), weakH n h k (vo :: r) = (h.f k = vo ∧ belowO n vo.2 ∧ weakH n h (k + 1) r))
    ∧ (∀ (q : Nat) (x : Value), belowC q (.sc x) = True)
    ∧ (∀ (q : Nat) (x : Value), belowV q (.sc x) = True)
    ∧ (∀ (q : Nat), belowC q (.nsl) = True)
    ∧ (∀ (q : Nat), belowV q (.nsl) = True)
    ∧ (∀ (q : Nat) (x : List LV), belowV q (.agg x) = allC q x)
    ∧ (∀ (q : Nat) (a b : Nat) (f : Nat → List LV), belowC q (.rsl a b f) = True) :=
  ⟨(fun _ _ _ _ _ => rfl),
    (fun _ _ _ _ _ => rfl),
    (fun _ _ _ _ _ => rfl),
    (fun _ _ => rfl),
    (fun _ _ => rfl),
    (fun _ _ => rfl),
    (fun _ _ => rfl),
    (fun _ _ => rfl),
    (fun _ _ => rfl),
    (fun _ => rfl),
    (fun _ => rfl),
    (fun _ => rfl),
    (fun _ _ _ _ _ _ _ _ _ _ => rfl),
    (fun _ _ _ _ _ => rfl),
    (fun _ => rfl),
    (fun _ => rfl),
    (fun _ _ _ => rfl),
    (fun _ _ _ => rfl),
    (fun _ _ => rfl),
    (fun _ _ _ _ _ => rfl),
    (fun _ _ _ _ _ _ _ => rfl),
    (fun _ _ _ _ _ => rfl),
    (fun _ _ _ _ _ _ => rfl),
    (fun _ _ _ => rfl),
    (fun _ _ _ => rfl),
    (rfl),
    (fun _ => rfl),
    (fun _ _ _ _ => tbox_inj),
    (fun _ _ _ _ => byt_inj),
    (fun _ => rfl),
    (fun _ => rfl),
    (fun _ _ => rfl),
    (fun _ _ _ _ _ _ _ _ => rfl),
    (fun _ _ => rfl),
    (fun _ _ => rfl),
    (fun _ _ => rfl),
    (fun _ _ _ _ _ _ _ _ _ => rfl),
    (fun _ _ _ _ _ _ _ _ _ _ _ => rfl),
    (fun _ _ _ _ _ _ => rfl),
    (fun _ _ _ => rfl),
    (fun _ _ _ _ _ => rfl),
    (fun _ _ _ _ => rfl),
    (fun _ _ _ _ _ _ => rfl),
    (fun _ _ _ _ => rfl),
    (fun _ _ _ _ => rfl),
    (fun _ _ _ _ => rfl),
    (fun _ _ _ _ _ _ => rfl),
    (fun _ _ _ _ _ => rfl),
    (fun _ _ _ _ _ => rfl),
    (fun _ _ _ _ _ => rfl),
    (fun _ _ _ _ _ _ _ => rfl),
    (fun _ _ _ => rfl),
    (fun _ _ _ => rfl),
    (fun _ _ _ => rfl),
    (fun _ _ _ => rfl),
    (fun _ _ _ => rfl),
    (fun _ _ _ => rfl),
    (fun _ => rfl),
    (fun _ => rfl),
    (fun _ => rfl),
    (rfl),
    (fun _ _ => rfl),
    (rfl),
    (fun _ _ => rfl),
    (fun _ _ _ => rfl),
    (fun _ _ _ _ _ => rfl),
    (fun _ _ _ => rfl),
    (rfl),
    (fun _ _ _ _ _ _ _ => rfl),
    (fun _ _ _ _ _ => rfl),
    (fun _ _ => rfl),
    (fun _ _ => rfl),
    (fun _ _ => rfl),
    (fun _ _ => rfl),
    (fun _ _ _ _ _ _ => yIntsC_sl),
    (fun _ _ _ _ _ _ => yBoolsC_sl),
    (fun _ _ _ _ _ _ => yInts_sl),
    (fun _ _ _ _ _ _ => yBools_sl),
    (fun _ _ _ _ => rfl),
    (fun _ _ _ _ => rfl),
    (fun _ _ _ _ _ _ => rfl),
    (fun _ _ _ _ => rfl),
    (fun _ _ _ _ => rfl),
    (fun _ _ _ _ => rfl),
    (fun _ _ _ _ _ _ => rfl),
    (fun _ => rfl),
    (fun _ => rfl),
    (fun _ => rfl),
    (fun _ => rfl),
    (fun _ => rfl),
    (fun _ => rfl),
    (fun _ => rfl),
    (rfl),
    (rfl),
    (fun _ _ _ _ _ _ => rfl),
    (fun _ _ _ _ _ _ => rfl),
    (fun _ _ _ _ _ _ => rfl),
    (fun _ _ => rfl),
    (fun _ _ => rfl),
    (fun _ _ _ _ => rfl),
    (fun l ob => mkH_push l ob),
    (fun l k vo hk => mkH_set l k vo hk),
    (fun _ => rfl),
    (fun _ _ => rfl),
    (mkH_nil.symm),
    (fun _ => rfl),
    (fun _ _ _ => rfl),
    (rfl),
    (fun _ _ _ => rfl),
    (fun _ _ _ _ => rfl),
    (fun _ _ => rfl),
    (fun _ _ _ _ _ => rfl),
    (fun _ _ _ => rfl),
    (fun _ _ _ _ _ => rfl),
    (fun _ _ => rfl),
    (fun _ _ => rfl),
    (fun _ => rfl),
    (fun _ => rfl),
    (fun _ _ => rfl),
    (fun _ _ _ _ => rfl)⟩

theorem EVQ4 :
    (∀ (q : Nat) (a b : Nat) (f : Nat → List LV), belowV q (.rsl a b f) = True)
    ∧ (∀ (q : Nat) (x : List LV), belowC q (.rptr x) = True)
    ∧ (∀ (q : Nat) (x : List LV), belowV q (.rptr x) = True)
    ∧ (∀ (q : Nat) (x : List (Value × LV)), belowC q (.rmp x) = True)
    ∧ (∀ (q : Nat) (x : List (Value × LV)), belowV q (.rmp x) = True)
    ∧ (∀ (q : Nat) (a b c d e : Nat), belowC q (.sl a b c d e) = (a < q))
    ∧ (∀ (q : Nat) (a b c d e : Nat), belowV q (.sl a b c d e) = (a < q))
    ∧ (∀ (q : Nat) (a b c d e : Nat), belowC q (.ptr a b c d e) = (a < q))
    ∧ (∀ (q : Nat) (a b c d e : Nat), belowV q (.ptr a b c d e) = (a < q))
    ∧ (∀ (q : Nat) (a b : Nat), belowC q (.mp a b) = (a < q))
    ∧ (∀ (q : Nat) (a b : Nat), belowV q (.mp a b) = (a < q))
    ∧ (∀ (q : Nat) (f : FuncId) (x : List LV), belowV q (.fn f x) = allC q x)
    ∧ (∀ (q : Nat) (x : List LV), belowV q (.tup x) = allC q x)
    ∧ (∀ (q : Nat), belowC q (.any) = True)
    ∧ (∀ (q : Nat), belowV q (.any) = True)
    ∧ (∀ (q : Nat) (b : Bool), belowC q (.ifc b) = True)
    ∧ (∀ (q : Nat) (b : Bool), belowV q (.ifc b) = True)
    ∧ (∀ (q : Nat) (a v z o n : Nat), belowB q (.sl a v z o n) = (a < q))
    ∧ (∀ (q : Nat) (a v z o n : Nat), belowB q (.ptr a v z o n) = (a < q))
    ∧ (∀ (q : Nat) (a v : Nat), belowB q (.mp a v) = (a < q))
    ∧ (∀ (q : Nat) (x : Value), belowB q (.sc x) = True)
    ∧ (∀ (q : Nat) (z n : Nat) (f : Nat → List LV), belowB q (.rsl z n f) = True)
    ∧ (∀ (q : Nat) (x : List LV), belowB q (.rptr x) = True)
    ∧ (∀ (q : Nat) (x : List (Value × LV)), belowB q (.rmp x) = True)
    ∧ (∀ (q : Nat) (x : Bool), belowB q (.ifc x) = True)
    ∧ (∀ (q : Nat), belowB q .any = True)
    ∧ (∀ (q : Nat), belowB q .nsl = True)
    ∧ (∀ (q : Nat) (f : FuncId) (x : List LV), belowC q (.fn f x) = allBl q x)
    ∧ (∀ (q : Nat) (x : List LV), belowC q (.agg x) = allBl q x)
    ∧ (∀ (q : Nat), allBl q [] = True)
    ∧ (∀ (q : Nat) (x : LV) (r : List LV), allBl q (x :: r) = (belowB q x ∧ allBl q r))
    ∧ (∀ (q : Nat), allC q [] = True)
    ∧ (∀ (q : Nat) (x : LV) (r : List LV), allC q (x :: r) = (belowC q x ∧ allC q r))
    ∧ (∀ (q : Nat) (cs : List LV), belowO q (.box cs) = allC q cs)
    ∧ (∀ (q : Nat) (xs : List Int), belowO q (.ints xs) = True)
    ∧ (∀ (q : Nat) (xs : List Bool), belowO q (.bools xs) = True)
    ∧ (∀ (q : Nat), belowO q .dead = True)
    ∧ (∀ (q a b : Nat) (f : Nat → List LV), belowO q (.row a b f) = ∀ i, i < b → allC q ((f i).take a))
    ∧ (∀ (l : List RX) (r : LV) (s : LS) (h : LH), fin l r s h = (resCL s h l ∧ roTo3 h (outV s h l) r))
    ∧ (∀ (s : LS) (h : LH), resCL s h [] = True)
    ∧ (∀ (s : LS) (h : LH) (x : RX) (r : List RX), resCL s h (x :: r) = (resC s h x ∧ resCL s h r))
    ∧ (∀ (s : LS) (h : LH) (t : Nat), resC s h (.tmp t) = True)
    ∧ (∀ (s : LS) (h : LH) (a : Nat) (n : Option Nat), resC s h (.cell a n) = ldC true n h (s a))
    ∧ (∀ (s : LS) (h : LH) (t : Nat), resV s h (.tmp t) = s t)
    ∧ (∀ (s : LS) (h : LH) (a : Nat) (n : Option Nat), resV s h (.cell a n) = ldV n h (s a))
    ∧ (∀ (s : LS) (h : LH) (x : RX), outV s h [x] = resV s h x)
    ∧ (∀ (s : LS) (h : LH), outV s h [] = .tup [])
    ∧ (∀ (s : LS) (h : LH) (x y : RX) (r : List RX), outV s h (x :: y :: r) = .tup (resV s h x :: resV s h y :: r.map (resV s h)))
    ∧ (∀ (h : LH) (v : Value) (r : LV), roTo3 h (.sc v) r = (.sc v = r))
    ∧ (∀ (h : LH) (v : Value) (r : LV), roTo2 h (.sc v) r = (.sc v = r))
    ∧ (∀ (h : LH) (v : Value) (r : LV), roTo1 h (.sc v) r = (.sc v = r))
    ∧ (∀ (h : LH) (cs ds : List LV), roTo3 h (.tup cs) (.tup ds) = roToL2 h cs ds)
    ∧ (∀ (h : LH) (cs ds : List LV), roTo3 h (.agg cs) (.agg ds) = roToL h cs ds)
    ∧ (∀ (h : LH) (cs ds : List LV), roTo2 h (.agg cs) (.agg ds) = roToL h cs ds)
    ∧ (∀ (h : LH), roToL h [] [] = True)
    ∧ (∀ (h : LH) (x y : LV) (r q : List LV), roToL h (x :: r) (y :: q) = (roTo1 h x y ∧ roToL h r q))
    ∧ (∀ (h : LH), roToL2 h [] [] = True)
    ∧ (∀ (h : LH) (x y : LV) (r q : List LV), roToL2 h (x :: r) (y :: q) = (roTo2 h x y ∧ roToL2 h r q))
    ∧ (∀ (h : LH) (a n : Nat) (f : Nat → List LV), roTo1 h .nsl (.rsl a n f) = (n = 0))
    ∧ (∀ (h : LH) (a b c d e z n : Nat) (f : Nat → List LV), roTo1 h (.sl a b c d e) (.rsl z n f) = (z = c ∧ n = e ∧ a < h.n ∧ (h.f a).1 = b ∧ rngC (h.f a).2 c d e ∧ (∀ i, i < e → elO (h.f a).2 (d + i) = f i ∧ roishL (f i))))
    ∧ (∀ (h : LH) (a n : Nat) (f : Nat → List LV) (r : LV), roTo1 h (.rsl a n f) r = (.rsl a n f = r))
    ∧ (∀ (h : LH) (a n : Nat) (f : Nat → List LV), roTo2 h .nsl (.rsl a n f) = (n = 0))
    ∧ (∀ (h : LH) (a b c d e z n : Nat) (f : Nat → List LV), roTo2 h (.sl a b c d e) (.rsl z n f) = (z = c ∧ n = e ∧ a < h.n ∧ (h.f a).1 = b ∧ rngC (h.f a).2 c d e ∧ (∀ i, i < e → elO (h.f a).2 (d + i) = f i ∧ roishL (f i))))
    ∧ (∀ (h : LH) (a n : Nat) (f : Nat → List LV) (r : LV), roTo2 h (.rsl a n f) r = (.rsl a n f = r))
    ∧ (∀ (h : LH) (a n : Nat) (f : Nat → List LV), roTo3 h .nsl (.rsl a n f) = (n = 0))
    ∧ (∀ (h : LH) (a b c d e z n : Nat) (f : Nat → List LV), roTo3 h (.sl a b c d e) (.rsl z n f) = (z = c ∧ n = e ∧ a < h.n ∧ (h.f a).1 = b ∧ rngC (h.f a).2 c d e ∧ (∀ i, i < e → elO (h.f a).2 (d + i) = f i ∧ roishL (f i))))
    ∧ (∀ (h : LH) (a n : Nat) (f : Nat → List LV) (r : LV), roTo3 h (.rsl a n f) r = (.rsl a n f = r))
    ∧ (∀ (h : LH) (a b : Nat) (ds : List (Value × LV)), roTo1 h (.mp a b) (.rmp ds) = (a < h.n ∧ (h.f a).1 = b ∧ (h.f a).2 = .map ds ∧ ∀ kv, kv ∈ ds → roish1 kv.2))
    ∧ (∀ (h : LH) (a b : Nat) (ds : List (Value × LV)), roTo2 h (.mp a b) (.rmp ds) = (a < h.n ∧ (h.f a).1 = b ∧ (h.f a).2 = .map ds ∧ ∀ kv, kv ∈ ds → roish1 kv.2))
    ∧ (∀ (h : LH) (a b : Nat) (ds : List (Value × LV)), roTo3 h (.mp a b) (.rmp ds) = (a < h.n ∧ (h.f a).1 = b ∧ (h.f a).2 = .map ds ∧ ∀ kv, kv ∈ ds → roish1 kv.2))
    ∧ (∀ (x : List (Value × LV)), roish1 (.rmp x) = True)
    ∧ (∀ (x : Bool), roish1 (.ifc x) = True)
    ∧ (∀ (x : Bool), roish2 (.ifc x) = True)
    ∧ (∀ (q : Nat) (x : List (Value × LV)), belowO q (.map x) = allC q (x.map (·.2)))
    ∧ (roishL2 [] = True)
    ∧ (∀ (x : LV) (r : List LV), roishL2 (x :: r) = (roish2 x ∧ roishL2 r))
    ∧ (∀ (x : List LV), roish2 (.agg x) = roishL x)
    ∧ (∀ (x : Value), roish2 (.sc x) = True)
    ∧ (∀ (a b : Nat) (f : Nat → List LV), roish2 (.rsl a b f) = True)
    ∧ (roish2 .nsl = True)
    ∧ (∀ (x : List LV), roish2 (.rptr x) = True)
    ∧ (∀ (x : List (Value × LV)), roish2 (.rmp x) = True)
    ∧ (∀ (f : FuncId) (x : List LV), roish2 (.fn f x) = roishL x)
    ∧ (∀ (x : Value), scal (.sc x) = True)
    ∧ (∀ (x : Value), scal2 (.sc x) = True)
    ∧ (∀ (x : Value), scal1 (.sc x) = True)
    ∧ (∀ (x : List LV), scal (.tup x) = scalL2 x)
    ∧ (∀ (x : List LV), scal (.agg x) = scalL x)
    ∧ (∀ (x : List LV), scal2 (.agg x) = scalL x)
    ∧ (scalL [] = True)
    ∧ (scalL2 [] = True)
    ∧ (∀ (x : LV) (r : List LV), scalL (x :: r) = (scal1 x ∧ scalL r))
    ∧ (∀ (x : LV) (r : List LV), scalL2 (x :: r) = (scal2 x ∧ scalL2 r))
    ∧ (roishL [] = True)
    ∧ (∀ (x : LV) (r : List LV), roishL (x :: r) = (roish1 x ∧ roishL r))
    ∧ (∀ (x : Value), roish1 (.sc x) = True)
    ∧ (roish1 .nsl = True)
    ∧ (∀ (a b : Nat) (f : Nat → List LV), roish1 (.rsl a b f) = True)
    ∧ (∀ (x : List LV), roish1 (.rptr x) = True) :=
  ⟨(fun _ _ _ _ => rfl),
    (fun _ _ => rfl),
    (fun _ _ => rfl),
    (fun _ _ => rfl),
    (fun _ _ => rfl),
    (fun _ _ _ _ _ _ => rfl),
    (fun _ _ _ _ _ _ => rfl),
    (fun _ _ _ _ _ _ => rfl),
    (fun _ _ _ _ _ _ => rfl),
    (fun _ _ _ => rfl),
    (fun _ _ _ => rfl),
    (fun _ _ _ => rfl),
    (fun _ _ => rfl),
    (fun _ => rfl),
    (fun _ => rfl),
    (fun _ _ => rfl),
    (fun _ _ => rfl),
    (fun _ _ _ _ _ _ => rfl),
    (fun _ _ _ _ _ _ => rfl),
    (fun _ _ _ => rfl),
    (fun _ _ => rfl),
    (fun _ _ _ _ => rfl),
    (fun _ _ => rfl),
    (fun _ _ => rfl),
    (fun _ _ => rfl),
    (fun _ => rfl),
    (fun _ => rfl),
    (fun _ _ _ => rfl),
    (fun _ _ => rfl),
    (fun _ => rfl),
    (fun _ _ _ => rfl),
    (fun _ => rfl),
    (fun _ _ _ => rfl),
    (fun _ _ => rfl),
    (fun _ _ => rfl),
    (fun _ _ => rfl),
    (fun _ => rfl),
    (fun _ _ _ _ => rfl),
    (fun _ _ _ _ => rfl),
    (fun _ _ => rfl),
    (fun _ _ _ _ => rfl),
    (fun _ _ _ => rfl),
    (fun _ _ _ _ => rfl),
    (fun _ _ _ => rfl),
    (fun _ _ _ _ => rfl),
    (fun _ _ _ => rfl),
    (fun _ _ => rfl),
    (fun _ _ _ _ _ => rfl),
    (fun _ _ _ => roTo3_sc),
    (fun _ _ _ => roTo2_sc),
    (fun _ _ _ => roTo1_sc),
    (fun _ _ _ => rfl),
    (fun _ _ _ => rfl),
    (fun _ _ _ => rfl),
    (fun _ => rfl),
    (fun _ _ _ _ _ => rfl),
    (fun _ => rfl),
    (fun _ _ _ _ _ => rfl),
    (fun _ _ _ _ => rfl),
    (fun _ _ _ _ _ _ _ _ _ => rfl),
    (fun _ _ _ _ _ => roTo1_rsl),
    (fun _ _ _ _ => rfl),
    (fun _ _ _ _ _ _ _ _ _ => rfl),
    (fun _ _ _ _ _ => roTo2_rsl),
    (fun _ _ _ _ => rfl),
    (fun _ _ _ _ _ _ _ _ _ => rfl),
    (fun _ _ _ _ _ => roTo3_rsl),
    (fun _ _ _ _ => rfl),
    (fun _ _ _ _ => rfl),
    (fun _ _ _ _ => rfl),
    (fun _ => rfl),
    (fun _ => rfl),
    (fun _ => rfl),
    (fun _ _ => rfl),
    (rfl),
    (fun _ _ => rfl),
    (fun _ => rfl),
    (fun _ => rfl),
    (fun _ _ _ => rfl),
    (rfl),
    (fun _ => rfl),
    (fun _ => rfl),
    (fun _ _ => rfl),
    (fun _ => rfl),
    (fun _ => rfl),
    (fun _ => rfl),
    (fun _ => rfl),
    (fun _ => rfl),
    (fun _ => rfl),
    (rfl),
    (rfl),
    (fun _ _ => rfl),
    (fun _ _ => rfl),
    (rfl),
    (fun _ _ => rfl),
    (fun _ => rfl),
    (rfl),
    (fun _ _ _ => rfl),
    (fun _ => rfl)⟩

end Go.Proofs.YtdfiicpikcdokaaGreatDoor
namespace Go.Proofs.YtdfiicpikcdokaaGreatDoor
set_option linter.unusedSimpArgs false
set_option linter.unusedVariables false
open Go.RowKit

theorem lops_mono {P : Program} : ∀ {l : List LX} {K K' : LS → LH → Prop} {s : LS} {h : LH}, lops P l K s h → (∀ s h, K s h → K' s h) → lops P l K' s h
  | [], _, _, _, _, hw, hk => hk _ _ hw
  | _ :: _, _, _, _, _, ⟨v, h', h1, h2⟩, hk => ⟨v, h', h1, fun hf => lops_mono (h2 hf) hk⟩
theorem lopsE_mono {P : Program} : ∀ {m : List LX} {K K' : LS → LH → Prop} {s : LS} {h : LH}, lopsE P m K s h → (∀ s h, K s h → K' s h) → lopsE P m K' s h
  | [], _, _, _, _, hw, hk => hk _ _ hw
  | _ :: _, _, _, _, _, ⟨v, h', h1, h2⟩, hk => ⟨v, h', h1, lopsE_mono h2 hk⟩
theorem lopsA_mono {P : Program} : ∀ {m : List (List LX)} {K K' : LS → LH → Prop} {s : LS} {h : LH}, lopsA P m K s h → (∀ s h, K s h → K' s h) → lopsA P m K' s h
  | [], _, _, _, _, _, _ => trivial
  | _ :: _, _, _, _, _, ⟨h1, h2⟩, hk => ⟨lopsE_mono h1 hk, lopsA_mono h2 hk⟩
theorem lopsD_mono {P : Program} {m : List (List LX)} : ∀ {l : List LX} {K K' : LS → LH → Prop} {s : LS} {h : LH}, lopsD P l m K s h → (∀ s h, K s h → K' s h) → lopsD P l m K' s h
  | [], _, _, _, _, hw, hk => lopsA_mono hw hk
  | _ :: _, _, _, _, _, ⟨v, h1, h2⟩, hk => ⟨v, h1, lopsD_mono h2 hk⟩
theorem lwp_mono {P : Program} {nb : Nat} {c : LC} : ∀ {K K' : LS → LH → Prop} {E E' : Nat → LS → LH → Prop} {T T' : LS → LH → Prop} {s : LS} {h : LH}, lwp P nb c K E T s h → (∀ s h, K s h → K' s h) → (∀ j s h, E j s h → E' j s h) → (∀ s h, T s h → T' s h) → lwp P nb c K' E' T' s h := by
  induction c with
  | skip => intro K K' E E' T T' s h hw hk _ _; exact hk _ _ hw
  | reg l => intro K K' E E' T T' s h hw hk _ _; exact lops_mono (l := l) hw hk
  | dreg l lf => intro K K' E E' T T' s h hw hk _ _; exact lopsD_mono (l := l) hw hk
  | seq a b iha ihb => intro K K' E E' T T' s h hw hk he ht; exact iha (K := fun s h => lwp P nb b K E T s h) hw (fun _ _ hx => ihb hx hk he ht) he ht
  | seqj a b iha ihb =>
    intro K K' E E' T T' s h hw hk he ht
    exact iha (K := fun s h => ∃ s' h', Wk nb s h s' h' ∧ lwp P nb b K E T s' h') hw (fun _ _ ⟨s', h', h1, h2⟩ => ⟨s', h', h1, ihb h2 hk he ht⟩) he ht
  | cond c a b iha ihb =>
    intro K K' E E' T T' s h hw hk he ht
    simp only [lwp] at hw ⊢
    exact ⟨hw.1, hw.2.1, fun hg => iha (hw.2.2.1 hg) hk he ht, fun hg => ihb (hw.2.2.2 hg) hk he ht⟩
  | block id a iha =>
    intro K K' E E' T T' s h hw hk he ht
    simp only [lwp] at hw ⊢
    refine iha hw hk (fun j s h hx => ?_) ht
    by_cases e : j = id
    · rw [if_pos e] at hx ⊢; exact hk _ _ hx
    · rw [if_neg e] at hx ⊢; exact he _ _ _ hx
  | loop a iha =>
    intro K K' E E' T T' s h hw hk he ht
    simp only [lwp] at hw ⊢
    obtain ⟨α, I, sv, ho, μ, x0, h0, h1, h2, h3⟩ := hw
    exact ⟨α, I, sv, ho, μ, x0, h0, h1, h2, fun x hx => iha (h3 x hx) (fun _ _ h => h) he ht⟩
  | exit id => intro K K' E E' T T' s h hw _ he _; exact he _ _ _ hw
  | ret => intro K K' E E' T T' s h hw _ _ ht; exact ht _ _ hw
theorem lwp_mono_k {P : Program} {nb : Nat} {c : LC} {K K' : LS → LH → Prop} {E : Nat → LS → LH → Prop} {T : LS → LH → Prop} {s : LS} {h : LH} (hw : lwp P nb c K E T s h) (hk : ∀ s h, K s h → K' s h) : lwp P nb c K' E T s h :=
  lwp_mono hw hk (fun _ _ _ h => h) (fun _ _ h => h)
theorem lwp_join {P : Program} {nb : Nat} {a b : LC} {K : LS → LH → Prop} {E : Nat → LS → LH → Prop} {T : LS → LH → Prop} {s : LS} {h : LH}
    {α : Type} (I : α → Prop) (sv : α → List (Nat × LV)) (ho : α → List (Nat × LO)) (h2 : ∀ x, nb ≤ (ho x).length)
    (h1 : lwp P nb a (fun s h => ∃ x, I x ∧ weakTo s h (sv x) (ho x)) E T s h) (h3 : ∀ x, I x → lwp P nb b K E T (mkS (sv x)) (mkH (ho x))) : @lwpJ P nb a b ⟨K, E, T⟩ s h :=
  lwp_mono_k (c := a) h1 fun _ _ ⟨x, hx, hw⟩ => ⟨_, _, .inr (.inl ⟨_, _, h2 x, hw, rfl, rfl⟩), h3 x hx⟩
theorem lwp_loop {P : Program} {nb : Nat} {a : LC} {E : Nat → LS → LH → Prop} {T : LS → LH → Prop} {s : LS} {h : LH}
    {α : Type} (I : α → Prop) (sv : α → List (Nat × LV)) (ho : α → List (Nat × LO)) (μ : α → Nat) (x0 : α) (h0 : I x0) (h1 : weakTo s h (sv x0) (ho x0)) (h2 : ∀ x, nb ≤ (ho x).length)
    (h3 : ∀ x, I x → lwp P nb a (fun s' h' => ∃ y, I y ∧ weakTo s' h' (sv y) (ho y) ∧ μ y < μ x) E T (mkS (sv x)) (mkH (ho x))) : @lwpL P nb a ⟨E, T⟩ s h :=
  ⟨α, I, sv, ho, μ, x0, h0, h1, h2, h3⟩
theorem lwp_for {P : Program} {nb : Nat} {a : LC} {E : Nat → LS → LH → Prop} {T : LS → LH → Prop} {s : LS} {h : LH}
    {α : Type} (n : Nat) (I : Nat → α → Prop) (sv : Nat → α → List (Nat × LV)) (ho : Nat → α → List (Nat × LO)) (x0 : α) (h0 : I 0 x0) (h1 : weakTo s h (sv 0 x0) (ho 0 x0)) (h2 : ∀ i x, nb ≤ (ho i x).length)
    (h3 : ∀ i x, i ≤ n → I i x → lwp P nb a (fun s' h' => i < n ∧ ∃ y, I (i + 1) y ∧ weakTo s' h' (sv (i + 1) y) (ho (i + 1) y)) E T (mkS (sv i x)) (mkH (ho i x))) : @lwpL P nb a ⟨E, T⟩ s h := by
  refine lwp_loop (α := Nat × α) (fun q => q.1 ≤ n ∧ I q.1 q.2) (fun q => sv q.1 q.2) (fun q => ho q.1 q.2) (fun q => n - q.1) (0, x0) ⟨Nat.zero_le _, h0⟩ h1 (fun q => h2 _ _) ?_
  rintro ⟨i, x⟩ ⟨hi, hx⟩
  refine lwp_mono_k (h3 i x hi hx) ?_
  rintro s' h' ⟨hi', y, hy, hw⟩
  refine ⟨(i + 1, y), ⟨by simp only; omega, hy⟩, hw, by simp only; omega⟩
theorem callK_ro {P : Program} {f : FuncId} {al : List LV} {h : LH} {k : LV → LH → Prop} {r : LV} (he : Ev P f al r) (ha : roishL2 al) (hk : k r h) : @callK P f al h ⟨k⟩ := ⟨r, h, lcall_ro he ha, hk⟩
theorem callK_frz {P : Program} {f : FuncId} {al al' : List LV} {h : LH} {k : LV → LH → Prop} {r : LV} (he : Ev P f al' r) (ha : roToL2 h al al') (hs : scal r) (hk : k r h) : @callK P f al h ⟨k⟩ := ⟨r, h, lcall_frz he ha hs, hk⟩
theorem qCallK_ro {P : Program} {f : FuncId} {al : List LV} {h : LH} {k : LV → Prop} {r : LV} (he : Ev P f al r) (ha : roishL2 al) (hk : k r) : @qCallK P f al h ⟨k⟩ := ⟨r, lcall_ro he ha, hk⟩
theorem eCallK_ro {P : Program} {f : FuncId} {al : List LV} {k : LV → Prop} {r : LV} (he : Ev P f al r) (ha : roishL2 al) (hk : k r) : @eCallK P f al ⟨k⟩ := ⟨r, fun _ => lcall_ro he ha, hk⟩
theorem geCallK_ro {P : Program} {g : Bool} {f : FuncId} {al : List LV} {k : LV → Prop} (r : LV) (he : g = true → Ev P f al r) (ha : g = true → roishL2 al) (hk : k r) : @geCallK P g f al ⟨k⟩ := ⟨r, fun hg _ => lcall_ro (he hg) (ha hg), hk⟩
theorem gCallK_ro {P : Program} {g : Bool} {f : FuncId} {al : List LV} {h : LH} {k : LV → LH → Prop} (r : LV) (he : g = true → Ev P f al r) (ha : g = true → roishL2 al) (hk : k (.cnd g r) h) : @gCallK P g f al h ⟨k⟩ := ⟨r, fun hg => lcall_ro (he hg) (ha hg), hk⟩
theorem gCallK_frz {P : Program} {g : Bool} {f : FuncId} {al al' : List LV} {h : LH} {k : LV → LH → Prop} (r : LV) (he : g = true → Ev P f al' r) (ha : g = true → roToL2 h al al') (hs : scal r) (hk : k (.cnd g r) h) : @gCallK P g f al h ⟨k⟩ := ⟨r, fun hg => lcall_frz (he hg) (ha hg) hs, hk⟩
end Go.Proofs.YtdfiicpikcdokaaGreatDoor
namespace Go.Proofs.YtdfiicpikcdokaaGreatDoor
set_option linter.unusedSimpArgs false
set_option linter.unusedVariables false
open Go.RowKit

def fin2 (l : List RX) (r : LV) (ho : List (Nat × LO)) (s : LS) (h : LH) : Prop := resCL s h l ∧ outV s h l = r ∧ belowV ho.length r ∧ ho.length ≤ h.n ∧ weakH ho.length h 0 ho

theorem lcall_of_lwp {P : Program} {f : FuncId} {fn : Func} {lc : LC} {l : List RX} {args : List LV} {h : LH} {r : LV} {ho : List (Nat × LO)} (hf : P.funcs[f]? = some fn) (hc : cFn P fn = some (erase lc, l)) (hle : args.length ≤ fn.ntmps) (hnb : h.n ≤ ho.length)
    (hw : lwp P h.n lc (fin2 l r ho) (fun _ _ _ => False) (fin2 l r ho) (argS args 0) h) : LCall P f args h r (mkH ho) := by
  obtain ⟨c, hb, hcc, hl⟩ := cFn_parts hc
  intro B R ι w vs hB hrep hvs ha
  refine calls_of_wp hf hb ?_
  have hgood : Good fn.ntmps B R ι h w (argS args 0) h { tmps := vs ++ Array.replicate (fn.ntmps - vs.size) undef, defers := [] } w :=
    ⟨R, ι, Trans.refl hrep hB, args_act hvs hle ha⟩
  have fin : ∀ s h1 a w', Good fn.ntmps B R ι h w s h1 a w' → fin2 l r ho s h1 →
      a.defers = [] ∧ ∃ v, (results fn a.tmps).run P w' = .ok v w' ∧ ∃ v' R' ι', Ending.returned v = .returned v' ∧ Trans B R ι h w R' ι' (mkH ho) w' ∧ Rv R' ι' (mkH ho) r v' := by
    intro s h1 a w' hg ⟨q1, q2, q3, q4, q5⟩
    obtain ⟨R1, ι1, hT, hA⟩ := hg
    obtain ⟨v, hv1, hv2⟩ := out_ok hT.rep hA hl q1
    have hfk : ∀ k, k < ho.length → (mkH ho).f k = h1.f k := by
      intro k hk
      have := (weakH_get q5 hk).1
      rw [Nat.zero_add] at this
      rw [this]
      show ho.getD k (0, .dead) = _
      rw [getD_el hk]
    have hb : ∀ k, k < (mkH ho).n → belowO (mkH ho).n (h1.f k).2 := by
      intro k hk
      have hk' : k < ho.length := hk
      have h2 := weakH_get q5 hk'
      rw [Nat.zero_add] at h2
      rw [h2.1]; exact h2.2
    refine ⟨hA.defers, v, hv1, v, R1, ι1, rfl, ⟨hT.rep.trunc q4 hfk hb, ⟨hT.mono.ro, hnb, fun k hk => ?_, fun k hk he => ?_⟩, hT.below, hT.rob, hT.size⟩, ?_⟩
    · rw [hfk k (by omega)]; exact hT.mono.ver k hk
    · rw [hfk k (by omega)] at he; exact hT.mono.same k hk he
    · rw [q2] at hv2; exact hv2.trunc (Nat.le_refl _) hfk q3
  refine lwp_ok (N := fn.ntmps) (B := B) (R0 := R) (ι0 := ι) (h0 := h) (w0 := w) c lc hcc (K := fin2 l r ho) (E := fun _ _ _ => False) (T := fin2 l r ho) ?_ ?_ ?_ _ _ _ _ hgood hw
  · intro s h a w' hg hq; exact fin s h a w' hg hq
  · intro id s h a w' _ hq; exact hq.elim
  · intro s h a w' hg hq; exact fin s h a w' hg hq
def finH (l : List RX) (r : LV) (h' : LH) (s : LS) (h : LH) : Prop := resCL s h l ∧ outV s h l = r ∧ h = h'
theorem lcall_of_lwpH {P : Program} {f : FuncId} {fn : Func} {lc : LC} {l : List RX} {args : List LV} {h : LH} {r : LV} {h' : LH} (hf : P.funcs[f]? = some fn) (hc : cFn P fn = some (erase lc, l)) (hle : args.length ≤ fn.ntmps)
    (hw : lwp P h.n lc (finH l r h') (fun _ _ _ => False) (finH l r h') (argS args 0) h) : LCall P f args h r h' := by
  obtain ⟨c, hb, hcc, hl⟩ := cFn_parts hc
  intro B R ι w vs hB hrep hvs ha
  refine calls_of_wp hf hb ?_
  have hgood : Good fn.ntmps B R ι h w (argS args 0) h { tmps := vs ++ Array.replicate (fn.ntmps - vs.size) undef, defers := [] } w :=
    ⟨R, ι, Trans.refl hrep hB, args_act hvs hle ha⟩
  have fin : ∀ s h1 a w', Good fn.ntmps B R ι h w s h1 a w' → finH l r h' s h1 →
      a.defers = [] ∧ ∃ v, (results fn a.tmps).run P w' = .ok v w' ∧ ∃ v' R' ι', Ending.returned v = .returned v' ∧ Trans B R ι h w R' ι' h' w' ∧ Rv R' ι' h' r v' := by
    rintro s h1 a w' hg ⟨q1, q2, rfl⟩
    obtain ⟨R1, ι1, hT, hA⟩ := hg
    obtain ⟨v, hv1, hv2⟩ := out_ok hT.rep hA hl q1
    exact ⟨hA.defers, v, hv1, v, R1, ι1, rfl, hT, by rw [q2] at hv2; exact hv2⟩
  refine lwp_ok (N := fn.ntmps) (B := B) (R0 := R) (ι0 := ι) (h0 := h) (w0 := w) c lc hcc (K := finH l r h') (E := fun _ _ _ => False) (T := finH l r h') ?_ ?_ ?_ _ _ _ _ hgood hw
  · intro s h a w' hg hq; exact fin s h a w' hg hq
  · intro id s h a w' _ hq; exact hq.elim
  · intro s h a w' hg hq; exact fin s h a w' hg hq
theorem callK_mut {P : Program} {f : FuncId} {al : List LV} {h : LH} {k : LV → LH → Prop} {r : LV} {h' : LH} (he : LCall P f al h r h') (hk : k r h') : @callK P f al h ⟨k⟩ := ⟨r, h', he, hk⟩
end Go.Proofs.YtdfiicpikcdokaaGreatDoor
namespace Go.Proofs.YtdfiicpikcdokaaGreatDoor
set_option linter.unusedSimpArgs false
set_option linter.unusedVariables false
open Go.RowKit

def hd1 (D : List Nat) : LV → Prop
  | .sl k _ _ _ _ => k ∈ D
  | .mp k _ => k ∈ D
  | _ => True
def hdL (D : List Nat) : List LV → Prop
  | [] => True
  | x :: r => hd1 D x ∧ hdL D r
def hdO (D : List Nat) : LO → Prop
  | .box cs => hdL D cs
  | _ => True
def hd2 (D : List Nat) (h : LH) : LV → Prop
  | .agg cs => hdL D cs
  | .ptr k _ _ _ _ => k ∈ D ∧ hdO D (h.f k).2
  | .fn _ cs => hdL D cs
  | x => hd1 D x
def hdL2 (D : List Nat) (h : LH) : List LV → Prop
  | [] => True
  | x :: r => hd2 D h x ∧ hdL2 D h r
def killH (h : LH) : List Nat → LH
  | [] => h
  | k :: r => killH (h.set k ((h.f k).1, .dead)) r

section
variable {P : Program} {N B : Nat} {R R' R0 : RO} {ι ι0 : IM} {h h0 : LH} {w w0 : World} {s : LS} {a : Act} {D : List Nat}

theorem roTo1_okD (hrep : Rep R ι h B w) (hl : RoLe R R') (hfz : ∀ k, k ∈ D → k < h.n → (h.f k).2.live = true → ((ι k).m ≠ 0 ∨ (h.f k).2.isMap = true) → R' (ι k).b = w.heap[(ι k).b]?)
    {lv r : LV} {v : Value} (hr : Rv R ι h lv v) (ht : roTo1 h lv r) (hd : hd1 D lv) : Ro R' r v := by
  unfold roTo1 at ht
  split at ht
  · subst ht
    rw [hr.nsl_inv]
    exact .rsl _ _ _ none 0 0 0 (fun _ _ => undef) (Nat.le_refl _) (by unfold maxLen; omega) (fun h => absurd h (Nat.lt_irrefl _)) (fun i hi => absurd hi (Nat.not_lt_zero _)) (fun i j hi => absurd hi (Nat.not_lt_zero _)) (fun i j c hi => absurd hi (Nat.not_lt_zero _)) (fun i j hi => absurd hi (Nat.not_lt_zero _))
  · rename_i k ver sz off len sz' n f
    have hd' : k ∈ D := hd
    obtain ⟨rfl, rfl, hk, hver, hrng, hel⟩ := ht
    obtain ⟨a, cap, rfl, _, _, hlc, hm, hcase⟩ := hr.sl_inv
    have hlen : ∀ i, i < n → (f i).length = sz' := by
      intro i hi
      rw [← (hel i hi).1]
      generalize (h.f k).2 = ob at hrng
      cases ob with
      | ints xs => exact hrng.1.symm
      | bools xs => exact hrng.1.symm
      | row s' n' f' => exact hrng.2.2 i hi
      | _ => exact hrng.elim
    have hall : ∀ i j, ∃ v, i < n → j < sz' → ∃ lv, (f i)[j]? = some lv ∧ w.cell? ⟨(ι k).b, (ι k).o + ((off + i) * sz' + j), none⟩ = some v ∧ Rv R ι h lv v ∧ plainV v = true ∧ R' (ι k).b = w.heap[(ι k).b]? := by
      intro i j
      by_cases hi : i < n
      · by_cases hj : j < sz'
        · obtain ⟨lv, v, e1, e2, e3, e4⟩ := rng_cells hrep hk hrng hi hj
          obtain ⟨_, _, _, _, g1, g2, g3⟩ := rngC_cell hrng hi hj
          rw [(hel i hi).1] at e1
          exact ⟨v, fun _ _ => ⟨lv, e1, e2, e3, e4, hfz k hd' hk g1 (.inl (fun e => g3 (hrep.empty k hk g1 g2 e)))⟩⟩
        · exact ⟨undef, fun _ h => absurd h hj⟩
      · exact ⟨undef, fun h => absurd h hi⟩
    have hall2 : ∀ i, ∃ g : Nat → Value, ∀ j, i < n → j < sz' → ∃ lv, (f i)[j]? = some lv ∧ w.cell? ⟨(ι k).b, (ι k).o + ((off + i) * sz' + j), none⟩ = some (g j) ∧ Rv R ι h lv (g j) ∧ plainV (g j) = true ∧ R' (ι k).b = w.heap[(ι k).b]? :=
      fun i => Classical.axiomOfChoice (hall i)
    obtain ⟨g, hg⟩ := Classical.axiomOfChoice hall2
    refine .rsl _ _ _ a cap (ι k).b ((ι k).o + off * sz') g hlc hm ?_ hlen ?_ ?_ ?_
    · intro h0
      rcases hcase with h9 | h9
      · omega
      · exact (h9 hver.symm).1
    · intro i j hi hj
      obtain ⟨lv, _, e2, _, _, e5⟩ := hg i j hi hj
      unfold roCell
      rw [e5]
      unfold World.cell? at e2
      simp only at e2
      have e9 : (ι k).o + off * sz' + i * sz' + j = (ι k).o + ((off + i) * sz' + j) := by rw [Nat.add_mul]; omega
      rw [e9]
      split at e2
      · rename_i c _ _ hw
        rw [hw]
        simpa using e2
      · simp at e2
    · intro i j c hi hc
      have hj : j < sz' := by
        have := (List.getElem?_eq_some_iff.1 hc).1
        rw [hlen i hi] at this; exact this
      obtain ⟨lv, e1, _, e3, _⟩ := hg i j hi hj
      rw [e1] at hc
      injection hc with hc
      subst hc
      exact roish1_ok e3 hl (roishL_get (hel i hi).2 e1)
    · intro i j hi hj
      exact (hg i j hi hj).choose_spec.2.2.2.1
  · rename_i k ver ds
    have hd' : k ∈ D := hd
    obtain ⟨hk, hver, hob, hro⟩ := ht
    obtain ⟨b, rfl, _, _, hb⟩ := hr.mp_inv
    have := hb hver.symm
    subst this
    obtain ⟨ents, clock, h1, h2, h3, h4⟩ := hrep.maps k ds hk hob
    refine .rmp ds _ ents clock ?_ h2 h3.2 (fun i kv hi => let ⟨e, a, b, _⟩ := h4 i kv hi; ⟨e, a, b⟩) (fun i kv e hi he => ?_)
    · rw [hfz k hd' hk (by rw [hob]; rfl) (.inr (by rw [hob]; rfl))]; exact h1
    · obtain ⟨e', a, _, c⟩ := h4 i kv hi
      rw [he] at a
      injection a with a
      subst a
      exact roish1_ok c hl (hro kv (List.mem_of_getElem? hi))
  · obtain ⟨rfl, hi⟩ := ht
    exact roish1_ok hr hl hi

theorem killH_n : ∀ (D : List Nat) (h : LH), (killH h D).n = h.n
  | [], _ => rfl
  | k :: r, h => by rw [killH, killH_n r]; rfl
theorem killH_f : ∀ (D : List Nat) (h : LH) (k : Nat), (killH h D).f k = if k ∈ D then ((h.f k).1, .dead) else h.f k
  | [], _, _ => by simp [killH]
  | j :: r, h, k => by
    rw [killH, killH_f r]
    have hs : (h.set j ((h.f j).1, .dead)).f k = if k = j then ((h.f j).1, LO.dead) else h.f k := rfl
    rw [hs]
    by_cases e : k = j
    · subst e; simp
    · simp [e]
theorem trans_kill (hB : B ≤ w.heap.size) (hr : Rep R ι h B w) (D : List Nat) :
    ∃ R', RoLe R R' ∧ (∀ k, k ∈ D → k < h.n → (h.f k).2.live = true → ((ι k).m ≠ 0 ∨ (h.f k).2.isMap = true) → R' (ι k).b = w.heap[(ι k).b]?) ∧ Trans B R ι h w R' ι (killH h D) w := by
  have hcl : ∀ b, ∃ o : Option Obj, (∀ k, k ∈ D → k < h.n → (h.f k).2.live = true → ((ι k).m ≠ 0 ∨ (h.f k).2.isMap = true) → b = (ι k).b → o = w.heap[b]?) ∧ ((∀ k, k ∈ D → k < h.n → (h.f k).2.live = true → ((ι k).m ≠ 0 ∨ (h.f k).2.isMap = true) → b ≠ (ι k).b) → o = R b) := by
    intro b
    by_cases hx : ∃ k, k ∈ D ∧ k < h.n ∧ (h.f k).2.live = true ∧ ((ι k).m ≠ 0 ∨ (h.f k).2.isMap = true) ∧ b = (ι k).b
    · obtain ⟨k, h1, h2, h3, h4, h5⟩ := hx
      exact ⟨w.heap[b]?, fun _ _ _ _ _ _ => rfl, fun hn => absurd h5 (hn k h1 h2 h3 h4)⟩
    · exact ⟨R b, fun k h1 h2 h3 h4 h5 => absurd ⟨k, h1, h2, h3, h4, h5⟩ hx, fun _ => rfl⟩
  obtain ⟨R', hR'⟩ := Classical.axiomOfChoice hcl
  have hle : RoLe R R' := by
    intro b o hb
    have : R' b = R b := (hR' b).2 fun k h1 h2 h3 h4 h5 => by
      have := (hr.base k h2 h3 h4).2.2
      rw [← h5, hb] at this; simp at this
    rw [this]; exact hb
  have hfz : ∀ k, k ∈ D → k < h.n → (h.f k).2.live = true → ((ι k).m ≠ 0 ∨ (h.f k).2.isMap = true) → R' (ι k).b = w.heap[(ι k).b]? := fun k h1 h2 h3 h4 => (hR' _).1 k h1 h2 h3 h4 rfl
  have hn := killH_n D h
  have hlv : ∀ k, ((killH h D).f k).2.live = true → k ∉ D ∧ (killH h D).f k = h.f k := by
    intro k hk
    rw [killH_f] at hk ⊢
    by_cases e : k ∈ D
    · rw [if_pos e] at hk; simp [LO.live] at hk
    · rw [if_neg e]; exact ⟨e, rfl⟩
  have hmono : Mono R ι h R' ι (killH h D) := ⟨hle, by omega, fun k _ => by rw [killH_f]; split <;> exact Nat.le_refl _, fun _ _ _ => rfl⟩
  refine ⟨R', hle, hfz, ⟨?_, ?_, ?_, ?_, ?_, ?_, ?_, hr.gl.mono hle⟩, hmono, Below.refl _ _, fun b hb => ?_, hB⟩
  · intro b o hb
    by_cases hx : ∃ k, k ∈ D ∧ k < h.n ∧ (h.f k).2.live = true ∧ ((ι k).m ≠ 0 ∨ (h.f k).2.isMap = true) ∧ b = (ι k).b
    · obtain ⟨k, h1, h2, h3, h4, rfl⟩ := hx
      rw [hfz k h1 h2 h3 h4] at hb; exact hb
    · rw [(hR' b).2 fun k h1 h2 h3 h4 h5 => hx ⟨k, h1, h2, h3, h4, h5⟩] at hb
      exact hr.ro b o hb
  · intro k hk h1 h2 h3
    obtain ⟨_, e⟩ := hlv k h1
    rw [e] at h1 h2 ⊢
    obtain ⟨cl, el, q1, q2, q3, q4, q5⟩ := (hr.cells k (by omega) h1 h2 h3).ex
    exact ⟨cl, el, q1, q2, q3, q4, fun i c lv hx => let ⟨v, a1, a2⟩ := q5 i c lv hx; ⟨v, a1, a2.mono hmono⟩⟩
  · intro k hk h1 h2 h3
    obtain ⟨_, e⟩ := hlv k h1
    rw [e] at h1 h2 ⊢
    exact hr.empty k (by omega) h1 h2 h3
  · intro k hk h1 h2
    obtain ⟨hD, e⟩ := hlv k h1
    rw [e] at h1 h2
    obtain ⟨g1, g2, g3⟩ := hr.base k (by omega) h1 h2
    refine ⟨g1, g2, ?_⟩
    rw [(hR' _).2 fun j j1 j2 j3 j4 j5 => hD (by rw [hr.apart k j (by omega) j2 h1 j3 h2 j4 j5]; exact j1)]
    exact g3
  · intro k k' hk hk' h1 h2 h3 h4
    obtain ⟨_, e⟩ := hlv k h1
    obtain ⟨_, e'⟩ := hlv k' h2
    rw [e] at h1 h3
    rw [e'] at h2 h4
    exact hr.apart k k' (by omega) (by omega) h1 h2 h3 h4
  · intro k es hk he
    obtain ⟨_, e⟩ := hlv k (by rw [he]; rfl)
    rw [e] at he
    obtain ⟨ents, clock, q1, q2, q3, q4⟩ := hr.maps k es (by omega) he
    exact ⟨ents, clock, q1, q2, q3, fun i kv hkv => let ⟨en, a1, a2, a3⟩ := q4 i kv hkv; ⟨en, a1, a2, a3.mono hmono⟩⟩
  · intro k hk
    rw [killH_f]
    split
    · exact trivial
    · exact hr.ty k (by omega)
  · exact (hR' b).2 fun k h1 h2 h3 h4 h5 => by
      have := (hr.base k h2 h3 h4).1
      omega
end

theorem EVA :
    (∀ (p : Prop), (True ∧ p) = p)
    ∧ (∀ (p : Prop), (p ∧ True) = p)
    ∧ (∀ (p : Prop), (p ∧ p) = p)
    ∧ (∀ {α : Type}, List.length ([] : List α) = 0)
    ∧ (∀ {α : Type} {a : α} {xs : List α}, List.length (a :: xs) = List.length xs + 1)
    ∧ (∀ {α : Type} (xs : List α), [] ++ xs = xs)
    ∧ (∀ {α : Type} {a : α} {xs bs : List α}, a :: xs ++ bs = a :: (xs ++ bs))
    ∧ (∀ {α : Type} {x : α} {xs : List α} {d : α}, List.getD (x :: xs) 0 d = x)
    ∧ (∀ {α : Type} {x : α} {xs : List α} {n : Nat} {d : α}, List.getD (x :: xs) (n + 1) d = List.getD xs n d)
    ∧ (∀ {α : Type} {l : List α}, List.drop 0 l = l)
    ∧ (∀ {α : Type} {a : α} {l : List α} {i : Nat}, List.drop (i + 1) (a :: l) = List.drop i l)
    ∧ (∀ {α : Type} {a : α} {xs : List α} {i : Nat}, List.take (i + 1) (a :: xs) = a :: List.take i xs)
    ∧ (∀ {α : Type} {l : List α}, List.take 0 l = ([] : List α))
    ∧ (∀ {α : Type} {x : α} {xs : List α} {a : α}, List.set (x :: xs) 0 a = a :: xs)
    ∧ (∀ {α : Type} {x : α} {xs : List α} {i : Nat} {a : α}, List.set (x :: xs) (i + 1) a = x :: List.set xs i a)
    ∧ (∀ {α : Type} {β : Type} {f : α → β}, List.map f ([] : List α) = [])
    ∧ (∀ {α : Type} {β : Type} {f : α → β} {a : α} {l : List α}, List.map f (a :: l) = f a :: List.map f l)
    ∧ (∀ {α : Type} {b : α} {l : List α} {a : α}, a ∈ b :: l ↔ a = b ∨ a ∈ l)
    ∧ (∀ {α : Type} {a : α}, ¬a ∈ ([] : List α))
    ∧ (∀ (a : Prop), False → a ↔ True)
    ∧ (∀ (p : Prop), (p ∨ False) = p)
    ∧ (∀ {a : Prop}, a → a ↔ True)
    ∧ (∀ (n : Nat), 0 + n = n)
    ∧ (∀ (n : Nat), n + 0 = n)
    ∧ (∀ (b : Bool), (true && b) = b)
    ∧ (∀ (b : Bool), (b && true) = b)
    ∧ ((!true) = false)
    ∧ ((!false) = true)
    ∧ (∀ (b : Bool), (b && false) = false)
    ∧ (∀ (b : Bool), (false && b) = false)
    ∧ (∀ (n : Nat), Int.toNat ↑n = n)
    ∧ (∀ (n m : Nat), ((n + m : Nat) : Int) = (n : Int) + (m : Int))
    ∧ (∀ (v v_1 : Value), (LV.sc v = LV.sc v_1) = (v = v_1))
    ∧ (∀ (k : IntKind) (n : Int) (k_1 : IntKind) (n_1 : Int), (Value.int k n = Value.int k_1 n_1) = (k = k_1 ∧ n = n_1))
    ∧ (∀ (b b_1 : Bool), (Value.bool b = Value.bool b_1) = (b = b_1))
    ∧ (∀ (s s_1 : ByteArray), (Value.string s = Value.string s_1) = (s = s_1))
    ∧ (∀ {α : Type} {β : Type} (fst : α) (snd : β) (fst_1 : α) (snd_1 : β), ((fst, snd) = (fst_1, snd_1)) = (fst = fst_1 ∧ snd = snd_1))
    ∧ (∀ (es es_1 : List (Value × LV)), (LO.map es = LO.map es_1) = (es = es_1))
    ∧ (∀ (xs xs_1 : List Int), (LO.ints xs = LO.ints xs_1) = (xs = xs_1))
    ∧ (∀ (xs xs_1 : List Bool), (LO.bools xs = LO.bools xs_1) = (xs = xs_1))
    ∧ (∀ (cs cs_1 : List LV), (LO.box cs = LO.box cs_1) = (cs = cs_1))
    ∧ (∀ (n : Nat), 0 * n = 0)
    ∧ (∀ (n : Nat), 1 * n = n)
    ∧ (∀ (b : Bool), (!!b) = b)
    ∧ (∀ {n : Nat}, List.range (Nat.succ n) = List.range n ++ [n])
    ∧ (List.range 0 = [])
    ∧ (∀ {α : Type} {β : Type} {f : α → β} {l₁ l₂ : List α}, List.map f (l₁ ++ l₂) = List.map f l₁ ++ List.map f l₂)
    ∧ (∀ {α : Type} {β : Type} (a : α) (f : α → β), Option.map f (some a) = some (f a))
    ∧ (∀ {α : Type} {β : Type} (f : α → β), Option.map f none = none)
    ∧ (∀ {α : Type} (val val_1 : α), (some val = some val_1) = (val = val_1)) :=
  ⟨@true_and,
    @and_true,
    @and_self,
    @List.length_nil,
    @List.length_cons,
    @List.nil_append,
    @List.cons_append,
    @List.getD_cons_zero,
    @List.getD_cons_succ,
    @List.drop_zero,
    @List.drop_succ_cons,
    @List.take_succ_cons,
    @List.take_zero,
    @List.set_cons_zero,
    @List.set_cons_succ,
    @List.map_nil,
    @List.map_cons,
    @List.mem_cons,
    @List.not_mem_nil,
    @false_imp_iff,
    @or_false,
    @imp_self,
    @Nat.zero_add,
    @Nat.add_zero,
    @Bool.true_and,
    @Bool.and_true,
    @Bool.not_true,
    @Bool.not_false,
    @Bool.and_false,
    @Bool.false_and,
    @Int.toNat_natCast,
    @Int.natCast_add,
    @LV.sc.injEq,
    @Value.int.injEq,
    @Value.bool.injEq,
    @Value.string.injEq,
    @Prod.mk.injEq,
    @LO.map.injEq,
    @LO.ints.injEq,
    @LO.bools.injEq,
    @LO.box.injEq,
    @Nat.zero_mul,
    @Nat.one_mul,
    @Bool.not_not,
    @List.range_succ,
    @List.range_zero,
    @List.map_append,
    @Option.map_some,
    @Option.map_none,
    @Option.some.injEq⟩
theorem EVY : (∀ {α : Type} (a b : α), cond true a b = a) ∧ (∀ {α : Type} (a b : α), cond false a b = b) ∧ (∀ (h : Decidable True), @decide True h = true) ∧ (∀ (h : Decidable False), @decide False h = false) :=
  ⟨fun _ _ => rfl, fun _ _ => rfl, fun _ => decide_true .., fun _ => decide_false ..⟩
theorem EVK :
    (∀ (h : LH), killH h [] = h)
    ∧ (∀ (h : LH) (k : Nat) (r : List Nat), killH h (k :: r) = killH (h.set k ((h.f k).1, .dead)) r)
    ∧ (∀ (D : List Nat) (h : LH), hdL2 D h [] = True)
    ∧ (∀ (D : List Nat) (h : LH) (x : LV) (r : List LV), hdL2 D h (x :: r) = (hd2 D h x ∧ hdL2 D h r))
    ∧ (∀ (D : List Nat), hdL D [] = True)
    ∧ (∀ (D : List Nat) (x : LV) (r : List LV), hdL D (x :: r) = (hd1 D x ∧ hdL D r))
    ∧ (∀ (D : List Nat) (h : LH) (cs : List LV), hd2 D h (.agg cs) = hdL D cs)
    ∧ (∀ (D : List Nat) (h : LH) (k v z i c : Nat), hd2 D h (.ptr k v z i c) = (k ∈ D ∧ hdO D (h.f k).2))
    ∧ (∀ (D : List Nat) (h : LH) (f : FuncId) (cs : List LV), hd2 D h (.fn f cs) = hdL D cs)
    ∧ (∀ (D : List Nat) (h : LH) (v : Value), hd2 D h (.sc v) = True)
    ∧ (∀ (D : List Nat) (h : LH), hd2 D h .nsl = True)
    ∧ (∀ (D : List Nat) (h : LH) (z n : Nat) (f : Nat → List LV), hd2 D h (.rsl z n f) = True)
    ∧ (∀ (D : List Nat) (h : LH) (cs : List LV), hd2 D h (.rptr cs) = True)
    ∧ (∀ (D : List Nat) (h : LH) (es : List (Value × LV)), hd2 D h (.rmp es) = True)
    ∧ (∀ (D : List Nat) (h : LH) (k v z o n : Nat), hd2 D h (.sl k v z o n) = (k ∈ D))
    ∧ (∀ (D : List Nat) (h : LH) (k v : Nat), hd2 D h (.mp k v) = (k ∈ D))
    ∧ (∀ (D : List Nat) (v : Value), hd1 D (.sc v) = True)
    ∧ (∀ (D : List Nat), hd1 D .nsl = True)
    ∧ (∀ (D : List Nat) (z n : Nat) (f : Nat → List LV), hd1 D (.rsl z n f) = True)
    ∧ (∀ (D : List Nat) (cs : List LV), hd1 D (.rptr cs) = True)
    ∧ (∀ (D : List Nat) (es : List (Value × LV)), hd1 D (.rmp es) = True)
    ∧ (∀ (D : List Nat) (k v z i c : Nat), hd1 D (.ptr k v z i c) = True)
    ∧ (∀ (D : List Nat) (k v z o n : Nat), hd1 D (.sl k v z o n) = (k ∈ D))
    ∧ (∀ (D : List Nat) (k v : Nat), hd1 D (.mp k v) = (k ∈ D))
    ∧ (∀ (D : List Nat) (cs : List LV), hdO D (.box cs) = hdL D cs) :=
  ⟨fun _ => rfl, fun _ _ _ => rfl, fun _ _ => rfl, fun _ _ _ _ => rfl, fun _ => rfl, fun _ _ _ => rfl, fun _ _ _ => rfl, fun _ _ _ _ _ _ _ => rfl, fun _ _ _ _ => rfl, fun _ _ _ => rfl, fun _ _ => rfl, fun _ _ _ _ _ => rfl, fun _ _ _ => rfl, fun _ _ _ => rfl,
    fun _ _ _ _ _ _ _ => rfl, fun _ _ _ _ => rfl, fun _ _ => rfl, fun _ => rfl, fun _ _ _ _ => rfl, fun _ _ => rfl, fun _ _ => rfl, fun _ _ _ _ _ _ => rfl, fun _ _ _ _ _ _ => rfl, fun _ _ _ => rfl, fun _ _ => rfl⟩
end Go.Proofs.YtdfiicpikcdokaaGreatDoor
namespace Go.Proofs.YtdfiicpikcdokaaGreatDoor
set_option linter.unusedSimpArgs false
set_option linter.unusedVariables false
open Go.ChangeShapes Go.WideShapes Go.ChangeAt Go.RowKit

def offStep (P : Program) (o : Option Nat) (f : Field) : Option Nat :=
  match o with
  | some k => if f.offset = k then some (k + P.cellsOf f.type) else none
  | none => none
def okT (P : Program) : Nat → TypeId → Bool
  | 0, _ => false
  | d + 1, t => match P.underlying t with
    | some (.int _) => true
    | some .bool => true
    | some .string => true
    | some (.slice e) => decide (0 < P.cellsOf e) && okT P d e
    | some (.struct fs) => (fs.toList.all fun f => okT P d f.type) && (fs.toList.foldl (offStep P) (some 0) == some (P.cellsOf t))
    | _ => false
def fitT (P : Program) : Nat → TypeId → List LV → Prop
  | 0, _, _ => False
  | d + 1, t, ls => match P.underlying t with
    | some (.int k) => ∃ n, ls = [.sc (.int k n)] ∧ (Lit.int k n).wf = true
    | some .bool => ∃ b, ls = [.sc (.bool b)]
    | some .string => ∃ s : ByteArray, ls = [.sc (.string s)] ∧ s.size ≤ maxLen
    | some (.slice e) => ∃ n f, ls = [.rsl (P.cellsOf e) n f] ∧ n ≤ maxLen ∧ ∀ i, i < n → fitT P d e (f i)
    | some (.struct fs) => ls.length = P.cellsOf t ∧ ∀ (i : Nat) (f : Field), fs[i]? = some f → fitT P d f.type ((ls.drop f.offset).take (P.cellsOf f.type))
    | _ => False

section
variable {H : Type} {enc : TypeId × Value → H} {P : Program} {w : World} {base : Nat} {spare : Nat → Bool} {held : Bool} {R : RO}

theorem fold_offs (P : Program) : ∀ (fs : List Field) (k total : Nat), fs.foldl (offStep P) (some k) = some total →
    (k ≤ total ∧ ∀ (i : Nat) (f : Field), fs[i]? = some f → k ≤ f.offset ∧ f.offset + P.cellsOf f.type ≤ total) ∧ (∀ j, k ≤ j → j < total → ∃ (i : Nat) (f : Field), fs[i]? = some f ∧ f.offset ≤ j ∧ j < f.offset + P.cellsOf f.type) ∧
    (∀ (i i' : Nat) (f f' : Field), fs[i]? = some f → fs[i']? = some f' → i < i' → f.offset + P.cellsOf f.type ≤ f'.offset)
  | [], k, total, h => by
    simp at h; subst h
    exact ⟨⟨Nat.le_refl _, fun i f hf => by simp at hf⟩, fun j h1 h2 => by omega, fun i i' f f' hf => by simp at hf⟩
  | f :: r, k, total, h => by
    simp only [List.foldl_cons, offStep] at h
    by_cases e : f.offset = k
    · rw [if_pos e] at h
      obtain ⟨⟨h1, h2⟩, h3, h4⟩ := fold_offs P r _ _ h
      refine ⟨⟨by omega, fun i g hg => ?_⟩, fun j hj1 hj2 => ?_, fun i i' g g' hg hg' hlt => ?_⟩
      · cases i with
        | zero => simp at hg; subst hg; omega
        | succ i => have := h2 i g (by simpa using hg); omega
      · by_cases hj : j < k + P.cellsOf f.type
        · exact ⟨0, f, rfl, by omega, by omega⟩
        · obtain ⟨i, g, a1, a2⟩ := h3 j (by omega) hj2
          exact ⟨i + 1, g, by simpa using a1, a2⟩
      · cases i' with
        | zero => omega
        | succ i' =>
          cases i with
          | zero => simp at hg; subst hg; have := h2 i' g' (by simpa using hg'); omega
          | succ i => exact h4 i i' g g' (by simpa using hg) (by simpa using hg') (by omega)
    · rw [if_neg e] at h
      exfalso
      have : ∀ (l : List Field), l.foldl (offStep P) none = none := by
        intro l; induction l with
        | nil => rfl
        | cons _ _ ih => exact ih
      rw [this] at h; simp at h

theorem cells_get {a : Addr} {n : Nat} {cs : List Value} (h : w.cells? base a n = some cs) : cs.length = n ∧ ∀ i, i < n → w.cell? (a.add i) = cs[i]? := by
  unfold World.cells? at h
  split at h
  · exact ⟨by simpa using mapM_some_length h, fun i hi => mapM_some_get h i i (by simp [hi])⟩
  · simp at h

theorem cell_ro (hR : ∀ b, R b = w.heap[b]?) {a : Addr} {v : Value} (h : w.cell? a = some v) : a.spot = none ∧ roCell R a.block a.off = some v := by
  unfold World.cell? at h
  unfold roCell
  rw [hR]
  split at h
  · rename_i c _ _ hw
    rw [hw]
    split at h
    · simp at h
    · rename_i hs
      exact ⟨by simpa using hs, h⟩
  · simp at h

theorem ro_of_trod (hR : ∀ b, R b = w.heap[b]?) : ∀ (d fuel : Nat) (t : TypeId) (cs : List Value) (x : DataW H × List MemPlace), okT P d t = true → DataW.trod enc P w base spare held fuel t cs = some x →
    ∃ ls : List LV, ls.length = cs.length ∧ (∀ (i : Nat) (l : LV), ls[i]? = some l → ∃ v, cs[i]? = some v ∧ Ro R l v ∧ plainV v = true) ∧ fitT P d t ls
  | 0, _, _, _, _, h, _ => by simp [okT] at h
  | d + 1, fuel, t, cs, x, ht, h => by
    unfold okT at ht
    split at ht
    · rename_i k hu
      obtain ⟨n, rfl, rfl, hw⟩ := DataW.trod_int hu h
      refine ⟨[.sc (.int k n)], rfl, fun i l hl => ?_, ?_⟩
      · cases i with
        | zero => simp at hl; subst hl; exact ⟨_, rfl, .sc _ rfl, rfl⟩
        | succ i => simp at hl
      · unfold fitT; rw [hu]; exact ⟨n, rfl, hw⟩
    · rename_i hu
      obtain ⟨b, rfl, rfl⟩ := DataW.trod_bool hu h
      refine ⟨[.sc (.bool b)], rfl, fun i l hl => ?_, ?_⟩
      · cases i with
        | zero => simp at hl; subst hl; exact ⟨_, rfl, .sc _ rfl, rfl⟩
        | succ i => simp at hl
      · unfold fitT; rw [hu]; exact ⟨b, rfl⟩
    · rename_i hu
      obtain ⟨s, rfl, rfl, hs⟩ := DataW.trod_string hu h
      refine ⟨[.sc (.string s)], rfl, fun i l hl => ?_, ?_⟩
      · cases i with
        | zero => simp at hl; subst hl; exact ⟨_, rfl, .sc _ rfl, rfl⟩
        | succ i => simp at hl
      · unfold fitT; rw [hu]; exact ⟨s, rfl, hs⟩
    · rename_i e hu
      simp only [Bool.and_eq_true, decide_eq_true_eq] at ht
      obtain ⟨hz, hte⟩ := ht
      rcases DataW.trod_slice hu h with ⟨rfl, _⟩ | ⟨a, len, cap, elems, rest, n, _, rfl, _, hb, hl, hm, hlen, hel, _, _⟩
      · refine ⟨[.rsl (P.cellsOf e) 0 (fun _ => [])], rfl, fun i l hl => ?_, ?_⟩
        · cases i with
          | zero =>
            simp at hl; subst hl
            exact ⟨_, rfl, .rsl _ _ _ none 0 0 0 (fun _ _ => undef) (Nat.le_refl _) (by unfold maxLen; omega) (fun h => absurd h (Nat.lt_irrefl _)) (fun i hi => absurd hi (Nat.not_lt_zero _)) (fun i j hi => absurd hi (Nat.not_lt_zero _)) (fun i j c hi => absurd hi (Nat.not_lt_zero _)) (fun i j hi => absurd hi (Nat.not_lt_zero _)), rfl⟩
          | succ i => simp at hl
        · unfold fitT; rw [hu]; exact ⟨0, _, rfl, by unfold maxLen; omega, fun i hi => absurd hi (Nat.not_lt_zero _)⟩
      · have hall : ∀ i, ∃ q : List LV × List Value, i < len → q.2.length = P.cellsOf e ∧ (∀ j, j < P.cellsOf e → w.cell? ((a.add (i * P.cellsOf e)).add j) = q.2[j]?) ∧ q.1.length = P.cellsOf e ∧
            (∀ (j : Nat) (l : LV), q.1[j]? = some l → ∃ v, q.2[j]? = some v ∧ Ro R l v ∧ plainV v = true) ∧ fitT P d e q.1 := by
          intro i
          by_cases hi : i < len
          · have h1 := hel i hi
            have : ∃ y, elems[i]? = some y := ⟨elems[i]'(by omega), List.getElem?_eq_getElem (by omega)⟩
            obtain ⟨y, hy⟩ := this
            rw [hy] at h1
            obtain ⟨cs', hc1, hc2⟩ := Option.bind_eq_some_iff.1 h1
            obtain ⟨g1, g2⟩ := cells_get hc1
            obtain ⟨ls, k1, k2, k3⟩ := ro_of_trod hR d n e cs' y hte hc2
            exact ⟨(ls, cs'), fun _ => ⟨g1, g2, by rw [k1, g1], k2, k3⟩⟩
          · exact ⟨([], []), fun h => absurd h hi⟩
        obtain ⟨q, hq⟩ := Classical.axiomOfChoice hall
        have hcell : ∀ i j, i < len → j < P.cellsOf e → a.spot = none ∧ ∃ v, (q i).2[j]? = some v ∧ roCell R a.block (a.off + i * P.cellsOf e + j) = some v := by
          intro i j hi hj
          have hsp : a.spot = none := by
            obtain ⟨g1, g2, _⟩ := hq 0 (by omega)
            have := g2 0 hz
            rw [Nat.zero_mul] at this
            rw [List.getElem?_eq_getElem (by omega)] at this
            exact (cell_ro hR this).1
          obtain ⟨g1, g2, _⟩ := hq i hi
          have h2 := g2 j hj
          rw [List.getElem?_eq_getElem (by omega)] at h2
          have h3 := (cell_ro hR h2).2
          refine ⟨hsp, _, List.getElem?_eq_getElem (by omega), ?_⟩
          have hadd : (a.add (i * P.cellsOf e)).add j = ⟨a.block, a.off + i * P.cellsOf e + j, none⟩ := by
            obtain ⟨b, o, s⟩ := a
            simp only at hsp; subst hsp
            unfold Addr.add
            by_cases e1 : i * P.cellsOf e = 0 <;> by_cases e2 : j = 0 <;> simp [e1, e2]
          rw [hadd] at h3
          exact h3
        refine ⟨[.rsl (P.cellsOf e) len (fun i => (q i).1)], rfl, fun i l hl' => ?_, ?_⟩
        · cases i with
          | zero =>
            simp at hl'; subst hl'
            refine ⟨_, rfl, .rsl _ _ _ (some a) cap a.block a.off (fun i j => (q i).2.getD j undef) hl hm (fun h0 => ?_) (fun i hi => (hq i hi).2.2.1) (fun i j hi hj => ?_) (fun i j c hi hc => ?_) (fun i j hi hj => ?_), rfl⟩
            · have := (hcell 0 0 h0 hz).1
              obtain ⟨b, o, s⟩ := a
              simp only at this; subst this; rfl
            · obtain ⟨_, v, h1, h2⟩ := hcell i j hi hj
              rw [h2, List.getD_eq_getElem?_getD, h1]; rfl
            · obtain ⟨v, h1, h2, _⟩ := (hq i hi).2.2.2.1 j c hc
              rw [List.getD_eq_getElem?_getD, h1]; exact h2
            · have hl3 := (hq i hi).2.2.1
              obtain ⟨v, h1, _, h3⟩ := (hq i hi).2.2.2.1 j _ (List.getElem?_eq_getElem (by omega))
              rw [List.getD_eq_getElem?_getD, h1]; exact h3
          | succ i => simp at hl'
        · unfold fitT; rw [hu]; exact ⟨len, _, rfl, Nat.le_trans hl hm, fun i hi => (hq i hi).2.2.2.2⟩
    · rename_i fs hu
      simp only [Bool.and_eq_true, List.all_eq_true, beq_iff_eq] at ht
      obtain ⟨hf1, hf2⟩ := ht
      obtain ⟨xs, n, rfl, _, hcl, hxl, hxs⟩ := DataW.trod_struct hu h
      obtain ⟨⟨_, o1⟩, o2, o3⟩ := fold_offs P fs.toList 0 _ hf2
      have hall : ∀ i : Nat, ∃ ls : List LV, ∀ f : Field, fs[i]? = some f → ls.length = P.cellsOf f.type ∧ (∀ (j : Nat) (l : LV), ls[j]? = some l → ∃ v, cs[f.offset + j]? = some v ∧ Ro R l v ∧ plainV v = true) ∧ fitT P d f.type ls := by
        intro i
        by_cases hi : i < fs.size
        · have hfi : fs[i]? = some fs[i] := Array.getElem?_eq_getElem hi
          have h1 := hxs i _ hfi
          rw [List.getElem?_eq_getElem (by omega)] at h1
          obtain ⟨ls, k1, k2, k3⟩ := ro_of_trod hR d n _ _ _ (hf1 _ (by simp)) h1
          have ho := o1 i _ (show fs.toList[i]? = some fs[i] by rw [Array.getElem?_toList]; exact hfi)
          have hlen : ls.length = P.cellsOf (fs[i]).type := by rw [k1]; simp; omega
          refine ⟨ls, fun f hf => ?_⟩
          rw [hfi] at hf; injection hf with hf; subst hf
          refine ⟨hlen, fun j l hl => ?_, k3⟩
          obtain ⟨v, h2, h3⟩ := k2 j l hl
          have hj := (List.getElem?_eq_some_iff.1 hl).1
          rw [List.getElem?_take_of_lt (by omega), List.getElem?_drop] at h2
          exact ⟨v, h2, h3⟩
        · exact ⟨[], fun f hf => by rw [Array.getElem?_eq_none (by omega)] at hf; simp at hf⟩
      obtain ⟨g, hg⟩ := Classical.axiomOfChoice hall
      have hcov : ∀ j : Nat, ∃ i : Nat, j < P.cellsOf t → ∃ f : Field, fs[i]? = some f ∧ f.offset ≤ j ∧ j < f.offset + P.cellsOf f.type := by
        intro j
        by_cases hj : j < P.cellsOf t
        · obtain ⟨i, f, a1, a2⟩ := o2 j (Nat.zero_le _) hj
          exact ⟨i, fun _ => ⟨f, by simpa using a1, a2⟩⟩
        · exact ⟨0, fun h => absurd h hj⟩
      obtain ⟨own, hown⟩ := Classical.axiomOfChoice hcov
      let ls : List LV := (List.range (P.cellsOf t)).map fun j => (g (own j)).getD (j - ((fs[own j]?).map (·.offset)).getD 0) .any
      have hls : ∀ (j i : Nat) (f : Field), j < P.cellsOf t → fs[i]? = some f → f.offset ≤ j → j < f.offset + P.cellsOf f.type → ls[j]? = (g i)[j - f.offset]? := by
        intro j i f hj hfi h1 h2
        obtain ⟨f', hf', h3, h4⟩ := hown j hj
        have : own j = i := by
          rcases Nat.lt_trichotomy (own j) i with hlt | he | hgt
          · have := o3 _ _ f' f (by simpa using hf') (by simpa using hfi) hlt; omega
          · exact he
          · have := o3 _ _ f f' (by simpa using hfi) (by simpa using hf') hgt; omega
        have hgl := (hg i f hfi).1
        simp only [ls, List.getElem?_map, List.getElem?_range hj, Option.map_some, this, hfi, Option.getD_some]
        rw [List.getD_eq_getElem?_getD, List.getElem?_eq_getElem (by omega)]; rfl
      have hlsl : ls.length = P.cellsOf t := by simp [ls]
      refine ⟨ls, by rw [hlsl, hcl], fun j l hl => ?_, ?_⟩
      · have hj : j < P.cellsOf t := by have := (List.getElem?_eq_some_iff.1 hl).1; omega
        obtain ⟨f, hf, h1, h2⟩ := hown j hj
        rw [hls j _ f hj hf h1 h2] at hl
        obtain ⟨v, a1, a2⟩ := (hg _ f hf).2.1 _ l hl
        rw [show f.offset + (j - f.offset) = j by omega] at a1
        exact ⟨v, a1, a2⟩
      · unfold fitT; rw [hu]
        refine ⟨hlsl, fun i f hf => ?_⟩
        have ho := o1 i f (by simpa using hf)
        have : (ls.drop f.offset).take (P.cellsOf f.type) = g i := by
          apply List.ext_getElem?
          intro j
          by_cases hj : j < P.cellsOf f.type
          · rw [List.getElem?_take_of_lt hj, List.getElem?_drop, hls (f.offset + j) i f (by omega) hf (by omega) (by omega)]
            rw [show f.offset + j - f.offset = j by omega]
          · rw [List.getElem?_eq_none (by simp; omega), List.getElem?_eq_none (by have := (hg i f hf).1; omega)]
        rw [this]
        exact (hg i f hf).2.2
    · simp at ht
end

def structT (P : Program) (t : TypeId) : Bool :=
  match P.underlying t with
  | some (.struct _) => true
  | _ => false
def fitA (P : Program) (t : TypeId) (lv : LV) : Prop := ∃ ls, fitT P 20 t ls ∧ ((structT P t = true ∧ lv = .agg ls) ∨ (structT P t = false ∧ ls = [lv]))
def fitAll (P : Program) : List TypeId → List LV → Prop
  | [], [] => True
  | t :: ts, l :: ls => fitA P t l ∧ fitAll P ts ls
  | _, _ => False

section
variable {H : Type} {enc : TypeId × Value → H} {P : Program} {w : World} {base : Nat} {spare : Nat → Bool} {held : Bool} {R : RO}

theorem arg_open (hR : ∀ b, R b = w.heap[b]?) {r : Reach} {b0 : Nat} {t : TypeId} {v : Value} {d : DataW H} {ps : List MemPlace} (ht : okT P 20 t = true) (hval : Value.okWide P w r b0 t v) (hd : DataW.Trod enc P w base spare held t v d ps) :
    ∃ lv, Ro R lv v ∧ fitA P t lv := by
  obtain ⟨fuel, hf⟩ := hd
  obtain ⟨ls, h1, h2, h3⟩ := ro_of_trod hR 20 fuel t v.cells.toList _ ht hf
  by_cases hs : structT P t = true
  · have hu : ∃ fs, P.underlying t = some (.struct fs) := by
      unfold structT at hs
      split at hs
      · rename_i fs hu; exact ⟨fs, hu⟩
      · simp at hs
    obtain ⟨fs, hu⟩ := hu
    obtain ⟨cs, rfl, hcs⟩ := okWide_struct hu hval
    have hcl : (Value.agg cs).cells = cs := rfl
    rw [hcl] at h1 h2
    refine ⟨.agg ls, .agg _ _ (by simpa using h1.symm) (fun i c hc => ?_) (fun i hi => ?_), ls, h3, .inl ⟨hs, rfl⟩⟩
    · obtain ⟨x, g1, g2, _⟩ := h2 i c hc
      rw [Array.getElem?_toList] at g1
      rw [Array.getD_eq_getD_getElem?, g1]; exact g2
    · have hlt : i < ls.length := by rw [h1]; simpa using hi
      obtain ⟨x, g1, _, g3⟩ := h2 i _ (List.getElem?_eq_getElem hlt)
      rw [Array.getElem?_toList] at g1
      rw [Array.getD_eq_getD_getElem?, g1]; exact g3
  · have hs' : structT P t = false := by simpa using hs
    have hp : plainV v = true := by
      cases v with
      | agg cs =>
        exfalso
        unfold structT at hs'
        have ht' := ht
        unfold okT at ht'
        unfold Value.okWide at hval
        split at ht' <;> first
          | (rename_i hu; rw [hu] at hval hs'; simp [Cell.okWide, Cell.ok, hu] at hval hs'; done)
          | (revert ht'; simp; done)
      | tuple cs =>
        exfalso
        unfold structT at hs'
        have ht' := ht
        unfold okT at ht'
        unfold Value.okWide at hval
        split at ht' <;> first
          | (rename_i hu; rw [hu] at hval hs'; simp [Cell.okWide, Cell.ok, hu] at hval hs'; done)
          | (revert ht'; simp; done)
      | _ => rfl
    rw [cells_plain hp] at h1 h2
    obtain ⟨l, rfl⟩ := List.length_eq_one_iff.1 (by simpa using h1)
    obtain ⟨x, g1, g2, _⟩ := h2 0 l rfl
    simp at g1; subst g1
    exact ⟨l, g2, [l], h3, .inr ⟨hs', rfl⟩⟩

theorem args_open (hR : ∀ b, R b = w.heap[b]?) {b0 : Nat} {r : Reach} : ∀ (ts : List TypeId) (vs : List Value) (ds : List (DataW H)) (ps : List MemPlace), (∀ t, t ∈ ts → okT P 20 t = true) →
    (∀ (j : Nat) t v, ts[j]? = some t → vs[j]? = some v → Value.okWide P w r b0 t v) → DataW.TrodAll enc P w base spare held ts vs ds ps → ∃ lvs : List LV, lvs.length = vs.length ∧ (∀ (i : Nat) (l : LV), lvs[i]? = some l → ∃ v, vs[i]? = some v ∧ Ro R l v) ∧ fitAll P ts lvs
  | [], vs, ds, ps, _, _, h => by
    obtain ⟨rfl, rfl, rfl⟩ := trodAll_nil h
    exact ⟨[], rfl, fun i l hl => by simp at hl, trivial⟩
  | t :: ts, vs, ds, ps, hok, hval, h => by
    obtain ⟨v, vs', d, ds', p, q, rfl, rfl, rfl, h1, h2⟩ := trodAll_cons h
    obtain ⟨lv, g1, g2⟩ := arg_open hR (hok t (by simp)) (hval 0 t v rfl rfl) h1
    obtain ⟨lvs, k1, k2, k3⟩ := args_open hR ts vs' ds' q (fun t ht => hok t (by simp [ht])) (fun j t v ht hv => hval (j + 1) t v (by simpa using ht) (by simpa using hv)) h2
    refine ⟨lv :: lvs, by simp [k1], fun i l hl => ?_, g2, k3⟩
    cases i with
    | zero => simp at hl; subst hl; exact ⟨v, rfl, g1⟩
    | succ i => obtain ⟨v', a1, a2⟩ := k2 i l (by simpa using hl); exact ⟨v', by simpa using a1, a2⟩

theorem trodAll_below (hl : laidOutB P = true) {W W' : World} (hb : Below W.heap.size W W') : ∀ (ts : List TypeId) (vs : List Value) (ds : List (DataW H)) (ps : List MemPlace), (∀ t, t ∈ ts → P.readableRec t = true ∧ t < P.types.size) →
    (∀ x ∈ ps, x.block < W.heap.size) → DataW.TrodAll enc P W 0 (fun _ => true) true ts vs ds ps → DataW.TrodAll enc P W' 0 (fun b => decide (b < W.heap.size)) true ts vs ds ps
  | [], vs, ds, ps, _, _, h => by
    obtain ⟨rfl, rfl, rfl⟩ := trodAll_nil h
    exact h
  | t :: ts, vs, ds, ps, hr, hlt, h => by
    obtain ⟨v, vs', d, ds', p, q, rfl, rfl, rfl, h1, h2⟩ := trodAll_cons h
    exact ⟨p, q, Below.trod hl (hr t (by simp)).1 (hr t (by simp)).2 h1 hb (fun x hx => hlt x (by simp [hx])), trodAll_below hl hb ts vs' ds' q (fun t ht => hr t (by simp [ht])) (fun x hx => hlt x (by simp [hx])) h2, rfl⟩
end

end Go.Proofs.YtdfiicpikcdokaaGreatDoor
namespace Go.Proofs.YtdfiicpikcdokaaGreatDoor
set_option linter.unusedSimpArgs false
set_option linter.unusedVariables false
open Go.ChangeShapes Go.WideShapes Go.RowKit

theorem law_liftedL {C : Checked} {os : Os} {f : FuncId} {fn : Func} {s : ChangeSpec} {H : Type} {enc : TypeId × Value → H} {tb : TypeId} (laid : List (String × DataW Unit)) (own : ownKnob C.prog.godebug = none) (started : os.Started) (hl : laidOutB C.prog = true)
    (noInit : C.prog.inits.idxOf? f = none) (hfn : C.prog.funcs[f]? = some fn)
    (witness : ∃ (w : World) (tape : Tape) (i : Input), w.os = os ∧ (w.forCall tape i).Shaped C.prog ∧ i.vars = [] ∧ Input.okWide C.prog (w.forCall tape i) .any w.heap.size f i ∧
      ((s.pre enc C.prog fn [] false (w.forCall tape i).memory i.args ∧ laidMetH C.prog laid (w.forCall tape i).memory) ∧ sizedMet enc C.prog fn (OpenSpec.ofChange s) false (w.forCall tape i).memory i.args) ∧ ({} : Assume).holds C.prog (lone (Frame.enter C.prog f i.args .normal) [] (w.forCall tape i)))
    (hres : fn.resultTypes = #[tb]) (hb : C.prog.underlying tb = some .bool) (hv : s.vars = [])
    (hs : ∀ (ds : List (DataW H)), ds.length = fn.params.size → (s.fn H ds).results = [.lit (.bool true)] ∧ (s.fn H ds).args = ds ∧ (s.fn H ds).vars = [])
    (hok : fn.params.toList.all (fun t => okT C.prog 20 t && (C.prog.readableRec t && decide (t < C.prog.types.size))) = true)
    (hheap : ∀ w w' : World, w.heap = w'.heap → laidMetH C.prog laid w → laidMetH C.prog laid w')
    (hgx : ∀ W : World, laidMetH C.prog laid W → W.ShapedOpen C.prog → GX W) (hlaw : ∀ lvs, fitAll C.prog fn.params.toList lvs → Ev C.prog f lvs (.sc (.bool true))) :
    ReturnsInHanded {} C os f .any (fun w args => (s.pre enc C.prog fn [] false w args ∧ laidMetH C.prog laid w) ∧ sizedMet enc C.prog fn (OpenSpec.ofChange s) false w args) (s.post enc C.prog fn false true false false) := by
  refine returnsInHanded_of_calls own started noInit witness ?_
  intro w tape i _ hsh _ hok' hpre _
  obtain ⟨_, _, _, fn', hfn', _, _, _, _, hval⟩ := hok'
  have efn : fn' = fn := Option.some.inj (hfn'.symm.trans hfn)
  subst efn
  obtain ⟨⟨⟨ds, gs, before, hw, hc⟩, hx⟩, hz⟩ := hpre
  have hW0 := DataW.Whole.of_heap (w' := w.forCall tape i) (by rfl) hw
  have hL := hheap _ (w.forCall tape i) (by rfl) hx
  suffices H : ∀ (W : World) (base : Nat) (args : Array Value), (∀ (j : Nat) t v, fn'.params[j]? = some t → args[j]? = some v → Value.okWide C.prog W .any base t v) →
      DataW.Whole enc C.prog fn'.params.toList s.vars false W args.toList ds gs before → laidMetH C.prog laid W → W.ShapedOpen C.prog →
      Calls C.prog f args W fun e W' => ∃ v, e = .returned v ∧ s.post enc C.prog fn' false true false false W args v W' by
    refine (H (w.forCall tape i) w.heap.size i.args hval hW0 hL hsh).mono fun e W' hq => ?_
    obtain ⟨v, he, hp⟩ := hq
    subst he
    exact ChangeSpec.post_blind hp
  intro W base args hval hW hL hsh
  have hW' := hW
  obtain ⟨p, q, hA, hV, rfl, _, _⟩ := hW
  rw [hv] at hV
  obtain ⟨rfl, rfl⟩ := trodVars_none hV
  simp only [List.append_nil] at hW'
  rw [List.all_eq_true] at hok
  have hok1 : ∀ t, t ∈ fn'.params.toList → okT C.prog 20 t = true := fun t ht => by have := hok t ht; simp only [Bool.and_eq_true, decide_eq_true_eq] at this; exact this.1
  have hok2 : ∀ t, t ∈ fn'.params.toList → C.prog.readableRec t = true ∧ t < C.prog.types.size := fun t ht => by have := hok t ht; simp only [Bool.and_eq_true, decide_eq_true_eq] at this; exact this.2
  obtain ⟨lvs, k1, k2, k3⟩ := args_open (R := fun b => W.heap[b]?) (fun _ => rfl) (b0 := base) (r := .any) fn'.params.toList args.toList ds p hok1 (fun j t v ht hv => hval j t v (by simpa using ht) (by simpa using hv)) hA
  have hlen : ds.length = fn'.params.size := by
    have : ∀ (ts : List TypeId) (vs : List Value) (ds : List (DataW H)) (ps : List MemPlace), DataW.TrodAll enc C.prog W 0 (fun _ => true) true ts vs ds ps → ds.length = ts.length := by
      intro ts
      induction ts with
      | nil => intro vs ds ps h; obtain ⟨_, rfl, _⟩ := trodAll_nil h; rfl
      | cons t ts ih => intro vs ds ps h; obtain ⟨v, vs', d, ds', p, q, rfl, rfl, rfl, _, h2⟩ := trodAll_cons h; simp [ih _ _ _ h2]
    rw [this _ _ _ _ hA]; simp
  obtain ⟨r1, r2, r3⟩ := hs ds hlen
  refine (hlaw lvs k3 (fun b => W.heap[b]?) W args (fun _ _ h => h) (Gl.of (fun _ => rfl) (hgx W hL hsh)) (by rw [k1]; simp) (fun i a ha => ?_)).mono ?_
  · obtain ⟨v, g1, g2⟩ := k2 i a ha
    rw [Array.getElem?_toList] at g1
    rw [Array.getD_eq_getD_getElem?, g1]; exact g2
  · intro e W' hx
    obtain ⟨v, R', rfl, _, _, _, hbelow, hro⟩ := hx
    have hvv : v = .bool true := by cases hro; rfl
    subst hvv
    refine ⟨_, rfl, ds, [], p, [], p, [], hW', ?_, ?_, ?_, hbelow.frame _, fun h => by simp at h⟩
    · rw [List.append_nil, r1, hres]
      exact trodAll_mk1 (shut_bool hb true)
    · rw [List.append_nil, r2]
      exact trodAll_below hl hbelow _ _ _ _ hok2 (fun x hx => by simpa using hW'.lt x hx) hA
    · rw [hv, List.append_nil, r3]; exact rfl
end Go.Proofs.YtdfiicpikcdokaaGreatDoor
namespace Go.Proofs.YtdfiicpikcdokaaGreatDoor
set_option linter.unusedSimpArgs false
set_option linter.unusedVariables false
open Go.RowKit

def roTo1d (h : LH) : LV → LV → Prop
  | .sl k ver sz off len, .rsl sz' n f => sz' = sz ∧ n = len ∧ k < h.n ∧ (h.f k).1 = ver ∧ rngC (h.f k).2 sz off len ∧ ∀ i, i < len → roToL h (elO (h.f k).2 (off + i)) (f i)
  | x, y => roTo1 h x y
def roToLd (h : LH) : List LV → List LV → Prop
  | [], [] => True
  | x :: r, y :: q => roTo1d h x y ∧ roToLd h r q
  | _, _ => False
def roTo2d (h : LH) : LV → LV → Prop
  | .agg cs, .agg ds => roToLd h cs ds
  | x, y => roTo1d h x y
def roToL2d (h : LH) : List LV → List LV → Prop
  | [], [] => True
  | x :: r, y :: q => roTo2d h x y ∧ roToL2d h r q
  | _, _ => False
def roTo3d (h : LH) : LV → LV → Prop
  | .tup cs, .tup ds => roToL2d h cs ds
  | x, y => roTo2d h x y

section
variable {P : Program} {N B : Nat} {R R' R0 : RO} {ι ι0 : IM} {h h0 : LH} {w w0 : World} {s : LS} {a : Act}

def FzR (R' : RO) (ι : IM) (h : LH) (w : World) : Prop := ∀ k, k < h.n → (h.f k).2.live = true → ((ι k).m ≠ 0 ∨ (h.f k).2.isMap = true) → R' (ι k).b = w.heap[(ι k).b]?
theorem roTo1d_ok (hrep : Rep R ι h B w) (hl : RoLe R R') (hfz : FzR R' ι h w)
    {lv r : LV} {v : Value} (hr : Rv R ι h lv v) (ht : roTo1d h lv r) : Ro R' r v := by
  unfold roTo1d at ht
  split at ht
  · rename_i k ver sz off len sz' n f
    obtain ⟨rfl, rfl, hk, hver, hrng, hel⟩ := ht
    obtain ⟨a, cap, rfl, _, _, hlc, hm, hcase⟩ := hr.sl_inv
    have hlen : ∀ i, i < n → (f i).length = sz' := by
      intro i hi
      rw [← (roToL_get (hel i hi)).1]
      generalize (h.f k).2 = ob at hrng
      cases ob with
      | ints xs => exact hrng.1.symm
      | bools xs => exact hrng.1.symm
      | row s' n' f' => exact hrng.2.2 i hi
      | _ => exact hrng.elim
    have hall : ∀ i j, ∃ v, i < n → j < sz' → ∃ lv, (elO (h.f k).2 (off + i))[j]? = some lv ∧ w.cell? ⟨(ι k).b, (ι k).o + ((off + i) * sz' + j), none⟩ = some v ∧ Rv R ι h lv v ∧ plainV v = true ∧ R' (ι k).b = w.heap[(ι k).b]? := by
      intro i j
      by_cases hi : i < n
      · by_cases hj : j < sz'
        · obtain ⟨lv, v, e1, e2, e3, e4⟩ := rng_cells hrep hk hrng hi hj
          obtain ⟨_, _, _, _, g1, g2, g3⟩ := rngC_cell hrng hi hj
          exact ⟨v, fun _ _ => ⟨lv, e1, e2, e3, e4, hfz k hk g1 (.inl (fun e => g3 (hrep.empty k hk g1 g2 e)))⟩⟩
        · exact ⟨undef, fun _ h => absurd h hj⟩
      · exact ⟨undef, fun h => absurd h hi⟩
    have hall2 : ∀ i, ∃ g : Nat → Value, ∀ j, i < n → j < sz' → ∃ lv, (elO (h.f k).2 (off + i))[j]? = some lv ∧ w.cell? ⟨(ι k).b, (ι k).o + ((off + i) * sz' + j), none⟩ = some (g j) ∧ Rv R ι h lv (g j) ∧ plainV (g j) = true ∧ R' (ι k).b = w.heap[(ι k).b]? :=
      fun i => Classical.axiomOfChoice (hall i)
    obtain ⟨g, hg⟩ := Classical.axiomOfChoice hall2
    refine .rsl _ _ _ a cap (ι k).b ((ι k).o + off * sz') g hlc hm ?_ hlen ?_ ?_ ?_
    · intro h0
      rcases hcase with h9 | h9
      · omega
      · exact (h9 hver.symm).1
    · intro i j hi hj
      obtain ⟨lv, _, e2, _, _, e5⟩ := hg i j hi hj
      unfold roCell
      rw [e5]
      unfold World.cell? at e2
      simp only at e2
      have e9 : (ι k).o + off * sz' + i * sz' + j = (ι k).o + ((off + i) * sz' + j) := by rw [Nat.add_mul]; omega
      rw [e9]
      split at e2
      · rename_i c _ _ hw
        rw [hw]
        simpa using e2
      · simp at e2
    · intro i j c hi hc
      have hj : j < sz' := by
        have := (List.getElem?_eq_some_iff.1 hc).1
        rw [hlen i hi] at this; exact this
      obtain ⟨lv, e1, _, e3, _⟩ := hg i j hi hj
      obtain ⟨x, hx, hx2⟩ := (roToL_get (hel i hi)).2 j c hc
      rw [e1] at hx
      injection hx with hx
      subst hx
      exact roTo1_ok hrep hl hfz e3 hx2
    · intro i j hi hj
      exact (hg i j hi hj).choose_spec.2.2.2.1
  · exact roTo1_ok hrep hl hfz hr ht

theorem roToLd_get : ∀ {xs ys : List LV}, roToLd h xs ys → xs.length = ys.length ∧ ∀ (i : Nat) (y : LV), ys[i]? = some y → ∃ x, xs[i]? = some x ∧ roTo1d h x y
  | [], [], _ => ⟨rfl, fun i y hy => by simp at hy⟩
  | x :: r, y :: q, ht => by
    obtain ⟨h1, h2⟩ := roToLd_get ht.2
    refine ⟨by simp [h1], fun i z hz => ?_⟩
    cases i with
    | zero => simp at hz; subst hz; exact ⟨x, rfl, ht.1⟩
    | succ i =>
      obtain ⟨u, hu, hu2⟩ := h2 i z (by simpa using hz)
      exact ⟨u, by simpa using hu, hu2⟩
  | [], _ :: _, ht => ht.elim
  | _ :: _, [], ht => ht.elim
theorem roTo2d_ok (hrep : Rep R ι h B w) (hl : RoLe R R') (hfz : FzR R' ι h w)
    {lv r : LV} {v : Value} (hr : Rv R ι h lv v) (ht : roTo2d h lv r) : Ro R' r v := by
  unfold roTo2d at ht
  split at ht
  · rename_i cs ds
    obtain ⟨vs, rfl, h1, h2, h3⟩ := hr.agg_inv
    obtain ⟨g1, g2⟩ := roToLd_get ht
    refine .agg _ _ (by omega) (fun i c hi => ?_) h3
    obtain ⟨x, hx, hx2⟩ := g2 i c hi
    exact roTo1d_ok hrep hl hfz (h2 i x hx) hx2
  · exact roTo1d_ok hrep hl hfz hr ht
theorem roToL2d_get : ∀ {xs ys : List LV}, roToL2d h xs ys → xs.length = ys.length ∧ ∀ (i : Nat) (y : LV), ys[i]? = some y → ∃ x, xs[i]? = some x ∧ roTo2d h x y
  | [], [], _ => ⟨rfl, fun i y hy => by simp at hy⟩
  | x :: r, y :: q, ht => by
    obtain ⟨h1, h2⟩ := roToL2d_get ht.2
    refine ⟨by simp [h1], fun i z hz => ?_⟩
    cases i with
    | zero => simp at hz; subst hz; exact ⟨x, rfl, ht.1⟩
    | succ i =>
      obtain ⟨u, hu, hu2⟩ := h2 i z (by simpa using hz)
      exact ⟨u, by simpa using hu, hu2⟩
  | [], _ :: _, ht => ht.elim
  | _ :: _, [], ht => ht.elim
theorem roTo3d_ok (hrep : Rep R ι h B w) (hl : RoLe R R') (hfz : FzR R' ι h w)
    {lv r : LV} {v : Value} (hr : Rv R ι h lv v) (ht : roTo3d h lv r) : Ro R' r v := by
  unfold roTo3d at ht
  split at ht
  · rename_i cs ds
    obtain ⟨vs, rfl, h1, h2⟩ := hr.tup_inv
    obtain ⟨g1, g2⟩ := roToL2d_get ht
    refine .tup _ _ (by omega) (fun i c hi => ?_)
    obtain ⟨x, hx, hx2⟩ := g2 i c hi
    exact roTo2d_ok hrep hl hfz (h2 i x hx) hx2
  · exact roTo2d_ok hrep hl hfz hr ht

def finD (l : List RX) (r : LV) (s : LS) (h : LH) : Prop := resCL s h l ∧ roTo3d h (outV s h l) r
theorem ev_fnD {f : FuncId} {fn : Func} {lc : LC} {l : List RX} {args : List LV} {r : LV} (hf : P.funcs[f]? = some fn) (hc0 : cFn P fn = some (erase lc, l)) (hle : args.length ≤ fn.ntmps)
    (hw : lwp P 0 lc (finD l r) (fun _ _ _ => False) (finD l r) (argS args 0) LH.empty) : Ev P f args r := by
  obtain ⟨c, hb, hc, hl⟩ := cFn_parts hc0
  intro R w vs hR hgl hvs ha
  refine calls_of_wp hf hb ?_
  have hrep : Rep R (fun _ => default) LH.empty w.heap.size w :=
    ⟨hR, fun k hk => absurd hk (Nat.not_lt_zero _), fun k hk => absurd hk (Nat.not_lt_zero _), fun k hk => absurd hk (Nat.not_lt_zero _), fun k _ hk => absurd hk (Nat.not_lt_zero _), fun k _ hk => absurd hk (Nat.not_lt_zero _), fun k hk => absurd hk (Nat.not_lt_zero _), hgl⟩
  have hgood : Good fn.ntmps w.heap.size R (fun _ => default) LH.empty w (argS args 0) LH.empty { tmps := vs ++ Array.replicate (fn.ntmps - vs.size) undef, defers := [] } w :=
    ⟨R, fun _ => default, Trans.refl hrep (Nat.le_refl _), args_act hvs hle (fun i a hi => .ro (ha i a hi))⟩
  have fin : ∀ s h a w', Good fn.ntmps w.heap.size R (fun _ => default) LH.empty w s h a w' → finD l r s h →
      a.defers = [] ∧ ∃ v, (results fn a.tmps).run P w' = .ok v w' ∧ ∃ v', ∃ R', Ending.returned v = .returned v' ∧ RoLe R R' ∧ (∀ b, b < w.heap.size → R' b = R b) ∧ (∀ b o, R' b = some o → w'.heap[b]? = some o) ∧ Below w.heap.size w w' ∧ Ro R' r v' := by
    intro s h a w' hg hq
    obtain ⟨R1, ι1, hT, hA⟩ := hg
    obtain ⟨v, hv1, hv2⟩ := out_ok hT.rep hA hl hq.1
    refine ⟨hA.defers, v, hv1, v, fun b => if b < w.heap.size then R b else w'.heap[b]?, rfl, ?_, ?_, ?_, hT.below, ?_⟩
    · intro b o hbo
      have h1 := hR b o hbo
      have h2 := (Array.getElem?_eq_some_iff.1 h1).1
      simp only [h2, if_true]; exact hbo
    · intro b hb; simp [hb]
    · intro b o hbo
      by_cases hlt : b < w.heap.size
      · simp only [hlt, if_true] at hbo
        rw [hT.below.block b hlt]; exact hR b o hbo
      · simp only [hlt, if_false] at hbo; exact hbo
    · refine roTo3d_ok hT.rep ?_ ?_ hv2 hq.2
      · intro b o hbo
        by_cases hlt : b < w.heap.size
        · simp only [hlt, if_true]; rw [← hT.rob b hlt]; exact hbo
        · simp only [hlt, if_false]; exact hT.rep.ro b o hbo
      · intro k hk h1 h3
        have := (hT.rep.base k hk h1 h3).1
        simp only [show ¬ (ι1 k).b < w.heap.size by omega, if_false]
  refine lwp_ok (N := fn.ntmps) (B := w.heap.size) (R0 := R) (ι0 := fun _ => default) (h0 := LH.empty) (w0 := w) c lc hc (K := finD l r) (E := fun _ _ _ => False) (T := finD l r) ?_ ?_ ?_ _ _ _ _ hgood hw
  · intro s h a w' hg hq; exact fin s h a w' hg hq
  · intro id s h a w' _ hq; exact hq.elim
  · intro s h a w' hg hq; exact fin s h a w' hg hq
end
end Go.Proofs.YtdfiicpikcdokaaGreatDoor
namespace Go.Proofs.YtdfiicpikcdokaaGreatDoor
set_option linter.unusedSimpArgs false
set_option linter.unusedVariables false
open Go.RowKit

abbrev FW (ro : Option Nat) : Fence := { Fence.wide with round := ro }
def shf (a : Act) (ds : List Deferred) : Act := { a with defers := a.defers ++ ds }
theorem shf_put (a : Act) (ds : List Deferred) (d : Option Tmp) (v : Value) : (shf a ds).put d v = shf (a.put d v) ds := by cases d <;> rfl
theorem shf_eval (a : Act) (ds : List Deferred) : (shf a ds).eval = a.eval := by funext x; cases x <;> rfl
def unD (a : Act) : Act := { a with defers := [] }
theorem shf_unD {a : Act} {ds : List Deferred} (h : a.defers = ds) : shf (unD a) ds = a := by cases a; subst h; rfl

def ndOp (o : Oper) : Bool :=
  match o.op with
  | .defer _ => false
  | _ => true
theorem ndOp_ok {o : Oper} (h : ndOp o = true) : ∀ c, o.op ≠ .defer c := by
  intro c e
  unfold ndOp at h
  rw [e] at h
  simp at h
def ndCode : Code → Bool
  | .region _ ops _ => ops.toList.all ndOp
  | .seq x y => ndCode x && ndCode y
  | .cond _ x y => ndCode x && ndCode y
  | .block _ x => ndCode x
  | .loop x => ndCode x
  | _ => true
theorem nd_get {ops : Array Oper} (h : ops.toList.all ndOp = true) : ∀ (i : Nat) (o : Oper), ops[i]? = some o → ndOp o = true := by
  intro i o ho
  refine List.all_eq_true.1 h o ?_
  rw [← Array.getElem?_toList] at ho
  exact List.mem_of_getElem? ho

theorem callsIn_to {ro : Option Nat} {n : Nat} {P : Program} {f : FuncId} {args : Array Value} {w : World} {R : Ending → World → Prop} (h : Calls P f args w R) : CallsIn (FW ro) n P f args w R :=
  (callsIn_wide (n := n)).2 h
theorem rowsIn_to {ro : Option Nat} {n : Nat} {P : Program} {row : String} {args : Array Value} {w : World} {R : Value → World → Prop} (h : Rows P row args w R) : RowsIn (FW ro) n P row args w R :=
  fun c cs _ => let ⟨v, w', hr, hs⟩ := h c cs; ⟨v, w', hr, stepsIn_wide.2 hs⟩

theorem wpOps_in {ro : Option Nat} {n : Nat} {P : Program} {ops : Array Oper} {ds : List Deferred} {Q Q' : Exit → Act → World → Prop} (hnd : ∀ (i : Nat) (o : Oper), ops[i]? = some o → ndOp o = true) (hq : ∀ e a w, Q e a w → Q' e (shf a ds) w) (hlt : ¬ LetsOut Q) :
    ∀ (l : List Nat) (a : Act) (w : World), wpOps P ops Q l a w → wpOpsIn (FW ro) n P ops Q' l (shf a ds) w := by
  intro l
  induction l with
  | nil => intro a w h; exact hq _ _ _ h
  | cons i rest ih =>
    intro a w h
    unfold wpOps at h
    unfold wpOpsIn
    cases ho : ops[i]? with
    | none => simp only [ho] at h ⊢; exact ih a w h
    | some o =>
      simp only [ho] at h ⊢
      have hy : yielded ops (shf a ds).tmps = yielded ops a.tmps := rfl
      rw [hy]
      by_cases hw : Region.wanted o (yielded ops a.tmps) = true
      · rw [if_pos hw] at h ⊢
        rcases h with h | h
        rotate_left
        · exact absurd h.2 hlt
        refine ⟨fun _ _ => trivial, ?_⟩
        rw [Oper.semAt_eq _ _ _ (ndOp_ok (hnd i o ho)), shf_eval]
        unfold Oper.wp at h
        generalize (execOp a.eval o).run P w = r at h ⊢
        unfold Oper.upon at h
        unfold Oper.uponIn
        split at h
        · dsimp only; rw [shf_put]; exact ih _ _ h
        · dsimp only; rw [shf_put]; exact ih _ _ h
        · dsimp only
          have h3 := ih _ _ h
          rw [← shf_put] at h3
          exact h3
        · dsimp only
          refine ⟨fun hd => by simp [Fence.wide] at hd, (callsIn_to h).mono ?_⟩
          rintro e w2 hr
          cases e with
          | returned v => dsimp only at hr ⊢; rw [shf_put]; exact ih _ _ hr
          | panicked c => exact hq _ _ _ hr
          | outgrown => exact absurd hr hlt
        · dsimp only
          refine ⟨fun hd => by simp [Fence.wide] at hd, (rowsIn_to h).mono ?_⟩
          intro v w2 hr
          rw [shf_put]; exact ih _ _ hr
        · exact hq _ _ _ h
        · exact h.elim
      · rw [if_neg hw] at h ⊢
        refine ⟨fun _ _ => trivial, ?_⟩
        rw [shf_put]; exact ih _ _ h

def GoodD (N B : Nat) (R0 : RO) (ι0 : IM) (h0 : LH) (w0 : World) (ds : List Deferred) (s : LS) (h : LH) (a : Act) (w : World) : Prop := a.defers = ds ∧ Good N B R0 ι0 h0 w0 s h (unD a) w

section
variable {P : Program} {N B : Nat} {R0 : RO} {ι0 : IM} {h0 : LH} {w0 : World} {ds : List Deferred} {ro : Option Nat} {n : Nat}

theorem unD_shf {a : Act} (h : a.defers = []) : unD (shf a ds) = a := by cases a; subst h; rfl
theorem shf_defers {a : Act} (h : a.defers = []) : (shf a ds).defers = ds := by simp [shf, h]
theorem Good.defers {s : LS} {h : LH} {a : Act} {w : World} (hg : Good N B R0 ι0 h0 w0 s h a w) : a.defers = [] := by obtain ⟨_, _, _, hA⟩ := hg; exact hA.defers
theorem Good.toD {s : LS} {h : LH} {a : Act} {w : World} (hg : Good N B R0 ι0 h0 w0 s h a w) : GoodD N B R0 ι0 h0 w0 ds s h (shf a ds) w := ⟨shf_defers hg.defers, by rw [unD_shf hg.defers]; exact hg⟩

theorem lops_okIn {dr : Bool} {ops : Array Oper} {Q : Exit → Act → World → Prop} {K : LS → LH → Prop} (hnd : ops.toList.all ndOp = true) (hK : ∀ s h a w, GoodD N B R0 ι0 h0 w0 ds s h a w → K s h → Q .normal a w)
    (idx : List Nat) (os : List Oper) (l : List LX) (hi : idx.filterMap (ops[·]?) = os) (hc : cOps dr P N ops os = some l) (s : LS) (h : LH) (a : Act) (w : World) (hg : GoodD N B R0 ι0 h0 w0 ds s h a w) (hl : lops P l K s h) : wpOpsIn (FW ro) n P ops Q idx a w := by
  have h1 := lops_ok (P := P) (Q := fun e a w => e = .normal ∧ ∃ s h, Good N B R0 ι0 h0 w0 s h a w ∧ K s h) (K := K) (fun s h a w hg hk => ⟨rfl, s, h, hg, hk⟩) idx os l hi hc s h (unD a) w hg.2 hl
  have h2 := wpOps_in (ro := ro) (n := n) (ds := ds) (Q' := Q) (nd_get hnd) (fun e a w hq => by
    obtain ⟨rfl, s, h, hg, hk⟩ := hq
    exact hK s h _ w hg.toD hk) (fun hh => by obtain ⟨a, w, h, _⟩ := hh; cases h) idx (unD a) w h1
  rw [shf_unD hg.1] at h2
  exact h2

theorem lwpIn_ok : ∀ (c : Code) (lc : LC), cCode P N c = some (erase lc) → ndCode c = true → ∀ {K : LS → LH → Prop} {E : Nat → LS → LH → Prop} {T : LS → LH → Prop} {Q : Exit → Act → World → Prop},
    (∀ s h a w, GoodD N B R0 ι0 h0 w0 ds s h a w → K s h → Q .normal a w) → (∀ id s h a w, GoodD N B R0 ι0 h0 w0 ds s h a w → E id s h → Q (.exit id) a w) → (∀ s h a w, GoodD N B R0 ι0 h0 w0 ds s h a w → T s h → Q .ret a w) →
    ∀ s h a w, GoodD N B R0 ι0 h0 w0 ds s h a w → lwp P h0.n lc K E T s h → c.wpIn (FW ro) n P Q a w := by
  intro c
  induction c with
  | skip =>
    intro lc hc hnd K E T Q hK hE hT s h a w hg hl
    simp only [cCode, Option.some.injEq] at hc
    obtain rfl := er_skip hc.symm
    exact wpIn_skip (hK s h a w hg hl)
  | region id ops draw =>
    intro lc hc hnd K E T Q hK hE hT s h a w hg hl
    cases draw with
    | true =>
      simp only [cCode] at hc
      split at hc
      · rename_i l hl'
        have hlen : l.length = ops.size := by have := (cOps_get hl').1; simpa using this
        rw [Option.map_eq_some_iff] at hc
        obtain ⟨n, hn, hc⟩ := hc
        have hok : drawOkR P ops l n.contains = true := drawAt_ok hn
        obtain rfl := er_dreg hc.symm
        exact wpIn_region_draw fun t => lops_okIn hnd hK _ _ _ rfl (cOps_pick hl' _) s h a _ ⟨hg.1, hg.2.drew⟩ (lops_draw hl' hlen hok hl t)
      · simp at hc
    | false =>
      simp only [cCode, Option.map_eq_some_iff] at hc
      obtain ⟨l, hl', hc⟩ := hc
      obtain rfl := er_reg hc.symm
      exact wpIn_region (lops_okIn hnd hK _ _ _ (filterMap_range ops) hl' s h a w hg hl)
  | seq x y ihx ihy =>
    intro lc hc hnd K E T Q hK hE hT s h a w hg hl
    simp only [ndCode, Bool.and_eq_true] at hnd
    simp only [cCode] at hc
    split at hc
    · rename_i lx' ly' hx hy
      injection hc with hc
      obtain ⟨lx, ly, hlc | hlc, rfl, rfl⟩ := er_seq hc.symm
      · subst hlc
        refine wpIn_seq (ihx lx hx hnd.1 (K := fun s h => lwp P h0.n ly K E T s h) (E := E) (T := T) ?_ ?_ ?_ s h a w hg hl)
        · intro s h a w hg hl; exact ihy ly hy hnd.2 hK hE hT s h a w hg hl
        · intro id s h a w hg hl; exact hE id s h a w hg hl
        · intro s h a w hg hl; exact hT s h a w hg hl
      · subst hlc
        refine wpIn_seq (ihx lx hx hnd.1 (K := fun s h => ∃ s' h', Wk h0.n s h s' h' ∧ lwp P h0.n ly K E T s' h') (E := E) (T := T) ?_ ?_ ?_ s h a w hg hl)
        · intro s h a w hg hl
          obtain ⟨s', h', hw, hl⟩ := hl
          exact ihy ly hy hnd.2 hK hE hT s' h' a w ⟨hg.1, hg.2.wk hw⟩ hl
        · intro id s h a w hg hl; exact hE id s h a w hg hl
        · intro s h a w hg hl; exact hT s h a w hg hl
    · simp at hc
  | cond c x y ihx ihy =>
    intro lc hc hnd K E T Q hK hE hT s h a w hg hl
    simp only [ndCode, Bool.and_eq_true] at hnd
    simp only [cCode] at hc
    split at hc
    · rename_i lx' ly' hx hy
      injection hc with hc
      obtain ⟨lx, ly, rfl, rfl, rfl⟩ := er_cond hc.symm
      obtain ⟨h1, h2, h3⟩ := hl
      obtain ⟨hd, R, ι, hTr, hA⟩ := hg
      obtain ⟨b, hb, hv⟩ := isBool_inv (op1_ok (eval_ok hA) rfl h2) h1
      have hv' : a.eval c = .bool b := by rw [← hv]; cases c <;> rfl
      refine wpIn_cond_split hv' (fun e => ?_) (fun e => ?_)
      · subst e; exact ihx lx hx hnd.1 hK hE hT s h a w ⟨hd, R, ι, hTr, hA⟩ (h3.1 (by rw [hb]; rfl))
      · subst e; exact ihy ly hy hnd.2 hK hE hT s h a w ⟨hd, R, ι, hTr, hA⟩ (h3.2 (by rw [hb]; rfl))
    · simp at hc
  | block id x ih =>
    intro lc hc hnd K E T Q hK hE hT s h a w hg hl
    simp only [cCode, Option.map_eq_some_iff] at hc
    obtain ⟨lx', hx, hc⟩ := hc
    obtain ⟨lx, rfl, rfl⟩ := er_block hc.symm
    refine wpIn_block (ih lx hx hnd (K := K) (E := fun j s h => if j = id then K s h else E j s h) (T := T) ?_ ?_ ?_ s h a w hg hl)
    · intro s h a w hg hl; exact hK s h a w hg hl
    · intro j s h a w hg hl
      simp only [Exit.inBlock]
      split
      · rename_i e; rw [if_pos e] at hl; exact hK s h a w hg hl
      · rename_i e; rw [if_neg e] at hl; exact hE j s h a w hg hl
    · intro s h a w hg hl; exact hT s h a w hg hl
  | loop x ih =>
    intro lc hc hnd K E T Q hK hE hT s h a w hg hl
    simp only [cCode, Option.map_eq_some_iff] at hc
    obtain ⟨lx', hx, hc⟩ := hc
    obtain ⟨lx, rfl, rfl⟩ := er_loop hc.symm
    obtain ⟨α, I, sv, ho, μ, x0, hI0, hw0, hnb, hround⟩ := hl
    have hch : ∀ (p : Act × World), ∃ n : Nat, (∃ x, I x ∧ Good N B R0 ι0 h0 w0 (mkS (sv x)) (mkH (ho x)) p.1 p.2) → (∃ x, I x ∧ μ x = n ∧ Good N B R0 ι0 h0 w0 (mkS (sv x)) (mkH (ho x)) p.1 p.2) ∧
        ∀ x, I x → Good N B R0 ι0 h0 w0 (mkS (sv x)) (mkH (ho x)) p.1 p.2 → n ≤ μ x := by
      intro p
      by_cases hex : ∃ x, I x ∧ Good N B R0 ι0 h0 w0 (mkS (sv x)) (mkH (ho x)) p.1 p.2
      · have : ∀ n, (∃ x, I x ∧ μ x = n ∧ Good N B R0 ι0 h0 w0 (mkS (sv x)) (mkH (ho x)) p.1 p.2) → ∃ m, (∃ x, I x ∧ μ x = m ∧ Good N B R0 ι0 h0 w0 (mkS (sv x)) (mkH (ho x)) p.1 p.2) ∧
            ∀ x, I x → Good N B R0 ι0 h0 w0 (mkS (sv x)) (mkH (ho x)) p.1 p.2 → m ≤ μ x := by
          intro n
          induction n using Nat.strongRecOn with
          | _ n ihn =>
            intro hn
            by_cases hlow : ∃ x, I x ∧ μ x < n ∧ Good N B R0 ι0 h0 w0 (mkS (sv x)) (mkH (ho x)) p.1 p.2
            · obtain ⟨x, h1, h2, h3⟩ := hlow
              exact ihn (μ x) h2 ⟨x, h1, rfl, h3⟩
            · refine ⟨n, hn, fun x hIx hgx => ?_⟩
              rcases Nat.lt_or_ge (μ x) n with hlt | hge
              · exact absurd ⟨x, hIx, hlt, hgx⟩ hlow
              · exact hge
        obtain ⟨x, h1, h2⟩ := hex
        obtain ⟨m, hm1, hm2⟩ := this (μ x) ⟨x, h1, rfl, h2⟩
        exact ⟨m, fun _ => ⟨hm1, hm2⟩⟩
      · exact ⟨0, fun h => absurd h hex⟩
    obtain ⟨ν, hν⟩ := Classical.axiomOfChoice hch
    refine wpIn_loop (fun a w => ∃ x, I x ∧ GoodD N B R0 ι0 h0 w0 ds (mkS (sv x)) (mkH (ho x)) a w) (fun a w => ν (unD a, w)) ⟨x0, hI0, hg.1, hg.2.weak (hnb x0) hw0⟩ ?_
    intro a w hI
    obtain ⟨x1, hIx1, hd, hg1⟩ := hI
    obtain ⟨⟨x, hIx, hμ, hgx⟩, _⟩ := hν (unD a, w) ⟨x1, hIx1, hg1⟩
    refine ih lx hx hnd (K := fun s' h' => ∃ y, I y ∧ weakTo s' h' (sv y) (ho y) ∧ μ y < μ x) (E := E) (T := T) ?_ ?_ ?_ _ _ a w ⟨hd, hgx⟩ (hround x hIx)
    · intro s' h' a' w' hg' hy
      obtain ⟨y, hIy, hwy, hlt⟩ := hy
      have hgy := hg'.2.weak (hnb y) hwy
      refine ⟨⟨y, hIy, hg'.1, hgy⟩, ?_⟩
      have := (hν (unD a', w') ⟨y, hIy, hgy⟩).2 y hIy hgy
      show ν (unD a', w') < ν (unD a, w)
      omega
    · intro id s h a w hg hl; exact hE id s h a w hg hl
    · intro s h a w hg hl; exact hT s h a w hg hl
  | exit id =>
    intro lc hc hnd K E T Q hK hE hT s h a w hg hl
    simp only [cCode, Option.some.injEq] at hc
    obtain rfl := er_exit hc.symm
    exact wpIn_exit (hE id s h a w hg hl)
  | ret =>
    intro lc hc hnd K E T Q hK hE hT s h a w hg hl
    simp only [cCode, Option.some.injEq] at hc
    obtain rfl := er_ret hc.symm
    exact wpIn_ret (hT s h a w hg hl)
  | _ => intro lc hc; simp [cCode] at hc

end
end Go.Proofs.YtdfiicpikcdokaaGreatDoor
namespace Go.Proofs.YtdfiicpikcdokaaGreatDoor
set_option linter.unusedSimpArgs false
set_option linter.unusedVariables false
open Go.RowKit

def inert : Obj → Bool
  | .cells .. => false
  | .map .. => false
  | _ => true
def roAdd (R : RO) (b : Nat) (o : Obj) : RO := fun x => if x = b then some o else R x
def roDel (R : RO) (b : Nat) : RO := fun x => if x = b then none else R x

theorem roAdd_le {R : RO} {b : Nat} {o : Obj} (h : R b = none) : RoLe R (roAdd R b o) := by
  intro x y hx
  unfold roAdd
  split
  · rename_i e; subst e; rw [h] at hx; cases hx
  · exact hx
theorem roDel_cell {R : RO} {b : Nat} {o : Obj} (hb : R b = some o) (hi : inert o = true) {x off : Nat} {v : Value} (h : roCell R x off = some v) : roCell (roDel R b) x off = some v := by
  unfold roCell at h ⊢
  unfold roDel
  by_cases e : x = b
  · subst e
    rw [hb] at h
    cases o <;> simp_all [inert]
  · rw [if_neg e]; exact h
theorem Ro.del {R : RO} {b : Nat} {o : Obj} (hb : R b = some o) (hi : inert o = true) {lv : LV} {v : Value} (hr : Ro R lv v) : Ro (roDel R b) lv v := by
  induction hr with
  | sc v hp => exact .sc v hp
  | nsl => exact .nsl
  | agg cs vs hl _ hp ih => exact .agg cs vs hl ih hp
  | tup cs vs hl _ ih => exact .tup cs vs hl ih
  | rsl sz n f a cap b' o' g hc hm ha hf hcell _ hp ih => exact .rsl sz n f a cap b' o' g hc hm ha hf (fun i j hi' hj => roDel_cell hb hi (hcell i j hi' hj)) ih hp
  | rptr cs b' o' g hcell _ hp ih => exact .rptr cs b' o' g (fun j hj => roDel_cell hb hi (hcell j hj)) ih hp
  | fn f cs vs hl _ ih => exact .fn f cs vs hl ih
  | rmp es b' ents clock hb' hl hn hk _ ih =>
    refine .rmp es b' ents clock ?_ hl hn hk ih
    unfold roDel
    rw [if_neg]
    · exact hb'
    · intro e; subst e; rw [hb] at hb'; cases hb'; simp [inert] at hi
  | ifc b v hv => exact .ifc b v hv
theorem Rv.del {R : RO} {ι : IM} {h : LH} {b : Nat} {o : Obj} (hb : R b = some o) (hi : inert o = true) {lv : LV} {v : Value} (hr : Rv R ι h lv v) : Rv (roDel R b) ι h lv v := by
  induction hr with
  | any v => exact .any v
  | ro hr => exact .ro (hr.del hb hi)
  | agg cs vs hl _ hp ih => exact .agg cs vs hl ih hp
  | tup cs vs hl _ ih => exact .tup cs vs hl ih
  | fn f cs vs hl _ ih => exact .fn f cs vs hl ih
  | cnd g lv v _ hu ih => exact .cnd g lv v ih hu
  | sl k ver sz off len a cap hk hver hlc hm hz => exact .sl k ver sz off len a cap hk hver hlc hm hz
  | ptr k ver sz i c a hk hver ha => exact .ptr k ver sz i c a hk hver ha
  | mp k ver b hk hver hb => exact .mp k ver b hk hver hb

theorem Rep.ro_to {R R' : RO} {ι : IM} {h : LH} {B : Nat} {w : World} (hr : Rep R ι h B w) (hro : ∀ (b : Nat) (o : Obj), R' b = some o → w.heap[b]? = some o) (hv : ∀ lv v, Rv R ι h lv v → Rv R' ι h lv v)
    (hn : ∀ k, k < h.n → (h.f k).2.live = true → ((ι k).m ≠ 0 ∨ (h.f k).2.isMap = true) → R' (ι k).b = none) (hg : Gl R') : Rep R' ι h B w := by
  refine ⟨hro, ?_, hr.empty, ?_, hr.apart, ?_, hr.ty, hg⟩
  · intro k hk h1 h2 h3
    obtain ⟨cl, e, q1, q2, q3, q4, q5⟩ := (hr.cells k hk h1 h2 h3).ex
    exact ⟨cl, e, q1, q2, q3, q4, fun i c lv hx => let ⟨v, a1, a2⟩ := q5 i c lv hx; ⟨v, a1, hv _ _ a2⟩⟩
  · intro k hk h1 h2
    obtain ⟨a, b, _⟩ := hr.base k hk h1 h2
    exact ⟨a, b, hn k hk h1 h2⟩
  · intro k es hk he
    obtain ⟨ents, clock, q1, q2, q3, q4⟩ := hr.maps k es hk he
    refine ⟨ents, clock, q1, q2, q3, fun i kv hkv => ?_⟩
    obtain ⟨en, a1, a2, a3⟩ := q4 i kv hkv
    exact ⟨en, a1, a2, hv _ _ a3⟩
theorem Rep.not_inert {R : RO} {ι : IM} {h : LH} {B : Nat} {w : World} (hr : Rep R ι h B w) {k : Nat} (hk : k < h.n) (hl : (h.f k).2.live = true) (hm : (ι k).m ≠ 0 ∨ (h.f k).2.isMap = true) : ∃ o, w.heap[(ι k).b]? = some o ∧ inert o = false := by
  by_cases hmp : (h.f k).2.isMap = true
  · cases he : (h.f k).2 with
    | map es =>
      obtain ⟨ents, clock, q1, _⟩ := hr.maps k es hk he
      exact ⟨_, q1, rfl⟩
    | _ => rw [he] at hmp; cases hmp
  · have hmp' : (h.f k).2.isMap = false := by simpa using hmp
    have h3 : (ι k).m ≠ 0 := by rcases hm with h3 | h3
                                · exact h3
                                · exact absurd h3 hmp
    obtain ⟨cl, e, q1, _⟩ := (hr.cells k hk hl hmp' h3).ex
    exact ⟨_, q1, rfl⟩
theorem Rep.freezeI {R : RO} {ι : IM} {h : LH} {B : Nat} {w : World} (hr : Rep R ι h B w) {b : Nat} {o : Obj} (hb : w.heap[b]? = some o) (hi : inert o = true) (hn : R b = none) : Rep (roAdd R b o) ι h B w := by
  have hle : RoLe R (roAdd R b o) := roAdd_le hn
  refine hr.ro_to ?_ (fun lv v hv => hv.mono ⟨hle, Nat.le_refl _, fun _ _ => Nat.le_refl _, fun _ _ _ => rfl⟩) ?_ (hr.gl.mono hle)
  · intro x y hx
    unfold roAdd at hx
    split at hx
    · rename_i e; subst e; cases hx; exact hb
    · exact hr.ro x y hx
  · intro k hk h1 h2
    unfold roAdd
    rw [if_neg]
    · exact (hr.base k hk h1 h2).2.2
    · intro e
      obtain ⟨o', q1, q2⟩ := hr.not_inert hk h1 h2
      rw [e, hb] at q1; cases q1; rw [hi] at q2; cases q2
theorem Rep.thaw {R : RO} {ι : IM} {h : LH} {B : Nat} {w : World} (hr : Rep R ι h B w) {b : Nat} {o : Obj} (hb : R b = some o) (hi : inert o = true) (hg : Gl (roDel R b)) : Rep (roDel R b) ι h B w := by
  refine hr.ro_to ?_ (fun lv v hv => hv.del hb hi) ?_ hg
  · intro x y hx
    unfold roDel at hx
    split at hx
    · cases hx
    · exact hr.ro x y hx
  · intro k hk h1 h2
    unfold roDel
    split
    · rfl
    · exact (hr.base k hk h1 h2).2.2
theorem Rep.world {R : RO} {ι : IM} {h : LH} {B : Nat} {w w' : World} (hr : Rep R ι h B w) (hsz : w.heap.size ≤ w'.heap.size) (hro : ∀ (b : Nat) (o : Obj), R b = some o → w'.heap[b]? = some o) (hk : ∀ (b : Nat) (o : Obj), w.heap[b]? = some o → inert o = false → w'.heap[b]? = some o) : Rep R ι h B w' := by
  refine ⟨hro, ?_, hr.empty, ?_, hr.apart, ?_, ?_, hr.gl⟩
  · intro k hk' h1 h2 h3
    obtain ⟨cl, e, q1, q2, q3, q4, q5⟩ := (hr.cells k hk' h1 h2 h3).ex
    exact ⟨cl, e, hk _ _ q1 rfl, q2, q3, q4, q5⟩
  · intro k hk' h1 h2
    obtain ⟨a, b, c⟩ := hr.base k hk' h1 h2
    exact ⟨a, Nat.lt_of_lt_of_le b hsz, c⟩
  · intro k es hk' he
    obtain ⟨ents, clock, q1, q2⟩ := hr.maps k es hk' he
    exact ⟨ents, clock, hk _ _ q1 rfl, q2⟩
  · intro k hk'
    have ht := hr.ty k hk'
    cases ho : (h.f k).2 with
    | tbox t cs =>
      rw [ho] at ht
      exact ⟨ht.1, ht.2.1, fun h0 => let ⟨c, hc⟩ := ht.2.2 h0; ⟨c, hk _ _ hc rfl⟩⟩
    | byt t xs =>
      rw [ho] at ht
      exact ⟨ht.1, fun h0 => let ⟨c, hc⟩ := ht.2 h0; ⟨c, hk _ _ hc rfl⟩⟩
    | _ => trivial
theorem Trans.world {B : Nat} {R0 R : RO} {ι0 ι : IM} {h0 h : LH} {w0 w w' : World} (hT : Trans B R0 ι0 h0 w0 R ι h w) (hb : Below B w w') (hro : ∀ (b : Nat) (o : Obj), R b = some o → w'.heap[b]? = some o) (hk : ∀ (b : Nat) (o : Obj), w.heap[b]? = some o → inert o = false → w'.heap[b]? = some o) : Trans B R0 ι0 h0 w0 R ι h w' :=
  ⟨hT.rep.world hb.size hro hk, hT.mono, hT.below.trans hb, hT.rob, hT.size⟩
theorem Trans.putI {B : Nat} {R0 R : RO} {ι0 ι : IM} {h0 h : LH} {w0 w : World} (hT : Trans B R0 ι0 h0 w0 R ι h w) {b : Nat} {o : Obj} (o' : Obj) (hB : B ≤ b) (hb : w.heap[b]? = some o) (hi : inert o = true) (hn : R b = none) : Trans B R0 ι0 h0 w0 R ι h (w.putObj b o') := by
  refine hT.world ⟨rfl, rfl, rfl, by simp, fun k hk => World.putObj_heap_other (by omega)⟩ ?_ ?_
  · intro x y hx
    rw [World.putObj_heap_other]
    · exact hT.rep.ro x y hx
    · intro e; subst e; rw [hn] at hx; cases hx
  · intro x y hx hy
    rw [World.putObj_heap_other]
    · exact hx
    · intro e; subst e; rw [hb] at hx; cases hx; rw [hi] at hy; cases hy
theorem Trans.allocI {B : Nat} {R0 R : RO} {ι0 ι : IM} {h0 h : LH} {w0 w : World} (hT : Trans B R0 ι0 h0 w0 R ι h w) (o : Obj) : Trans B R0 ι0 h0 w0 R ι h (w.alloc o) := by
  have hB : B ≤ w.heap.size := Nat.le_trans hT.size hT.below.size
  have hk : ∀ (b : Nat) (y : Obj), w.heap[b]? = some y → (w.alloc o).heap[b]? = some y := by
    intro b y hb
    have := (Array.getElem?_eq_some_iff.1 hb).1
    show (w.heap.push o)[b]? = some y
    rw [Array.getElem?_push, if_neg (by omega)]; exact hb
  refine hT.world ⟨rfl, rfl, rfl, by simp, fun k hk' => ?_⟩ (fun b y hb => hk b y (hT.rep.ro b y hb)) (fun b y hb _ => hk b y hb)
  show (w.heap.push o)[k]? = w.heap[k]?
  rw [Array.getElem?_push, if_neg (by omega)]

structure Besides (B D : Nat) (rec : Loop) (R : RO) (w : World) : Prop where
  B : B ≤ D
  d : w.heap[D]? = some (.deferred (some []))
  l : w.heap[D + 1]? = some (.loop rec)
  nd : R D = none
  nl : R (D + 1) = none

def GoodL (N B D : Nat) (rec : Loop) (R0 : RO) (ι0 : IM) (h0 : LH) (w0 : World) (ds : List Deferred) (s : LS) (h : LH) (a : Act) (w : World) : Prop :=
  a.defers = ds ∧ ∃ R ι, Trans B R0 ι0 h0 w0 R ι h w ∧ ActOk N (unD a) s R ι h ∧ Besides B D rec R w

theorem besides_freeze {B D : Nat} {rec : Loop} {R : RO} {ι : IM} {h : LH} {w : World} (hr : Rep R ι h B w) (hb : Besides B D rec R w) : Rep (roAdd (roAdd R D (.deferred (some []))) (D + 1) (.loop rec)) ι h B w := by
  refine (hr.freezeI hb.d rfl hb.nd).freezeI hb.l rfl ?_
  unfold roAdd
  rw [if_neg (by omega)]
  exact hb.nl
theorem besides_thaw {B D : Nat} {rec : Loop} {R R' : RO} {ι ι' : IM} {h h' : LH} {w w' : World} (hr : Rep R ι h B w) (hb : Besides B D rec R w) (hT : Trans B (roAdd (roAdd R D (.deferred (some []))) (D + 1) (.loop rec)) ι h w R' ι' h' w') :
    ∃ R2, Trans B R ι h w R2 ι' h' w' ∧ Besides B D rec R2 w' ∧ ∀ lv v, Rv R' ι' h' lv v → Rv R2 ι' h' lv v := by
  have hl : R' (D + 1) = some (.loop rec) := hT.mono.ro _ _ (by simp [roAdd])
  have hd : R' D = some (.deferred (some [])) := hT.mono.ro _ _ (by unfold roAdd; rw [if_neg (by omega), if_pos rfl])
  have hd2 : roDel R' (D + 1) D = some (.deferred (some [])) := by unfold roDel; rw [if_neg (by omega)]; exact hd
  have hle : RoLe R (roDel (roDel R' (D + 1)) D) := by
    intro b o hx
    unfold roDel
    by_cases e : b = D
    · subst e; rw [hb.nd] at hx; cases hx
    · by_cases e2 : b = D + 1
      · subst e2; rw [hb.nl] at hx; cases hx
      · rw [if_neg e, if_neg e2]
        refine hT.mono.ro b o ?_
        unfold roAdd
        rw [if_neg e2, if_neg e]; exact hx
  have hle1 : RoLe R (roDel R' (D + 1)) := by
    intro b o hx
    have := hle b o hx
    unfold roDel at this
    split at this
    · cases this
    · exact this
  have hrep : Rep (roDel (roDel R' (D + 1)) D) ι' h' B w' := (hT.rep.thaw hl rfl (hr.gl.mono hle1)).thaw hd2 rfl (hr.gl.mono hle)
  refine ⟨roDel (roDel R' (D + 1)) D, ⟨hrep, ⟨hle, hT.mono.n, hT.mono.ver, hT.mono.same⟩, hT.below, fun b hb' => ?_, hT.size⟩, ⟨hb.B, hT.rep.ro _ _ hd, hT.rep.ro _ _ hl, ?_, ?_⟩, fun lv v hv => (hv.del hl rfl).del hd2 rfl⟩
  · have hB := hb.B
    have := hT.rob b hb'
    unfold roDel
    rw [if_neg (by omega), if_neg (by omega), this]
    unfold roAdd
    rw [if_neg (by omega), if_neg (by omega)]
  · unfold roDel; rw [if_pos rfl]
  · unfold roDel; rw [if_neg (by omega), if_pos rfl]

theorem ActOk.rv {N : Nat} {a : Act} {s : LS} {R R' : RO} {ι ι' : IM} {h h' : LH} (hA : ActOk N a s R ι h) (hv : ∀ lv v, Rv R ι h lv v → Rv R' ι' h' lv v) : ActOk N a s R' ι' h' := ⟨hA.defers, hA.size, fun t => hv _ _ (hA.slots t)⟩

theorem lwpL_ok {P : Program} {N B D : Nat} {rec : Loop} {R0 : RO} {ι0 : IM} {h0 : LH} {w0 : World} {ds : List Deferred} {ro : Option Nat} {n : Nat} {c : Code} {lc : LC} (hc : cCode P N c = some (erase lc)) (hnd : ndCode c = true)
    {K : LS → LH → Prop} {E : Nat → LS → LH → Prop} {T : LS → LH → Prop} {Q : Exit → Act → World → Prop}
    (hK : ∀ s h a w, GoodL N B D rec R0 ι0 h0 w0 ds s h a w → K s h → Q .normal a w) (hE : ∀ id s h a w, GoodL N B D rec R0 ι0 h0 w0 ds s h a w → E id s h → Q (.exit id) a w) (hT : ∀ s h a w, GoodL N B D rec R0 ι0 h0 w0 ds s h a w → T s h → Q .ret a w)
    {s : LS} {h : LH} {a : Act} {w : World} (hg : GoodL N B D rec R0 ι0 h0 w0 ds s h a w) (hl : lwp P h.n lc K E T s h) : c.wpIn (FW ro) n P Q a w := by
  obtain ⟨hd, R, ι, hTr, hA, hb⟩ := hg
  have hB : B ≤ w.heap.size := Nat.le_trans hTr.size hTr.below.size
  have hrep := besides_freeze hTr.rep hb
  have hle : RoLe R (roAdd (roAdd R D (.deferred (some []))) (D + 1) (.loop rec)) := fun x y hx => by
    unfold roAdd
    by_cases e : x = D + 1
    · subst e; rw [hb.nl] at hx; cases hx
    · by_cases e2 : x = D
      · subst e2; rw [hb.nd] at hx; cases hx
      · rw [if_neg e, if_neg e2]; exact hx
  have hA' : ActOk N (unD a) s (roAdd (roAdd R D (.deferred (some []))) (D + 1) (.loop rec)) ι h := hA.mono ⟨hle, Nat.le_refl _, fun _ _ => Nat.le_refl _, fun _ _ _ => rfl⟩
  have back : ∀ s' h' a' w', GoodD N B (roAdd (roAdd R D (.deferred (some []))) (D + 1) (.loop rec)) ι h w ds s' h' a' w' → GoodL N B D rec R0 ι0 h0 w0 ds s' h' a' w' := by
    rintro s' h' a' w' ⟨hd', R', ι', hT', hA2⟩
    obtain ⟨R2, hT2, hb2, hv⟩ := besides_thaw hTr.rep hb hT'
    exact ⟨hd', R2, ι', hTr.trans hT2, hA2.rv hv, hb2⟩
  exact lwpIn_ok (N := N) (B := B) (ds := ds) c lc hc hnd (K := K) (E := E) (T := T) (fun s' h' a' w' hg' hk => hK s' h' a' w' (back _ _ _ _ hg') hk) (fun id s' h' a' w' hg' hk => hE id s' h' a' w' (back _ _ _ _ hg') hk) (fun s' h' a' w' hg' hk => hT s' h' a' w' (back _ _ _ _ hg') hk)
    s h a w ⟨hd, _, ι, Trans.refl hrep hB, hA'⟩ hl
end Go.Proofs.YtdfiicpikcdokaaGreatDoor
namespace Go.Proofs.YtdfiicpikcdokaaGreatDoor
set_option linter.unusedSimpArgs false
set_option linter.unusedVariables false
open Go.RowKit

theorem Besides.put {B D : Nat} {rec : Loop} {R : RO} {w : World} (hb : Besides B D rec R w) (rec' : Loop) : Besides B D rec' R (w.putObj (D + 1) (.loop rec')) :=
  ⟨hb.B, (World.putObj_heap_other (by omega)).trans hb.d, World.putObj_heap_same (Array.getElem?_eq_some_iff.1 hb.l).1, hb.nd, hb.nl⟩
theorem Trans.besidesPut {B D : Nat} {rec : Loop} {R0 R : RO} {ι0 ι : IM} {h0 h : LH} {w0 w : World} (hT : Trans B R0 ι0 h0 w0 R ι h w) (hb : Besides B D rec R w) (rec' : Loop) : Trans B R0 ι0 h0 w0 R ι h (w.putObj (D + 1) (.loop rec')) :=
  hT.putI _ (by have := hb.B; omega) hb.l rfl hb.nl

def RoundEnd (B D : Nat) (rec : Loop) (R : RO) (ι : IM) (h : LH) (w : World) (K T : LH → Prop) (e : Ending) (w' : World) : Prop :=
  ∃ R' ι' h', Trans B R ι h w R' ι' h' w' ∧
    ((e = .returned (.bool true) ∧ Besides B D { rec with state := .ready, pending := none } R' w' ∧ K h') ∨ (e = .returned (.bool false) ∧ Besides B D { rec with state := .done, pending := some .ret } R' w' ∧ T h'))

theorem round_ok {P : Program} {N B D n : Nat} {rec : Loop} {R Rs : RO} {ι ιs : IM} {h hs : LH} {w : World} {s0 : LS} {p : Tmp} {lv : LV} {v : Value} {lcA lcB : LC} {K T : LS → LH → Prop}
    (hst : rec.state = .ready) (hps : rec.params = #[p]) (hpN : p < N)
    (hA0 : ActOk N { tmps := rec.tmps, defers := [] } s0 Rs ιs hs) (hm : Mono Rs ιs hs R ι h) (hrep : Rep R ι h B w) (hB : B ≤ w.heap.size) (hb : Besides B D rec R w) (hv : Rv R ι h lv v)
    (hcA : cCode P N rec.assign = some (erase lcA)) (hnA : ndCode rec.assign = true) (hcB : cCode P N rec.body = some (erase lcB)) (hnB : ndCode rec.body = true)
    (hw : lwp P h.n lcA (fun s1 h1 => lwp P h1.n lcB K (fun _ _ _ => False) T s1 h1) (fun _ _ _ => False) (fun _ _ => False) (upd s0 p lv) h) :
    YieldAt (FW none) n P (D + 1) #[v] w (RoundEnd B D rec R ι h w (fun h' => ∃ s', K s' h') (fun h' => ∃ s', T s' h')) := by
  have hy := run_yield (P := P) (args := #[v]) hb.l (by rw [hps]; rfl)
  refine ⟨_, _, _, _, hy, roundIn_of_wpIn trivial ?_⟩
  have hfold : (rec.params.zip #[v]).foldl (fun tmps (t, a) => tmps.setIfInBounds t a) rec.tmps = rec.tmps.setIfInBounds p v := by rw [hps, ← Array.foldl_toList, Array.toList_zip]; rfl
  have hact : ActOk N { tmps := rec.tmps.setIfInBounds p v, defers := [] } (upd s0 p lv) R ι h := (hA0.mono hm).put (d := some p) (by simpa using hpN) hv
  have hg0 : GoodL N B D rec R ι h w [] (upd s0 p lv) h { tmps := (rec.params.zip #[v]).foldl (fun tmps (t, a) => tmps.setIfInBounds t a) rec.tmps, defers := [] } w := by
    rw [hfold]
    exact ⟨rfl, R, ι, Trans.refl hrep hB, hact, hb⟩
  refine lwpL_ok (ro := some (D + 1)) hcA hnA (K := fun s1 h1 => lwp P h1.n lcB K (fun _ _ _ => False) T s1 h1) (E := fun _ _ _ => False) (T := fun _ _ => False) ?_ (fun _ _ _ _ _ _ hh => hh.elim) (fun _ _ _ _ _ hh => hh.elim) hg0 hw
  rintro s1 h1 a1 w1 ⟨hd1, R1, ι1, hT1, hA1, hb1⟩ hl1
  refine ⟨_, run_beginRound hb1.l hst, ?_⟩
  have hg1 : GoodL N B D { rec with state := .busy } R ι h w [] s1 h1 a1 (w1.putObj (D + 1) (.loop { rec with state := .busy })) := ⟨hd1, R1, ι1, hT1.besidesPut hb1 _, hA1, hb1.put _⟩
  refine lwpL_ok (ro := some (D + 1)) hcB hnB (K := K) (E := fun _ _ _ => False) (T := T) ?_ (fun _ _ _ _ _ _ hh => hh.elim) ?_ hg1 hl1
  · rintro s2 h2 a2 w2 ⟨hd2, R2, ι2, hT2, hA2, hb2⟩ hk
    refine ⟨_, _, run_endRound none hb2.l, R2, ι2, h2, hT2.besidesPut hb2 _, .inl ⟨rfl, hb2.put _, s2, hk⟩⟩
  · rintro s2 h2 a2 w2 ⟨hd2, R2, ι2, hT2, hA2, hb2⟩ hk
    refine ⟨_, _, run_endRound (some .ret) hb2.l, R2, ι2, h2, hT2.besidesPut hb2 _, .inr ⟨rfl, hb2.put _, s2, hk⟩⟩

def IterEnd (B D : Nat) (rec : Loop) (R : RO) (ι : IM) (h : LH) (w : World) (K T : LH → Prop) (e : Ending) (w' : World) : Prop :=
  (∃ v, e = .returned v) ∧ ∃ R' ι' h', Trans B R ι h w R' ι' h' w' ∧
    ((Besides B D { rec with state := .ready, pending := none } R' w' ∧ K h') ∨ (Besides B D { rec with state := .done, pending := some .ret } R' w' ∧ T h'))

theorem range_ok {P : Program} {N B n : Nat} {R0 : RO} {ι0 : IM} {h0 h : LH} {w0 w : World} {s : LS} {a : Act} {g : Operand} {p : Tmp} {assign body : Code} {gf : FuncId} {caps : List LV} {K T : LH → Prop} {Q : Exit → Act → World → Prop}
    (hgood : Good N B R0 ι0 h0 w0 s h a w) (hgv : oev s g = .fn gf caps) (eg : ∀ args w, (callFunc gf args).run P w = .ok (.enter gf args) w)
    (hit : ∀ (R : RO) (ι : IM) (w1 : World) (D : Nat) (rec : Loop) (vs : Array Value), Rep R ι h B w1 → B ≤ w1.heap.size → Besides B D rec R w1 → ActOk N { tmps := rec.tmps, defers := [] } s R ι h → rec.state = .ready → rec.pending = none → rec.params = #[p] → rec.assign = assign → rec.body = body →
      vs.size = caps.length → (∀ i c, caps[i]? = some c → Rv R ι h c (vs.getD i undef)) →
      CallsIn (FW none) (n - 1) P gf (#[.func (.yield (D + 1)) #[] #[]] ++ vs) w1 (IterEnd B D rec R ι h w1 K T))
    (hdone : ∀ D rec' h' a' w', GoodL N B D rec' R0 ι0 h0 w0 [{ target := .collected D, args := #[] }] s h' a' w' → K h' → Q .normal a' w')
    (hstop : ∀ D rec' h' a' w', GoodL N B D rec' R0 ι0 h0 w0 [{ target := .collected D, args := #[] }] s h' a' w' → T h' → Q .ret a' w') :
    (Code.rangeFunc g #[p] assign body).wpIn (FW none) n P Q a w := by
  obtain ⟨R, ι, hTr, hA⟩ := hgood
  obtain ⟨vs, hgv2, hvs, hcaps⟩ : ∃ vs : Array Value, a.eval g = .func (.func gf) #[] vs ∧ vs.size = caps.length ∧ ∀ i c, caps[i]? = some c → Rv R ι h c (vs.getD i undef) := by
    have := eval_ok hA g
    rw [hgv] at this
    exact this.fn_inv
  refine wpIn_rangeFunc fun fn _ => ?_
  have hB : B ≤ w.heap.size := Nat.le_trans hTr.size hTr.below.size
  obtain ⟨rec, hrec⟩ : ∃ rec : Loop, rec = { state := .ready, pending := none, fn, tmps := a.tmps, params := #[p], assign, body, defers := w.heap.size } := ⟨_, rfl⟩
  obtain ⟨w1, hw1⟩ : ∃ w1, (w.alloc (.deferred (some []))).alloc (.loop rec) = w1 := ⟨_, rfl⟩
  have hl : w1.heap[w.heap.size + 1]? = some (.loop rec) := by
    rw [← hw1]; have := World.alloc_heap_new (w.alloc (.deferred (some []))) (.loop rec); rwa [World.size_alloc] at this
  have hd : w1.heap[w.heap.size]? = some (.deferred (some [])) := by
    rw [← hw1]; exact (Below.heap_alloc _ _ _ (by simp)).trans (World.alloc_heap_new w _)
  have hT1 : Trans B R0 ι0 h0 w0 R ι h w1 := by rw [← hw1]; exact (hTr.allocI _).allocI _
  have hbes : Besides B w.heap.size rec R w1 := ⟨hB, hd, hl, hTr.rep.none_of_size (Nat.le_refl _), hTr.rep.none_of_size (by omega)⟩
  have hB1 : B ≤ w1.heap.size := Nat.le_trans hT1.size hT1.below.size
  have hAr : ActOk N { tmps := rec.tmps, defers := [] } s R ι h := by
    rw [hrec]
    exact ⟨rfl, hA.size, fun t => hA.slots t⟩
  refine ⟨w.heap.size + 1, [{ target := .collected w.heap.size, args := #[] }], w1, { target := .fn (.func gf) vs, args := #[.func (.yield (w.heap.size + 1)) #[] #[]] }, w1, gf,
    #[.func (.yield (w.heap.size + 1)) #[] #[]] ++ vs, w1, ?_, ?_, fun _ _ => trivial, ?_, fun hd => by simp [Fence.wide] at hd, ?_⟩
  · rw [← hw1, hrec]; exact run_enterLoop_outer _ _ _ _ _
  · simp only [resolve, hgv2]
    simp [go_sem]
  · simp [invoke, go_sem, eg]
  · refine (hit R ι w1 w.heap.size rec vs hT1.rep hB1 hbes hAr (by rw [hrec]) (by rw [hrec]) (by rw [hrec]) (by rw [hrec]) (by rw [hrec]) hvs hcaps).mono ?_
    rintro e w2 ⟨⟨v, rfl⟩, R', ι', h', hT', hk⟩
    have hA' : ActOk N (unD { a with defers := [{ target := .collected w.heap.size, args := #[] }] ++ a.defers }) s R' ι' h' := by
      have := hA.mono hT'.mono
      exact ⟨rfl, this.size, fun t => this.slots t⟩
    have hds : ({ a with defers := [{ target := .collected w.heap.size, args := #[] }] ++ a.defers } : Act).defers = [{ target := .collected w.heap.size, args := #[] }] := by simp [hA.defers]
    rcases hk with ⟨hb', hk⟩ | ⟨hb', hk⟩
    · refine ⟨none, _, by exact run_endLoop hb'.l (by simp), ?_⟩
      exact hdone w.heap.size _ h' _ _ ⟨hds, R', ι', (hT1.trans hT').besidesPut hb' _, hA', hb'.put _⟩ hk
    · refine ⟨some .ret, _, by exact run_endLoop hb'.l (by simp), ?_⟩
      exact wpIn_ret (hstop w.heap.size _ h' _ _ ⟨hds, R', ι', (hT1.trans hT').besidesPut hb' _, hA', hb'.put _⟩ hk)
end Go.Proofs.YtdfiicpikcdokaaGreatDoor
