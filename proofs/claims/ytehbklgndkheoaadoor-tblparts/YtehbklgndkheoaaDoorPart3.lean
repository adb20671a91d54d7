/- Part 3 of a proof: flonglaw09.TblParts returns true for every text and leaves it as it was; no condition of our own. -/
import Derived.Test.YtehbklgndkheoaaDoorPart2
/- The small machine's code as it goes on: a goal is what is left of the code, the slots, the heap. No fuel, and nothing under a binder. -/
set_option linter.unusedVariables false
set_option linter.unusedSimpArgs false
set_option linter.unusedSectionVars false
namespace Go.Proofs.VmX

/-- The rest of the code ends, and what the function gives then is as R says. -/
def Ends (E : Env) (res : List CRes) (R : AV → Heap → Prop) (K : List CIt) (t : List AV) (h : Heap) : Prop :=
  ∃ st' r, (∃ n0 d, ∀ n, n0 ≤ n → ∀ k, d ≤ k → run E (evFn E n) k K ⟨t, h⟩ = some st') ∧ resOf st'.t st'.h res = some r ∧ R r st'.h

def ERes (x : Option AV) (h : Heap) (R : AV → Heap → Prop) : Prop := ∃ r, x = some r ∧ R r h
theorem ERes_some (r : AV) (h : Heap) (R : AV → Heap → Prop) : ERes (some r) h R = R r h := by simp [ERes]

/-- Within a region. -/
def EndsR (E : Env) (res : List CRes) (R : AV → Heap → Prop) (l : List CI) (K : List CIt) (t : List AV) (h : Heap) : Prop :=
  ∃ st, OpsTo E l ⟨t, h⟩ st ∧ Ends E res R K st.t st.h

/-- At one operation, its guard known. -/
def EOp (E : Env) (res : List CRes) (R : AV → Heap → Prop) (op : COp) (dst : Option Nat) (l : List CI) (K : List CIt) (t : List AV) (h : Heap) : Prop :=
  ∃ r h', OpTo E t h op r h' ∧ EndsR E res R l K (putO t dst r) h'

def EG (E : Env) (res : List CRes) (R : AV → Heap → Prop) (g : Option Bool) (op : COp) (dst : Option Nat) (l : List CI) (K : List CIt) (t : List AV) (h : Heap) : Prop :=
  ∃ b, g = some b ∧ (b = true → EOp E res R op dst l K t h) ∧ (b = false → EndsR E res R l K (putO t dst (.tup [])) h)

/-- Its value known. -/
def EBnd (E : Env) (res : List CRes) (R : AV → Heap → Prop) (x : Option (AV × Heap)) (dst : Option Nat) (l : List CI) (K : List CIt) (t : List AV) : Prop :=
  ∃ r h', x = some (r, h') ∧ EndsR E res R l K (putO t dst r) h'

/-- Calls: with the heap; of its own; that is handed nothing of the heap. -/
def ECallF (E : Env) (res : List CRes) (R : AV → Heap → Prop) (f : Nat) (az : List AV) (dst : Option Nat) (l : List CI) (K : List CIt) (t : List AV) (h : Heap) : Prop :=
  ∃ r h', FnTo E f az h r h' ∧ EndsR E res R l K (putO t dst r) h'
def ECallP (E : Env) (res : List CRes) (R : AV → Heap → Prop) (f : Nat) (x : Option (List AV × Heap)) (dst : Option Nat) (l : List CI) (K : List CIt) (t : List AV) : Prop :=
  ∃ az h' r, x = some (az, h') ∧ PureTo E f az r ∧ EndsR E res R l K (putO t dst r) h'
def ECallV (E : Env) (res : List CRes) (R : AV → Heap → Prop) (v : AV) (az : List AV) (dst : Option Nat) (l : List CI) (K : List CIt) (t : List AV) (h : Heap) : Prop :=
  ∃ f first cap, v = .fn f first cap ∧ (E.inl f = true → ECallF E res R f (first ++ az ++ cap) dst l K t h) ∧ (E.inl f = false → ECallP E res R f (snaps h (first ++ az ++ cap)) dst l K t)

/-- A branch, an exit. -/
def ECond (E : Env) (res : List CRes) (R : AV → Heap → Prop) (v : AV) (a b : CC) (K : List CIt) (t : List AV) (h : Heap) : Prop :=
  ∃ r, v = .bool r ∧ Ends E res R (.code (if r then a else b) :: K) t h
def EExit (E : Env) (res : List CRes) (R : AV → Heap → Prop) (x : Option (List CIt)) (t : List AV) (h : Heap) : Prop :=
  ∃ K, x = some K ∧ Ends E res R K t h

section
variable {E : Env} {res : List CRes} {R : AV → Heap → Prop} {K : List CIt} {t : List AV} {h : Heap}

theorem ends_step {K1 K2 : List CIt} (hs : ∀ n k, run E (evFn E n) (k + 1) K1 ⟨t, h⟩ = run E (evFn E n) k K2 ⟨t, h⟩) : Ends E res R K1 t h = Ends E res R K2 t h := by
  apply propext
  constructor
  · rintro ⟨st', r, ⟨n0, d, g⟩, h1⟩
    exact ⟨st', r, ⟨n0, d, fun n hn k hk => by rw [← hs]; exact g n hn (k + 1) (by omega)⟩, h1⟩
  · rintro ⟨st', r, ⟨n0, d, g⟩, h1⟩
    refine ⟨st', r, ⟨n0, d + 1, fun n hn k hk => ?_⟩, h1⟩
    obtain ⟨k, rfl⟩ : ∃ m, k = m + 1 := ⟨k - 1, by omega⟩
    rw [hs]
    exact g n hn k (by omega)

theorem Ends_nil : Ends E res R [] t h = ERes (resOf t h res) h R := by
  apply propext
  constructor
  · rintro ⟨st', r, ⟨n0, d, g⟩, h1⟩
    have := g n0 (Nat.le_refl _) (d + 1) (by omega)
    simp only [run] at this
    injection this with this
    subst this
    exact ⟨r, h1⟩
  · rintro ⟨r, h1⟩
    refine ⟨⟨t, h⟩, r, ⟨0, 1, fun n _ k hk => ?_⟩, h1⟩
    obtain ⟨k, rfl⟩ : ∃ m, k = m + 1 := ⟨k - 1, by omega⟩
    rfl
theorem Ends_ret : Ends E res R (.code .ret :: K) t h = ERes (resOf t h res) h R := by
  apply propext
  constructor
  · rintro ⟨st', r, ⟨n0, d, g⟩, h1⟩
    have := g n0 (Nat.le_refl _) (d + 1) (by omega)
    simp only [run] at this
    injection this with this
    subst this
    exact ⟨r, h1⟩
  · rintro ⟨r, h1⟩
    refine ⟨⟨t, h⟩, r, ⟨0, 1, fun n _ k hk => ?_⟩, h1⟩
    obtain ⟨k, rfl⟩ : ∃ m, k = m + 1 := ⟨k - 1, by omega⟩
    rfl
theorem Ends_skip : Ends E res R (.code .skip :: K) t h = Ends E res R K t h := ends_step fun _ _ => rfl
theorem Ends_label (l : Nat) : Ends E res R (.code (.label l) :: K) t h = Ends E res R K t h := ends_step fun _ _ => rfl
theorem Ends_inBlock (id : Nat) : Ends E res R (.inBlock id :: K) t h = Ends E res R K t h := ends_step fun _ _ => rfl
theorem Ends_seq (a b : CC) : Ends E res R (.code (.seq a b) :: K) t h = Ends E res R (.code a :: .code b :: K) t h := ends_step fun _ _ => rfl
theorem Ends_block (id : Nat) (b : CC) : Ends E res R (.code (.block id b) :: K) t h = Ends E res R (.code b :: .inBlock id :: K) t h := ends_step fun _ _ => rfl
theorem Ends_loop (b : CC) : Ends E res R (.code (.loop b) :: K) t h = Ends E res R (.code b :: .inLoop b :: K) t h := ends_step fun _ _ => rfl
theorem Ends_inLoop (b : CC) : Ends E res R (.inLoop b :: K) t h = Ends E res R (.code b :: .inLoop b :: K) t h := ends_step fun _ _ => rfl
theorem Ends_scope (b : CC) : Ends E res R (.code (.scope b) :: K) t h = Ends E res R (.code b :: .inScope b :: K) t h := ends_step fun _ _ => rfl
theorem Ends_inScope (b : CC) : Ends E res R (.inScope b :: K) t h = Ends E res R K t h := ends_step fun _ _ => rfl

theorem EExit_some (K : List CIt) : EExit E res R (some K) t h = Ends E res R K t h := by simp [EExit]
theorem Ends_exit (id : Nat) : Ends E res R (.code (.exit id) :: K) t h = EExit E res R (exitC id K) t h := by
  apply propext
  cases hx : exitC id K with
  | none =>
    constructor
    · rintro ⟨st', r, ⟨n0, d, g⟩, h1⟩
      have := g n0 (Nat.le_refl _) (d + 1) (by omega)
      simp [run, hx] at this
    · rintro ⟨K', h1, h2⟩; cases h1
  | some K' =>
    rw [EExit_some]
    exact iff_of_eq (ends_step fun n k => by simp [run, hx])
theorem Ends_goto (l : Nat) : Ends E res R (.code (.goto l) :: K) t h = EExit E res R (gotoC l K) t h := by
  apply propext
  cases hx : gotoC l K with
  | none =>
    constructor
    · rintro ⟨st', r, ⟨n0, d, g⟩, h1⟩
      have := g n0 (Nat.le_refl _) (d + 1) (by omega)
      simp [run, hx] at this
    · rintro ⟨K', h1, h2⟩; cases h1
  | some K' =>
    rw [EExit_some]
    exact iff_of_eq (ends_step fun n k => by simp [run, hx])

theorem ECond_true (a b : CC) : ECond E res R (.bool true) a b K t h = Ends E res R (.code a :: K) t h := by simp [ECond]
theorem ECond_false (a b : CC) : ECond E res R (.bool false) a b K t h = Ends E res R (.code b :: K) t h := by simp [ECond]
theorem ECond.mk {r : Bool} {a b : CC} (ht : r = true → Ends E res R (.code a :: K) t h) (hf : r = false → Ends E res R (.code b :: K) t h) : ECond E res R (.bool r) a b K t h := by
  cases r
  · rw [ECond_false]; exact hf rfl
  · rw [ECond_true]; exact ht rfl
theorem Ends_cond (c : Opd) (a b : CC) : Ends E res R (.code (.cond c a b) :: K) t h = ECond E res R (opd t c) a b K t h := by
  apply propext
  by_cases hx : ∃ r, opd t c = .bool r
  · obtain ⟨r, hx⟩ := hx
    have e1 : Ends E res R (.code (.cond c a b) :: K) t h = Ends E res R (.code (if r then a else b) :: K) t h := ends_step fun n k => by simp only [run, hx]
    rw [e1, hx]
    exact ⟨fun h1 => ⟨r, rfl, h1⟩, fun ⟨r', h1, h2⟩ => by cases h1; exact h2⟩
  · constructor
    · rintro ⟨st', r, ⟨n0, d, g⟩, h1⟩
      have := g n0 (Nat.le_refl _) (d + 1) (by omega)
      simp only [run] at this
      split at this
      · rename_i r hr; exact absurd ⟨r, hr⟩ hx
      · cases this
    · rintro ⟨r, h1, _⟩; exact absurd ⟨r, h1⟩ hx

/-! More fuel changes nothing. -/
theorem op_ev {op : COp} {r : AV} {h' : Heap} : OpTo E t h op r h' ↔ ∃ n, evOp E (evFn E n) t h op = some (r, h') :=
  ⟨fun ⟨n0, g⟩ => ⟨n0, g n0 (Nat.le_refl _)⟩, fun ⟨n, g⟩ => ⟨n, fun m hm => evOp_mono (evFn_mono n m hm) g⟩⟩
theorem ops_ev {l : List CI} {st st' : St} : OpsTo E l st st' ↔ ∃ n, evOps E (evFn E n) l st = some st' :=
  ⟨fun ⟨n0, g⟩ => ⟨n0, g n0 (Nat.le_refl _)⟩, fun ⟨n, g⟩ => ⟨n, fun m hm => evOps_mono (evFn_mono n m hm) g⟩⟩
theorem fn_ev {f : Nat} {az : List AV} {r : AV} {h' : Heap} : FnTo E f az h r h' ↔ ∃ n, evFn E n f az h = some (r, h') :=
  ⟨fun ⟨n0, g⟩ => ⟨n0, g n0 (Nat.le_refl _)⟩, fun ⟨n, g⟩ => ⟨n, fun m hm => evFn_mono n m hm _ _ _ _ g⟩⟩
theorem pure_ev {f : Nat} {az : List AV} {r : AV} : PureTo E f az r ↔ ∃ n, pureCall (evFn E n) f az = some r :=
  ⟨fun ⟨n0, g⟩ => ⟨n0, g n0 (Nat.le_refl _)⟩, fun ⟨n, g⟩ => ⟨n, fun m hm => pure_mono (evFn_mono n m hm) g⟩⟩
theorem pure_det {f : Nat} {az : List AV} {r r' : AV} (h1 : PureTo E f az r) (h2 : PureTo E f az r') : r = r' := by
  obtain ⟨n1, g1⟩ := h1
  obtain ⟨n2, g2⟩ := h2
  have a := g1 (max n1 n2) (by omega)
  have b := g2 (max n1 n2) (by omega)
  rw [a] at b
  injection b

/-! Regions. -/
theorem Ends_reg (l : List CI) : Ends E res R (.code (.reg l) :: K) t h = EndsR E res R l K t h := by
  apply propext
  constructor
  · rintro ⟨st', r, ⟨n0, d, g⟩, h1⟩
    have := g n0 (Nat.le_refl _) (d + 1) (by omega)
    rw [run_reg, Option.bind_eq_some_iff] at this
    obtain ⟨st, hst, _⟩ := this
    refine ⟨st, ops_ev.2 ⟨n0, hst⟩, st', r, ⟨n0, d, fun n hn k hk => ?_⟩, h1⟩
    have := g n hn (k + 1) (by omega)
    rw [run_reg, Option.bind_eq_some_iff] at this
    obtain ⟨st2, hst2, h3⟩ := this
    rw [evOps_mono (evFn_mono n0 n hn) hst] at hst2
    cases hst2
    exact h3
  · rintro ⟨st, ⟨n1, g1⟩, st', r, ⟨n2, d, g2⟩, h2⟩
    refine ⟨st', r, ⟨max n1 n2, d + 1, fun n hn k hk => ?_⟩, h2⟩
    obtain ⟨k, rfl⟩ : ∃ m, k = m + 1 := ⟨k - 1, by omega⟩
    rw [run_reg, g1 n (by omega)]
    exact g2 n (by omega) k (by omega)

theorem EndsR_nil : EndsR E res R [] K t h = Ends E res R K t h := by
  apply propext
  constructor
  · rintro ⟨st, ⟨n0, g⟩, h1⟩
    have := g n0 (Nat.le_refl _)
    simp only [evOps] at this
    cases this
    exact h1
  · exact fun h1 => ⟨⟨t, h⟩, ops_nil, h1⟩
theorem EndsR_cons (c : CI) (l : List CI) : EndsR E res R (c :: l) K t h = EG E res R (wantedA t c.g) c.op c.dst l K t h := by
  apply propext
  constructor
  · rintro ⟨st, ⟨n0, g⟩, h1⟩
    have := g n0 (Nat.le_refl _)
    simp only [evOps, Option.bind_eq_some_iff] at this
    obtain ⟨w, hw, h2⟩ := this
    refine ⟨w, hw, fun e => ?_, fun e => ?_⟩
    · subst e
      rw [if_pos rfl, Option.bind_eq_some_iff] at h2
      obtain ⟨⟨r, h'⟩, h2, h3⟩ := h2
      exact ⟨r, h', op_ev.2 ⟨n0, h2⟩, st, ops_ev.2 ⟨n0, h3⟩, h1⟩
    · subst e
      rw [if_neg (by simp)] at h2
      exact ⟨st, ops_ev.2 ⟨n0, h2⟩, h1⟩
  · rintro ⟨b, hb, ht, hf⟩
    cases b with
    | true =>
      obtain ⟨r, h', h1, st, h2, h3⟩ := ht rfl
      exact ⟨st, ops_cons (st := ⟨t, h⟩) hb h1 h2, h3⟩
    | false =>
      obtain ⟨st, h2, h3⟩ := hf rfl
      exact ⟨st, ops_skip (st := ⟨t, h⟩) hb h2, h3⟩
variable {op : COp} {dst : Option Nat} {l : List CI}
theorem EG_true : EG E res R (some true) op dst l K t h = EOp E res R op dst l K t h := by simp [EG]
theorem EG_false : EG E res R (some false) op dst l K t h = EndsR E res R l K (putO t dst (.tup [])) h := by simp [EG]
theorem EG.mk {b : Bool} (ht : b = true → EOp E res R op dst l K t h) (hf : b = false → EndsR E res R l K (putO t dst (.tup [])) h) : EG E res R (some b) op dst l K t h := ⟨b, rfl, ht, hf⟩
theorem EBnd_some (v : AV) (h' : Heap) : EBnd E res R (some (v, h')) dst l K t = EndsR E res R l K (putO t dst v) h' := by
  apply propext
  exact ⟨fun ⟨r, h1, e, g⟩ => by cases e; exact g, fun g => ⟨v, h', rfl, g⟩⟩
theorem EOp_plain (hc : op.calls = false) : EOp E res R op dst l K t h = EBnd E res R (evOp E noCall t h op) dst l K t := by
  apply propext
  constructor
  · rintro ⟨r, h', h1, h2⟩
    obtain ⟨n, h1⟩ := op_ev.1 h1
    rw [evOp_nocall op hc] at h1
    exact ⟨r, h', h1, h2⟩
  · rintro ⟨r, h', h1, h2⟩
    exact ⟨r, h', op_plain hc h1, h2⟩
theorem EOp_callF (f : Nat) (args : List Opd) : EOp E res R (.callF f true args) dst l K t h = ECallF E res R f (args.map (opd t)) dst l K t h := by
  apply propext
  constructor
  · rintro ⟨r, h', ⟨n0, g⟩, h2⟩
    exact ⟨r, h', ⟨n0, fun n hn => by have := g n hn; simpa only [evOp, doCall, if_true] using this⟩, h2⟩
  · rintro ⟨r, h', h1, h2⟩
    exact ⟨r, h', op_callF h1, h2⟩
theorem EOp_callP0 (f : Nat) (args : List Opd) : EOp E res R (.callF f false args) dst l K t h = ECallP E res R f (snaps h (args.map (opd t))) dst l K t := by
  apply propext
  constructor
  · rintro ⟨r, h', ⟨n0, g⟩, h2⟩
    have := g n0 (Nat.le_refl _)
    simp only [evOp, doCall, Bool.false_eq_true, if_false, Option.bind_eq_some_iff, Option.map_eq_some_iff, Prod.mk.injEq] at this
    obtain ⟨⟨az, h1⟩, hs, q, hq, rfl, rfl⟩ := this
    exact ⟨az, h1, q, hs, pure_ev.2 ⟨n0, hq⟩, h2⟩
  · rintro ⟨az, h', r, h1, h2, h3⟩
    exact ⟨r, h', op_callPure h1 h2, h3⟩
theorem EOp_callP (f : Nat) (args : List Opd) : EOp E res R (.callP f args) dst l K t h = ECallP E res R f (if rfs (args.map (opd t)) = true then some (args.map (opd t), h) else none) dst l K t := by
  apply propext
  constructor
  · rintro ⟨r, h', ⟨n0, g⟩, h2⟩
    have := g n0 (Nat.le_refl _)
    simp only [evOp] at this
    split at this
    · rename_i hr
      simp only [Option.map_eq_some_iff, Prod.mk.injEq] at this
      obtain ⟨q, hq, rfl, rfl⟩ := this
      exact ⟨_, h, q, by rw [if_pos hr], pure_ev.2 ⟨n0, hq⟩, h2⟩
    · cases this
  · rintro ⟨az, h', r, h1, h2, h3⟩
    split at h1
    · rename_i hr
      cases h1
      exact ⟨r, h, op_callP hr h2, h3⟩
    · cases h1
theorem EOp_callV (x : Opd) (args : List Opd) : EOp E res R (.callV x args) dst l K t h = ECallV E res R (opd t x) (args.map (opd t)) dst l K t h := by
  apply propext
  constructor
  · rintro ⟨r, h', ⟨n0, g⟩, h2⟩
    have g0 := g n0 (Nat.le_refl _)
    simp only [evOp] at g0
    split at g0
    · rename_i f first cap hx
      refine ⟨f, first, cap, hx, fun hi => ?_, fun hi => ?_⟩
      · refine ⟨r, h', ⟨n0, fun n hn => ?_⟩, h2⟩
        have := g n hn
        simpa only [evOp, hx, doCall, hi, if_true] using this
      · simp only [doCall, hi, Bool.false_eq_true, if_false, Option.bind_eq_some_iff, Option.map_eq_some_iff, Prod.mk.injEq] at g0
        obtain ⟨⟨az, h1⟩, hs, q, hq, rfl, rfl⟩ := g0
        exact ⟨az, h1, q, hs, pure_ev.2 ⟨n0, hq⟩, h2⟩
    · cases g0
  · rintro ⟨f, first, cap, hx, hi, hp⟩
    cases he : E.inl f with
    | true =>
      obtain ⟨r, h', h1, h2⟩ := hi he
      exact ⟨r, h', op_callVin hx he h1, h2⟩
    | false =>
      obtain ⟨az, h', r, h1, h2, h3⟩ := hp he
      exact ⟨r, h', op_callVpure hx he h1 h2, h3⟩
theorem ECallV_inl {f : Nat} {first cap az : List AV} (hi : E.inl f = true) : ECallV E res R (.fn f first cap) az dst l K t h = ECallF E res R f (first ++ az ++ cap) dst l K t h := by
  apply propext
  constructor
  · rintro ⟨f', first', cap', e, g, _⟩
    cases e
    exact g hi
  · intro g
    exact ⟨f, first, cap, rfl, fun _ => g, (fun e => by rw [hi] at e; cases e)⟩
theorem ECallV_pure {f : Nat} {first cap az : List AV} (hi : E.inl f = false) : ECallV E res R (.fn f first cap) az dst l K t h = ECallP E res R f (snaps h (first ++ az ++ cap)) dst l K t := by
  apply propext
  constructor
  · rintro ⟨f', first', cap', e, _, g⟩
    cases e
    exact g hi
  · intro g
    exact ⟨f, first, cap, rfl, (fun e => by rw [hi] at e; cases e), fun _ => g⟩
theorem ECallP.some {f : Nat} {az : List AV} {h' : Heap} {r : AV} (h1 : PureTo E f az r) (h2 : EndsR E res R l K (putO t dst r) h') : ECallP E res R f (some (az, h')) dst l K t := ⟨az, h', r, rfl, h1, h2⟩
theorem ECallF.mk {f : Nat} {az : List AV} {h' : Heap} {r : AV} (h1 : FnTo E f az h r h') (h2 : EndsR E res R l K (putO t dst r) h') : ECallF E res R f az dst l K t h := ⟨r, h', h1, h2⟩

theorem snaps_rfs {az : List AV} (hr : rfs az = true) : snaps h az = some (az, h) := by simp [snaps, hr]

/-! Regions whose order is drawn. -/
end

def EndsD (E : Env) (res : List CRes) (R : AV → Heap → Prop) (ck : List CK) (l : List DI) (K : List CIt) (t : List AV) (hs : List Heap) : Prop :=
  ∃ t' hs', (∃ n0, ∀ n, n0 ≤ n → evD E (evFn E n) l t hs = some (t', hs')) ∧ ckPlain ck = true ∧ evC E noCall t' hs' ck = true ∧ Ends E res R K t' (hs'.getLastD [])
def DBnd (E : Env) (res : List CRes) (R : AV → Heap → Prop) (x : Option (AV × Heap)) (dst : Option Nat) (eff : Bool) (ck : List CK) (l : List DI) (K : List CIt) (t : List AV) (hs : List Heap) : Prop :=
  ∃ r h', x = some (r, h') ∧ EndsD E res R ck l K (putO t dst r) (if eff then hs ++ [h'] else hs)
def DOp (E : Env) (res : List CRes) (R : AV → Heap → Prop) (h : Heap) (op : COp) (dst : Option Nat) (eff : Bool) (ck : List CK) (l : List DI) (K : List CIt) (t : List AV) (hs : List Heap) : Prop :=
  ∃ r h', OpTo E t h op r h' ∧ EndsD E res R ck l K (putO t dst r) (if eff then hs ++ [h'] else hs)
def DG (E : Env) (res : List CRes) (R : AV → Heap → Prop) (x : Option Heap) (g : Option Bool) (op : COp) (dst : Option Nat) (eff : Bool) (ck : List CK) (l : List DI) (K : List CIt) (t : List AV) (hs : List Heap) : Prop :=
  ∃ h b, x = some h ∧ g = some b ∧ (b = true → DOp E res R h op dst eff ck l K t hs) ∧ (b = false → EndsD E res R ck l K (putO t dst (.tup [])) (if eff then hs ++ [h] else hs))
def DCallF (E : Env) (res : List CRes) (R : AV → Heap → Prop) (f : Nat) (az : List AV) (h : Heap) (dst : Option Nat) (eff : Bool) (ck : List CK) (l : List DI) (K : List CIt) (t : List AV) (hs : List Heap) : Prop :=
  ∃ r h', FnTo E f az h r h' ∧ EndsD E res R ck l K (putO t dst r) (if eff then hs ++ [h'] else hs)
def DCallP (E : Env) (res : List CRes) (R : AV → Heap → Prop) (f : Nat) (x : Option (List AV × Heap)) (dst : Option Nat) (eff : Bool) (ck : List CK) (l : List DI) (K : List CIt) (t : List AV) (hs : List Heap) : Prop :=
  ∃ az h' r, x = some (az, h') ∧ PureTo E f az r ∧ EndsD E res R ck l K (putO t dst r) (if eff then hs ++ [h'] else hs)

section
variable {E : Env} {res : List CRes} {R : AV → Heap → Prop} {K : List CIt} {t : List AV} {h : Heap} {hs : List Heap} {op : COp} {dst : Option Nat} {eff : Bool} {l : List DI} {ck : List CK}

theorem Ends.dreg (hc : ckPlain ck = true) (hr : EndsD E res R ck l K t [h]) : Ends E res R (.code (.dreg l ck) :: K) t h := by
  obtain ⟨t', hs', ⟨n1, g1⟩, _, h1, st', r, ⟨n2, d, g2⟩, h2⟩ := hr
  refine ⟨st', r, ⟨max n1 n2, d + 1, fun n hn k hk => ?_⟩, h2⟩
  obtain ⟨k, rfl⟩ : ∃ m, k = m + 1 := ⟨k - 1, by omega⟩
  show ((evD E (evFn E n) l t [h]).bind fun r => if evC E (evFn E n) r.1 r.2 ck then run E (evFn E n) k K ⟨r.1, r.2.getLastD []⟩ else none) = _
  rw [g1 n (by omega)]
  simp only [Option.bind_some]
  rw [evC_plain hc, h1]
  exact g2 n (by omega) k (by omega)
theorem Ends_dreg (l : List DI) (ck : List CK) (hc : ckPlain ck = true) : Ends E res R (.code (.dreg l ck) :: K) t h = EndsD E res R ck l K t [h] := by
  apply propext
  constructor
  · rintro ⟨st', r, ⟨n0, d, g⟩, h1⟩
    have e : ∀ n k, run E (evFn E n) (k + 1) (.code (.dreg l ck) :: K) ⟨t, h⟩ = ((evD E (evFn E n) l t [h]).bind fun r => if evC E (evFn E n) r.1 r.2 ck then run E (evFn E n) k K ⟨r.1, r.2.getLastD []⟩ else none) := fun _ _ => rfl
    have g0 := g n0 (Nat.le_refl _) (d + 1) (by omega)
    rw [e, Option.bind_eq_some_iff] at g0
    obtain ⟨⟨t', hs'⟩, g1, g2⟩ := g0
    rw [evC_plain hc] at g2
    split at g2
    · rename_i hck
      refine ⟨t', hs', ⟨n0, fun n hn => evD_mono (evFn_mono n0 n hn) g1⟩, hc, hck, st', r, ⟨n0, d, fun n hn k hk => ?_⟩, h1⟩
      have := g n hn (k + 1) (by omega)
      rw [e, evD_mono (evFn_mono n0 n hn) g1, Option.bind_some, evC_plain hc, if_pos hck] at this
      exact this
    · cases g2
  · exact Ends.dreg hc
theorem Ends_dreg_nil (l : List DI) : Ends E res R (.code (.dreg l []) :: K) t h = EndsD E res R [] l K t [h] := Ends_dreg l [] rfl
theorem EndsD_nil : EndsD E res R ck [] K t hs = (evC E noCall t hs ck = true ∧ ckPlain ck = true ∧ Ends E res R K t (hs.getLastD [])) := by
  apply propext
  constructor
  · rintro ⟨t', hs', ⟨n0, g⟩, h1, h2, h3⟩
    have := g n0 (Nat.le_refl _)
    simp only [evD] at this
    cases this
    exact ⟨h2, h1, h3⟩
  · rintro ⟨h2, h1, h3⟩
    exact ⟨t, hs, ⟨0, fun _ _ => rfl⟩, h1, h2, h3⟩
theorem EndsD_cons (i : DI) (l : List DI) : EndsD E res R ck (i :: l) K t hs = DG E res R hs[i.lo]? (wantedA t i.ci.g) i.ci.op i.ci.dst i.eff ck l K t hs := by
  apply propext
  constructor
  · rintro ⟨t', hs', ⟨n0, g⟩, h1⟩
    have := g n0 (Nat.le_refl _)
    simp only [evD, Option.bind_eq_some_iff] at this
    obtain ⟨w, hw, hp, hhp, h2⟩ := this
    refine ⟨hp, w, hhp, hw, fun e => ?_, fun e => ?_⟩
    · subst e
      rw [if_pos rfl, Option.bind_eq_some_iff] at h2
      obtain ⟨⟨r, h'⟩, h2, h3⟩ := h2
      exact ⟨r, h', op_ev.2 ⟨n0, h2⟩, t', hs', ⟨n0, fun n hn => evD_mono (evFn_mono n0 n hn) h3⟩, h1⟩
    · subst e
      rw [if_neg (by simp)] at h2
      exact ⟨t', hs', ⟨n0, fun n hn => evD_mono (evFn_mono n0 n hn) h2⟩, h1⟩
  · rintro ⟨hp, b, hhp, hb, ht, hf⟩
    cases b with
    | true =>
      obtain ⟨r, h', ⟨n1, g1⟩, t', hs', ⟨n2, g2⟩, h3⟩ := ht rfl
      refine ⟨t', hs', ⟨max n1 n2, fun n hn => ?_⟩, h3⟩
      simp only [evD, hb, hhp, Option.bind_some, if_true, g1 n (by omega)]
      exact g2 n (by omega)
    | false =>
      obtain ⟨t', hs', ⟨n2, g2⟩, h3⟩ := hf rfl
      refine ⟨t', hs', ⟨n2, fun n hn => ?_⟩, h3⟩
      simp only [evD, hb, hhp, Option.bind_some, Bool.false_eq_true, if_false]
      exact g2 n (by omega)
theorem DG_true : DG E res R (some h) (some true) op dst eff ck l K t hs = DOp E res R h op dst eff ck l K t hs := by simp [DG]
theorem DG_false : DG E res R (some h) (some false) op dst eff ck l K t hs = EndsD E res R ck l K (putO t dst (.tup [])) (if eff then hs ++ [h] else hs) := by simp [DG]
theorem DG.mk {b : Bool} (ht : b = true → DOp E res R h op dst eff ck l K t hs) (hf : b = false → EndsD E res R ck l K (putO t dst (.tup [])) (if eff then hs ++ [h] else hs)) : DG E res R (some h) (some b) op dst eff ck l K t hs := ⟨h, b, rfl, rfl, ht, hf⟩
theorem DBnd_some (v : AV) (h' : Heap) : DBnd E res R (some (v, h')) dst eff ck l K t hs = EndsD E res R ck l K (putO t dst v) (if eff then hs ++ [h'] else hs) := by
  apply propext
  exact ⟨fun ⟨r, h1, e, g⟩ => by cases e; exact g, fun g => ⟨v, h', rfl, g⟩⟩
theorem DOp_plain (hc : op.calls = false) : DOp E res R h op dst eff ck l K t hs = DBnd E res R (evOp E noCall t h op) dst eff ck l K t hs := by
  apply propext
  constructor
  · rintro ⟨r, h', h1, h2⟩
    obtain ⟨n, h1⟩ := op_ev.1 h1
    rw [evOp_nocall op hc] at h1
    exact ⟨r, h', h1, h2⟩
  · rintro ⟨r, h', h1, h2⟩
    exact ⟨r, h', op_plain hc h1, h2⟩
theorem DOp_callF (f : Nat) (args : List Opd) : DOp E res R h (.callF f true args) dst eff ck l K t hs = DCallF E res R f (args.map (opd t)) h dst eff ck l K t hs := by
  apply propext
  constructor
  · rintro ⟨r, h', ⟨n0, g⟩, h2⟩
    exact ⟨r, h', ⟨n0, fun n hn => by have := g n hn; simpa only [evOp, doCall, if_true] using this⟩, h2⟩
  · rintro ⟨r, h', h1, h2⟩
    exact ⟨r, h', op_callF h1, h2⟩
theorem DOp_callP0 (f : Nat) (args : List Opd) : DOp E res R h (.callF f false args) dst eff ck l K t hs = DCallP E res R f (snaps h (args.map (opd t))) dst eff ck l K t hs := by
  apply propext
  constructor
  · rintro ⟨r, h', ⟨n0, g⟩, h2⟩
    have := g n0 (Nat.le_refl _)
    simp only [evOp, doCall, Bool.false_eq_true, if_false, Option.bind_eq_some_iff, Option.map_eq_some_iff, Prod.mk.injEq] at this
    obtain ⟨⟨az, h1⟩, hs1, q, hq, rfl, rfl⟩ := this
    exact ⟨az, h1, q, hs1, pure_ev.2 ⟨n0, hq⟩, h2⟩
  · rintro ⟨az, h', r, h1, h2, h3⟩
    exact ⟨r, h', op_callPure h1 h2, h3⟩
theorem DOp_callP (f : Nat) (args : List Opd) : DOp E res R h (.callP f args) dst eff ck l K t hs = DCallP E res R f (if rfs (args.map (opd t)) = true then some (args.map (opd t), h) else none) dst eff ck l K t hs := by
  apply propext
  constructor
  · rintro ⟨r, h', ⟨n0, g⟩, h2⟩
    have := g n0 (Nat.le_refl _)
    simp only [evOp] at this
    split at this
    · rename_i hr
      simp only [Option.map_eq_some_iff, Prod.mk.injEq] at this
      obtain ⟨q, hq, rfl, rfl⟩ := this
      exact ⟨_, h, q, by rw [if_pos hr], pure_ev.2 ⟨n0, hq⟩, h2⟩
    · cases this
  · rintro ⟨az, h', r, h1, h2, h3⟩
    split at h1
    · rename_i hr
      cases h1
      exact ⟨r, h, op_callP hr h2, h3⟩
    · cases h1
theorem DCallP.some {f : Nat} {az : List AV} {h' : Heap} {r : AV} (h1 : PureTo E f az r) (h2 : EndsD E res R ck l K (putO t dst r) (if eff then hs ++ [h'] else hs)) : DCallP E res R f (some (az, h')) dst eff ck l K t hs := ⟨az, h', r, rfl, h1, h2⟩
theorem DCallF.mk {f : Nat} {az : List AV} {h' : Heap} {r : AV} (h1 : FnTo E f az h r h') (h2 : EndsD E res R ck l K (putO t dst r) (if eff then hs ++ [h'] else hs)) : DCallF E res R f az h dst eff ck l K t hs := ⟨r, h', h1, h2⟩

/-- A loop, by what holds at its head, and what shrinks. -/
theorem Ends.loop {b : CC} (I : Nat → List AV → Heap → Prop) (m : Nat) (h0 : I m t h)
    (round : ∀ m t h, I m t h → (∀ m' t' h', m' < m → I m' t' h' → Ends E res R (.inLoop b :: K) t' h') → Ends E res R (.code b :: .inLoop b :: K) t h) : Ends E res R (.code (.loop b) :: K) t h := by
  rw [Ends_loop]
  suffices ∀ m t h, I m t h → Ends E res R (.code b :: .inLoop b :: K) t h from this m t h h0
  intro m
  induction m using Nat.strongRecOn with
  | _ m ih =>
    intro t h hi
    exact round m t h hi fun m' t' h' hm hi' => by rw [Ends_inLoop]; exact ih m' hm t' h' hi'

/-- The code behind is done once, by what holds there. -/
theorem Ends.cut {a b : CC} (M : List AV → Heap → Prop) (cont : ∀ t h, M t h → Ends E res R (.code b :: K) t h)
    (main : ∀ b', (∀ t h, M t h → Ends E res R (.code b' :: K) t h) → Ends E res R (.code a :: .code b' :: K) t h) : Ends E res R (.code a :: .code b :: K) t h := main b cont

/-- Likewise, behind a block (a loop). -/
theorem Ends.cutB {a b : CC} {id : Nat} (M : List AV → Heap → Prop) (cont : ∀ t h, M t h → Ends E res R (.code b :: K) t h)
    (main : ∀ b', (∀ t h, M t h → Ends E res R (.code b' :: K) t h) → Ends E res R (.code a :: .inBlock id :: .code b' :: K) t h) : Ends E res R (.code a :: .inBlock id :: .code b :: K) t h := main b cont

theorem Ends.cutBS {a b c : CC} {id : Nat} (M : List AV → Heap → Prop) (cont : ∀ t h, M t h → Ends E res R (.code c :: K) t h)
    (main : ∀ c', (∀ t h, M t h → Ends E res R (.code c' :: K) t h) → Ends E res R (.code a :: .inBlock id :: .code (.seq b c') :: K) t h) : Ends E res R (.code a :: .inBlock id :: .code (.seq b c) :: K) t h := main c cont

theorem fn_go {f : Nat} {args : List AV} {fn : CFn} {c : CC} (hf : E.code f = some fn) (hr : fn.res = res) (hb : fn.body = some c) (hg : Ends E res R [.code c] args h) : ∃ r h', FnTo E f args h r h' ∧ R r h' := by
  obtain ⟨st', r, ⟨n0, d, g⟩, h1, h2⟩ := hg
  refine ⟨r, st'.h, fn_ev.2 ⟨max n0 d + 1, ?_⟩, h2⟩
  simp only [evFn, hf, Option.bind_some, hb]
  rw [g _ (by omega) _ (by omega)]
  simp [hr, h1]
theorem fn_go1 {f : Nat} {args : List AV} {fn : CFn} {c : CC} {r : AV} {h' : Heap} (hf : E.code f = some fn) (hr : fn.res = res) (hb : fn.body = some c) (hg : Ends E res (fun r' h2 => r' = r ∧ h2 = h') [.code c] args h) : FnTo E f args h r h' := by
  obtain ⟨r', h2, h1, rfl, rfl⟩ := fn_go hf hr hb hg
  exact h1
theorem pure_go {f : Nat} {args : List AV} {fn : CFn} {c : CC} {Q : AV → Prop} (hf : E.code f = some fn) (hr : fn.res = res) (hb : fn.body = some c) (hg : Ends E res (fun r h => ∃ p, snap h deep r = some p ∧ Q p) [.code c] args []) : ∃ p, PureTo E f args p ∧ Q p := by
  obtain ⟨r, h', h1, p, h2, h3⟩ := fn_go hf hr hb hg
  exact ⟨p, pure_of h1 h2, h3⟩
theorem pure_go1 {f : Nat} {args : List AV} {fn : CFn} {c : CC} {p : AV} (hf : E.code f = some fn) (hr : fn.res = res) (hb : fn.body = some c) (hg : Ends E res (fun r h => snap h deep r = some p) [.code c] args []) : PureTo E f args p := by
  obtain ⟨r, h', h1, h2⟩ := fn_go hf hr hb hg
  exact pure_of h1 h2

end
end Go.Proofs.VmX
