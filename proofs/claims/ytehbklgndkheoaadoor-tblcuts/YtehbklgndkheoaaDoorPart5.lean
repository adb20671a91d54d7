/- Part 5 of a proof: flonglaw09.TblCuts returns true for every text and leaves it as it was; no condition of our own. -/
import Derived.Test.YtehbklgndkheoaaDoorPart4
import Derived.Test.YtehbklgndkheoaaDoorChecked
import Derived.KernelRfl
import Derived.Test.YtehbklgndkheoaaDoorPart2
import Derived.DataReads
import GoSem.ClaimJoined
import GoSem.ClaimDataLaid
import Derived.Lib.Bytealg
import Derived.Lib.Index
import Derived.Test.YtehbklgndkheoaaDoorPart3
import Derived.ChangeReads
import Derived.ChangeArms
import Derived.ChangeSame
import Derived.ChangeAnyMap
import Derived.ProofKit
import Derived.OpenShut
import Derived.ChangeOld
import Derived.Test.YtehbklgndkheoaaDoorPart1
/- The Tbl seat's functions as the small machine has them: they are those of the program. MADE BY PROGRAM (mk.py). -/
set_option linter.unusedVariables false
set_option maxRecDepth 100000
namespace Go.Proofs.VmX
open Go

/-- What the variables hold; M: what internal/bytealg.MaxLen does. -/
def glM (M : Int) (g : Nat) : AV := if g = 1 then .vptr (.int .i64 M) 0 else gl g

def HT (M : Int) : Hints := { glob := glM M, inl := inlC }


theorem size_prog : Tryd.prog.funcs.size = 137 := by kernel_rfl

theorem all_eq (M : Int) : (List.range 137).map (cFn Tryd.prog (HT M)) = codeL.map some := by kernel_rfl

theorem code_eq (M : Int) (f : Nat) : cFn Tryd.prog (HT M) f = codeL[f]? := by
  rcases Nat.lt_or_ge f 137 with h | h
  · have := congrArg (fun l => l[f]?) (all_eq M)
    simp only [List.getElem?_map, List.getElem?_range h, Option.map_some] at this
    have hl : f < codeL.length := h
    rw [List.getElem?_eq_getElem hl] at this ⊢
    simpa using this
  · have hl : codeL.length ≤ f := h
    rw [List.getElem?_eq_none hl]
    unfold cFn
    rw [Array.getElem?_eq_none (by rw [size_prog]; exact h)]
    rfl


theorem env_eq (M : Int) : envOf Tryd.prog (HT M) = EC := by
  unfold envOf EC HT
  congr 1
  funext f
  exact code_eq M f

end Go.Proofs.VmX

/- What is read as data is a value of the small machine. -/
set_option linter.unusedVariables false
set_option linter.unusedSimpArgs false
set_option linter.unusedSectionVars false
namespace Go.Proofs.VmX
open Go.RowKit

def mkEl (agg : Bool) (cs : List AV) : AV := if agg then .agg cs else cs.headD .junk

/-- The cells of a datum of a type. -/
def avs {X : Type} (P : Program) : Nat → TypeId → DataW X → List AV
  | 0, _, _ => []
  | n + 1, t, d =>
    match P.underlying t, d with
    | some .bool, .lit (.bool b) => [.bool b]
    | some (.int k), .lit (.int _ m) => [.int k m]
    | some .string, .lit (.string s) => [.str s]
    | some (.slice _), .nil => [.sl true 0 []]
    | some (.slice e), .slice elems spare => [.sl spare.isEmpty (P.cellsOf e) (elems.map fun x => mkEl (tagg P e) (avs P n e x))]
    | some (.struct fs), .agg parts => ((fs.toList.zip parts).map fun x => avs P n x.1.type x.2).flatten
    | some (.array _ e), .agg parts => (parts.map fun x => avs P n e x).flatten
    | _, _ => []

/-- Types of plain data; so deep. -/
def plainT (P : Program) : Nat → TypeId → Bool
  | 0, _ => false
  | n + 1, t =>
    match P.underlying t with
    | some .bool => P.cellsOf t == 1
    | some (.int _) => P.cellsOf t == 1
    | some .string => P.cellsOf t == 1
    | some (.slice e) => P.cellsOf t == 1 && plainT P n e && P.cellsOf e != 0 && (tagg P e || P.cellsOf e == 1)
    | some (.struct fs) => fs.toList.all (fun f => plainT P n f.type) && P.cellsOf t == (fs.toList.map fun f => P.cellsOf f.type).sum &&
        (List.range fs.toList.length).all (fun j => match fs.toList[j]? with | some f => f.offset == ((fs.toList.take j).map fun f => P.cellsOf f.type).sum | none => true)
    | some (.array m e) => plainT P n e && P.cellsOf t == m * P.cellsOf e
    | _ => false

theorem flatten_take_drop {α : Type} : ∀ (ls : List (List α)) (j : Nat) (l : List α), ls[j]? = some l → (ls.flatten.drop ((ls.take j).map List.length).sum).take l.length = l := by
  intro ls
  induction ls with
  | nil => intro j l h; simp at h
  | cons x ls ih =>
    intro j l h
    cases j with
    | zero => simp at h; subst h; simp
    | succ j =>
      simp only [List.getElem?_cons_succ] at h
      have := ih j l h
      simp only [List.take_succ_cons, List.map_cons, List.sum_cons, List.flatten_cons]
      rw [← List.drop_drop, List.drop_left]
      exact this

theorem split_at {α : Type} : ∀ (ns : List Nat) (cs : List α), cs.length = ns.sum → ((List.range ns.length).map fun j => (cs.drop (ns.take j).sum).take (ns.getD j 0)).flatten = cs := by
  intro ns
  induction ns with
  | nil => intro cs h; simp at h; simp [h]
  | cons n ns ih =>
    intro cs h
    simp only [List.sum_cons] at h
    rw [List.length_cons, List.range_succ_eq_map, List.map_cons, List.flatten_cons]
    simp only [List.take_zero, List.sum_nil, List.drop_zero, List.getD_cons_zero, List.map_map]
    have e : ((fun j => (cs.drop ((n :: ns).take j).sum).take ((n :: ns).getD j 0)) ∘ Nat.succ) = fun j => ((cs.drop n).drop (ns.take j).sum).take (ns.getD j 0) := by
      funext j
      simp [List.drop_drop]
    rw [e, ih (cs.drop n) (by simp; omega)]
    exact List.take_append_drop n cs

section
variable {X : Type} {enc : TypeId × Value → X} {P : Program} {w : World} {held : Bool} {base : Nat} {sp : Nat → Bool}

abbrev S1 : Nat → Nat → Prop := fun _ _ => True
abbrev VRs0 (w : World) (az : List AV) (vs : List Value) : Prop := VRs S1 [] [] w az vs
abbrev VR0 (w : World) (a : AV) (v : Value) : Prop := VR S1 [] [] w a v

theorem safe0 (b o : Nat) : Safe S1 [] [] b o := ⟨trivial, fun id x h => by simp at h⟩

theorem VC_of0 {b : Nat} : ∀ {az : List AV} {vs : List Value} {o : Nat}, VRs0 w az vs → az.all AV.one = true → (∀ i v, vs[i]? = some v → w.cell? ⟨b, o + i, none⟩ = some v) → VC S1 [] [] w az b o := by
  intro az
  induction az with
  | nil => intro vs o _ _ _; exact .nil b o
  | cons a az ih =>
    intro vs o h1 h2 h3
    cases h1 with | cons _ v _ vs' g1 g2 =>
    simp only [List.all_cons, Bool.and_eq_true] at h2
    refine .cons a az b o v g1 h2.1 (by simpa using h3 0 v (by simp)) (safe0 b o) (ih g2 h2.2 fun i u hu => ?_)
    have := h3 (i + 1) u (by simpa using hu)
    rw [show o + 1 + i = o + (i + 1) by omega]
    exact this

theorem VC_app : ∀ {az bs : List AV} {b o : Nat}, VC S1 [] [] w az b o → VC S1 [] [] w bs b (o + az.length) → VC S1 [] [] w (az ++ bs) b o := by
  intro az
  induction az with
  | nil => intro bs b o _ h; simpa using h
  | cons a az ih =>
    intro bs b o h1 h2
    cases h1 with | cons _ _ _ _ v g1 g2 g3 g4 g5 =>
    refine .cons a _ b o v g1 g2 g3 g4 (ih g5 ?_)
    rw [show o + 1 + az.length = o + (a :: az).length by simp; omega]
    exact h2

theorem VRs_append0 {az bs : List AV} {vs ws : List Value} (h1 : VRs0 w az vs) (h2 : VRs0 w bs ws) : VRs0 w (az ++ bs) (vs ++ ws) := h1.append h2

theorem VRs_flatten0 : ∀ {ls : List (List AV)} {ms : List (List Value)}, ls.length = ms.length → (∀ (i : Nat) (l : List AV) (m : List Value), ls[i]? = some l → ms[i]? = some m → VRs0 w l m) → VRs0 w ls.flatten ms.flatten := by
  intro ls
  induction ls with
  | nil => intro ms h _; cases ms with
    | nil => exact .nil
    | cons => simp at h
  | cons l ls ih =>
    intro ms h h2
    cases ms with
    | nil => simp at h
    | cons m ms =>
      simp only [List.flatten_cons]
      exact VRs_append0 (h2 0 l m rfl rfl) (ih (by simpa using h) fun i l' m' h3 h4 => h2 (i + 1) l' m' (by simpa using h3) (by simpa using h4))

theorem cell?_spot {a : Addr} {v : Value} (hc : w.cell? a = some v) : a.spot = none := by
  unfold World.cell? at hc
  split at hc
  · split at hc
    · cases hc
    · rename_i h; simpa using h
  · cases hc

theorem cells?_spec {b : Nat} {a : Addr} {n : Nat} {l : List Value} (hc : w.cells? b a n = some l) (hn : n ≠ 0) : b ≤ a.block ∧ l.length = n ∧ a.spot = none ∧ ∀ (i : Nat) (v : Value), l[i]? = some v → w.cell? ⟨a.block, a.off + i, none⟩ = some v := by
  unfold World.cells? at hc
  split at hc
  · rename_i hb
    have hl := mapM_some_length hc
    have at_ : ∀ (i : Nat) (v : Value), l[i]? = some v → w.cell? (a.add i) = some v := fun i v hv => by
      have hi : i < l.length := (List.getElem?_eq_some_iff.1 hv).1
      have hr : (List.range n)[i]? = some i := by
        have : i < n := by simpa [hl] using hi
        simp [List.getElem?_range, this]
      have h2 := mapM_some_get hc i i hr
      rw [hv] at h2
      exact h2
    have hspot : a.spot = none := by
      have h0 : 0 < l.length := by rw [hl]; simp; omega
      have := at_ 0 l[0] (List.getElem?_eq_getElem h0)
      exact cell?_spot (by simpa [Addr.add] using this)
    refine ⟨hb, by simpa using hl, hspot, fun i v hv => ?_⟩
    have h2 := at_ i v hv
    cases a
    simp only at hspot
    subst hspot
    by_cases hi : i = 0
    · subst hi; simpa [Addr.add] using h2
    · simpa [Addr.add, hi] using h2
  · cases hc

/-- What the reading gives. -/
theorem trod_avs : ∀ (n : Nat) (t : TypeId) (cs : List Value) (d : DataW X) (ps : List MemPlace), plainT P n t = true →
    DataW.trod enc P w base (fun _ => true) held n t cs = some (d, ps) →
    VRs0 w (avs P n t d) cs ∧ (avs P n t d).length = P.cellsOf t ∧ (avs P n t d).all AV.one = true := by
  intro n
  induction n with
  | zero => intro t cs d ps hp; simp [plainT] at hp
  | succ n ih =>
    intro t cs d ps hp htr
    unfold DataW.trod at htr
    simp only [plainT] at hp
    split at htr
    · rename_i b hu
      rw [hu] at hp
      injection htr with htr
      simp only [Prod.mk.injEq] at htr
      obtain ⟨rfl, rfl⟩ := htr
      simp only [avs, hu]
      simp only [beq_iff_eq] at hp
      exact ⟨.cons _ _ _ _ (.bool b) .nil, by simp [hp], rfl⟩
    · rename_i k k' m hu
      rw [hu] at hp
      split at htr
      · rename_i hk
        obtain ⟨rfl, hk2⟩ := hk
        injection htr with htr
        simp only [Prod.mk.injEq] at htr
        obtain ⟨rfl, rfl⟩ := htr
        simp only [avs, hu]
        simp only [beq_iff_eq] at hp
        exact ⟨.cons _ _ _ _ (.int _ m) .nil, by simp [hp], rfl⟩
      · cases htr
    · rename_i k k' m hu
      rw [hu] at hp
      cases hp
    · rename_i s hu
      rw [hu] at hp
      split at htr
      · injection htr with htr
        simp only [Prod.mk.injEq] at htr
        obtain ⟨rfl, rfl⟩ := htr
        simp only [avs, hu]
        simp only [beq_iff_eq] at hp
        exact ⟨.cons _ _ _ _ (.str s.data.toList) .nil, by simp [hp], rfl⟩
      · cases htr
    · rename_i hu; rw [hu] at hp; cases hp
    · rename_i hu; rw [hu] at hp; cases hp
    · rename_i e hu
      rw [hu] at hp
      simp only [Bool.and_eq_true, beq_iff_eq] at hp
      injection htr with htr
      simp only [Prod.mk.injEq] at htr
      obtain ⟨rfl, rfl⟩ := htr
      simp only [avs, hu]
      exact ⟨.cons _ _ _ _ (.sl0 true 0 none 0 (fun _ => rfl) ⟨fun _ => rfl, fun _ => rfl⟩) .nil, by simp [hp], rfl⟩
    · rename_i e a len cap hu
      rw [hu] at hp
      simp only [Bool.and_eq_true, bne_iff_ne, ne_eq, beq_iff_eq, Bool.or_eq_true] at hp
      obtain ⟨⟨⟨hp1, hp2⟩, hp3⟩, hp4⟩ := hp
      simp only [if_true] at htr
      split at htr
      · rename_i hcond
        simp only [Option.bind_eq_some_iff, Option.map_eq_some_iff, Prod.mk.injEq] at htr
        obtain ⟨elems, he, rest, hr, rfl, rfl⟩ := htr
        have hel := mapM_some_length he
        have hrl := mapM_some_length hr
        simp only [List.length_range] at hel hrl
        -- each element
        have one : ∀ (i : Nat) (x : DataW X × List MemPlace), elems[i]? = some x → ∃ l, w.cells? base (a.add (i * P.cellsOf e)) (P.cellsOf e) = some l ∧ VRs0 w (avs P n e x.1) l ∧ (avs P n e x.1).length = P.cellsOf e ∧ (avs P n e x.1).all AV.one = true := by
          intro i x hx
          have hi : i < len := by have := (List.getElem?_eq_some_iff.1 hx).1; omega
          have := mapM_some_get he i i (by simp [List.getElem?_range, hi])
          rw [hx, Option.bind_eq_some_iff] at this
          obtain ⟨l, h1, h2⟩ := this
          exact ⟨l, h1, ih e l x.1 x.2 hp2 h2⟩
        have mk : ∀ l : List AV, l.length = P.cellsOf e → l.all AV.one = true → (mkEl (tagg P e) l).cells = l ∧ okEl (P.cellsOf e) (mkEl (tagg P e) l) = true := by
          intro l h1 h2
          rcases hp4 with h | h
          · simp [mkEl, h, AV.cells, okEl, h1, h2]
          · rw [h] at h1
            match l, h1 with
            | [v], _ =>
              simp only [mkEl, okEl]
              split
              · simp only [AV.cells]; rw [h]; simpa using h2
              · have hv : v.one = true := by simpa using h2
                have hc : v.cells = [v] := by cases v <;> first | rfl | (simp [AV.one] at hv)
                simp only [List.headD_cons, hc, h]; simpa using hv
        have hcells : ∀ x ∈ elems, (mkEl (tagg P e) (avs P n e x.1)).cells = avs P n e x.1 ∧ okEl (P.cellsOf e) (mkEl (tagg P e) (avs P n e x.1)) = true := by
          intro x hx
          obtain ⟨i, hi, rfl⟩ := List.getElem_of_mem hx
          obtain ⟨l, _, _, h3, h4⟩ := one i _ (List.getElem?_eq_getElem hi)
          exact mk _ h3 h4
        simp only [avs, hu, List.map_map]
        refine ⟨.cons _ _ _ _ ?_ .nil, by simp [hp1], by simp [AV.one]⟩
        by_cases hnil : elems = []
        · subst hnil
          simp only [List.length_nil] at hel
          subst hel
          refine .sl0 _ _ (some a) cap (fun hx => ?_) ⟨fun h0 => absurd h0 hp3, fun h0 => by cases h0⟩
          have : rest = [] := by simpa using hx
          subst this
          simpa using hrl.symm
        · have hlen : 0 < elems.length := List.length_pos_iff.2 hnil
          obtain ⟨l0, h01, _⟩ := one 0 elems[0] (List.getElem?_eq_getElem hlen)
          have hspot : a.spot = none := by simpa [Addr.add] using (cells?_spec h01 hp3).2.2.1
          obtain ⟨b, o, spot⟩ := a
          simp only at hspot
          subst hspot
          have hadd : ∀ k : Nat, (Addr.mk b o none).add k = ⟨b, o + k, none⟩ := by
            intro k
            by_cases hk : k = 0
            · subst hk; simp [Addr.add]
            · simp [Addr.add, hk]
          have hll : (elems.map ((fun x => mkEl (tagg P e) (avs P n e x)) ∘ fun x => x.1)).length = len := by simp [hel]
          rw [← hll]
          refine .sl _ _ _ b o cap (by simpa using hnil) ?_ ?_ (by rw [hll]; exact hcond.2.1) ?_
          · intro y hy
            obtain ⟨x, hx, rfl⟩ := List.mem_map.1 hy
            exact (hcells x hx).2
          · have hflat : (elems.map ((fun x => mkEl (tagg P e) (avs P n e x)) ∘ fun x => x.1)).flatMap AV.cells = (elems.map fun x => avs P n e x.1).flatten := by
              rw [List.flatMap_map, List.flatMap_def]
              congr 1
              exact List.map_congr_left fun x hx => (hcells x hx).1
            rw [hflat]
            -- element by element
            have walk : ∀ (ys : List (DataW X × List MemPlace)) (k : Nat), (∀ (i : Nat) (x : DataW X × List MemPlace), ys[i]? = some x → elems[k + i]? = some x) → VC S1 [] [] w (ys.map fun x => avs P n e x.1).flatten b (o + k * P.cellsOf e) := by
              intro ys
              induction ys with
              | nil => intro k _; exact .nil _ _
              | cons x ys ihy =>
                intro k hk
                obtain ⟨l, h1, h2, h3, h4⟩ := one k x (by simpa using hk 0 x rfl)
                rw [hadd] at h1
                have hspec := (cells?_spec h1 hp3).2.2.2
                have v1 := VC_of0 h2 h4 hspec
                have v2 := ihy (k + 1) (fun i y hy => by have := hk (i + 1) y (by simpa using hy); rw [show k + 1 + i = k + (i + 1) by omega]; exact this)
                rw [List.map_cons, List.flatten_cons]
                refine VC_app v1 ?_
                rw [h3, show o + k * P.cellsOf e + P.cellsOf e = o + (k + 1) * P.cellsOf e by rw [Nat.succ_mul]; omega]
                exact v2
            simpa using walk elems 0 (fun i x hx => by simpa using hx)
          · intro hx
            have : rest = [] := by simpa using hx
            subst this
            simp only [List.length_nil] at hrl
            rw [hll]
            omega
      · cases htr
    · rename_i cs _ _ fs hu
      rw [hu] at hp
      simp only [Bool.and_eq_true, beq_iff_eq, List.all_eq_true] at hp
      obtain ⟨⟨hp1, hp2⟩, hp3⟩ := hp
      split at htr
      · rename_i hlen
        simp only [Option.map_eq_some_iff, Prod.mk.injEq] at htr
        obtain ⟨xs, hxs, rfl, rfl⟩ := htr
        have hxl := mapM_some_length hxs
        have one : ∀ (j : Nat) (f : Field) (x : DataW X × List MemPlace), fs.toList[j]? = some f → xs[j]? = some x →
            VRs0 w (avs P n f.type x.1) ((cs.drop ((fs.toList.take j).map fun f => P.cellsOf f.type).sum).take (P.cellsOf f.type)) ∧ (avs P n f.type x.1).length = P.cellsOf f.type ∧ (avs P n f.type x.1).all AV.one = true := by
          intro j f x hf hx
          have h1 := mapM_some_get hxs j f hf
          rw [hx] at h1
          have hj : j < fs.toList.length := (List.getElem?_eq_some_iff.1 hf).1
          have h2 := hp3 j (List.mem_range.2 hj)
          rw [hf] at h2
          simp only [beq_iff_eq] at h2
          rw [h2] at h1
          exact ih f.type _ x.1 x.2 (hp1 f (List.mem_of_getElem? hf)) h1
        simp only [avs, hu]
        have hz : (fs.toList.zip (xs.map (·.1))).length = fs.toList.length := by simp [hxl]
        have hsplit := split_at (fs.toList.map fun f => P.cellsOf f.type) cs (by rw [hlen, hp2])
        refine ⟨?_, ?_, ?_⟩
        · rw [← hsplit]
          refine VRs_flatten0 (by simp [hxl]) fun i l m hl hm => ?_
          rw [List.getElem?_map, Option.map_eq_some_iff] at hl hm
          obtain ⟨x, hx, rfl⟩ := hl
          obtain ⟨j, hj, rfl⟩ := hm
          rw [List.getElem?_zip_eq_some] at hx
          obtain ⟨g1, g2⟩ := hx
          rw [List.getElem?_map, Option.map_eq_some_iff] at g2
          obtain ⟨y, hy, hy2⟩ := g2
          have hji : j = i := by
            have hi : i < (fs.toList.map fun f => P.cellsOf f.type).length := by simpa using (List.getElem?_eq_some_iff.1 g1).1
            rw [List.getElem?_range hi] at hj
            injection hj with hj
            exact hj.symm
          subst hji
          have := (one j x.1 y g1 hy).1
          rw [← hy2]
          have hd : (fs.toList.map fun f => P.cellsOf f.type).getD j 0 = P.cellsOf x.1.type := by
            rw [List.getD_eq_getElem?_getD, List.getElem?_map, g1]; rfl
          rw [hd, ← List.map_take]
          exact this
        · rw [hp2, List.length_flatten]
          congr 1
          rw [List.map_map]
          apply List.ext_getElem?
          intro i
          rw [List.getElem?_map, List.getElem?_map]
          rcases Nat.lt_or_ge i fs.toList.length with hi | hi
          · have hi2 : i < xs.length := by omega
            have hzi : (fs.toList.zip (xs.map (·.1)))[i]? = some (fs.toList[i], xs[i].1) := by
              rw [List.getElem?_zip_eq_some]
              exact ⟨List.getElem?_eq_getElem hi, by simp [List.getElem?_eq_getElem hi2]⟩
            rw [hzi, List.getElem?_eq_getElem hi]
            simp only [Option.map_some, Function.comp]
            rw [(one i _ _ (List.getElem?_eq_getElem hi) (List.getElem?_eq_getElem hi2)).2.1]
          · rw [List.getElem?_eq_none (by omega), List.getElem?_eq_none (by omega)]
            rfl
        · rw [List.all_eq_true]
          intro v hv
          rw [List.mem_flatten] at hv
          obtain ⟨l, hl, hv⟩ := hv
          rw [List.mem_map] at hl
          obtain ⟨x, hx, rfl⟩ := hl
          obtain ⟨i, hi, rfl⟩ := List.getElem_of_mem hx
          have hi1 : i < fs.toList.length := by omega
          have hi2 : i < xs.length := by omega
          have := (one i _ _ (List.getElem?_eq_getElem hi1) (List.getElem?_eq_getElem hi2)).2.2
          rw [List.all_eq_true] at this
          exact this v (by simpa using hv)
      · cases htr
    · rename_i cs _ _ m e hu
      rw [hu] at hp
      simp only [Bool.and_eq_true, beq_iff_eq] at hp
      obtain ⟨hp1, hp2⟩ := hp
      split at htr
      · rename_i hlen
        simp only [Option.map_eq_some_iff, Prod.mk.injEq] at htr
        obtain ⟨xs, hxs, rfl, rfl⟩ := htr
        have hxl := mapM_some_length hxs
        simp only [List.length_range] at hxl
        have one : ∀ (j : Nat) (x : DataW X × List MemPlace), xs[j]? = some x →
            VRs0 w (avs P n e x.1) ((cs.drop (j * P.cellsOf e)).take (P.cellsOf e)) ∧ (avs P n e x.1).length = P.cellsOf e ∧ (avs P n e x.1).all AV.one = true := by
          intro j x hx
          have hj : j < m := by have := (List.getElem?_eq_some_iff.1 hx).1; omega
          have h1 := mapM_some_get hxs j j (by simp [List.getElem?_range, hj])
          rw [hx] at h1
          exact ih e _ x.1 x.2 hp1 h1
        simp only [avs, hu]
        have hsum : (List.replicate m (P.cellsOf e)).sum = m * P.cellsOf e := by simp
        have hsplit := split_at (List.replicate m (P.cellsOf e)) cs (by rw [hlen, hp2, hsum])
        refine ⟨?_, ?_, ?_⟩
        · rw [← hsplit]
          refine VRs_flatten0 (by simp [hxl]) fun i l k hl hk => ?_
          rw [List.getElem?_map, Option.map_eq_some_iff] at hl hk
          obtain ⟨x, hx, rfl⟩ := hl
          obtain ⟨j, hj, rfl⟩ := hk
          rw [List.getElem?_map, Option.map_eq_some_iff] at hx
          obtain ⟨y, hy, rfl⟩ := hx
          have hi : i < m := by have := (List.getElem?_eq_some_iff.1 hy).1; omega
          have hji : j = i := by
            rw [List.getElem?_range (by simpa using hi)] at hj
            injection hj with hj
            exact hj.symm
          subst hji
          have := (one j y hy).1
          have hd : (List.replicate m (P.cellsOf e)).getD j 0 = P.cellsOf e := by
            rw [List.getD_eq_getElem?_getD, List.getElem?_replicate, if_pos hi]; rfl
          have hs : ((List.replicate m (P.cellsOf e)).take j).sum = j * P.cellsOf e := by
            rw [List.take_replicate, Nat.min_eq_left (Nat.le_of_lt hi)]; simp
          rw [hd, hs]
          exact this
        · rw [hp2, List.length_flatten, ← hsum]
          congr 1
          apply List.ext_getElem?
          intro i
          rw [List.getElem?_map, List.getElem?_map, List.getElem?_map, List.getElem?_replicate]
          rcases Nat.lt_or_ge i m with hi | hi
          · have hi2 : i < xs.length := by omega
            rw [List.getElem?_eq_getElem hi2, if_pos hi]
            simp only [Option.map_some]
            rw [(one i _ (List.getElem?_eq_getElem hi2)).2.1]
          · rw [List.getElem?_eq_none (by omega), if_neg (by omega)]
            rfl
        · rw [List.all_eq_true]
          intro v hv
          rw [List.mem_flatten] at hv
          obtain ⟨l, hl, hv⟩ := hv
          rw [List.mem_map] at hl
          obtain ⟨x, hx, rfl⟩ := hl
          rw [List.mem_map] at hx
          obtain ⟨y, hy, rfl⟩ := hx
          obtain ⟨i, hi2, rfl⟩ := List.getElem_of_mem hy
          have := (one i _ (List.getElem?_eq_getElem hi2)).2.2
          rw [List.all_eq_true] at this
          exact this v hv
      · cases htr
    all_goals first | (cases htr; done) | (rename_i hu; rw [hu] at hp; cases hp)


theorem mapM_cong {α β : Type} {f g : α → Option β} : ∀ {l : List α} {r : List β}, l.mapM f = some r → (∀ (x : α) (y : β), x ∈ l → y ∈ r → f x = some y → g x = some y) → l.mapM g = some r := by
  intro l
  induction l with
  | nil => intro r h _; simpa using h
  | cons a l ih =>
    intro r h hfg
    simp only [List.mapM_cons, Option.pure_def, Option.bind_eq_bind, Option.bind_eq_some_iff, Option.some.injEq] at h ⊢
    obtain ⟨y, h1, ys, h2, rfl⟩ := h
    exact ⟨y, hfg a y (by simp) (by simp) h1, ys, ih h2 fun x z hx hz => hfg x z (by simp [hx]) (by simp [hz]), rfl⟩

/-- Spare places are looked at where what is read lies. -/
theorem trod_sp {sp : Nat → Bool} : ∀ (n : Nat) (t : TypeId) (cs : List Value) (x : DataW X × List MemPlace), plainT P n t = true →
    DataW.trod enc P w base (fun _ => true) held n t cs = some x → (∀ p ∈ x.2, sp p.block = true) → DataW.trod enc P w base sp held n t cs = some x := by
  intro n
  induction n with
  | zero => intro t cs x hp; simp [plainT] at hp
  | succ n ih =>
    intro t cs x hp htr hsp
    unfold DataW.trod at htr ⊢
    simp only [plainT] at hp
    split at htr
    case h_1 => exact htr
    case h_2 => exact htr
    case h_3 => exact htr
    case h_4 => exact htr
    case h_5 => exact htr
    case h_6 => rename_i hu; rw [hu] at hp; cases hp
    case h_7 => exact htr
    case h_8 e a len cap hu =>
      rw [hu] at hp
      simp only [Bool.and_eq_true, bne_iff_ne, ne_eq, beq_iff_eq, Bool.or_eq_true] at hp
      obtain ⟨⟨⟨hp1, hp2⟩, hp3⟩, hp4⟩ := hp
      simp only [if_true] at htr ⊢
      split at htr
      · rename_i hcond
        rw [if_pos hcond]
        simp only [Option.bind_eq_some_iff, Option.map_eq_some_iff] at htr ⊢
        obtain ⟨elems, he, rest, hr, rfl⟩ := htr
        have hel := mapM_some_length he
        have hrl := mapM_some_length hr
        simp only [List.length_range] at hel hrl
        have inner : ∀ (y : DataW X × List MemPlace), y ∈ elems ++ rest → ∀ p ∈ y.2, sp p.block = true := fun y hy p hpy =>
          hsp p (List.mem_append_right _ (List.mem_flatMap.2 ⟨y, hy, hpy⟩))
        refine ⟨elems, mapM_cong he fun i y hi hy h => ?_, rest, ?_, rfl⟩
        · simp only [Option.bind_eq_some_iff] at h ⊢
          obtain ⟨l, h1, h2⟩ := h
          exact ⟨l, h1, ih e l y hp2 h2 (inner y (List.mem_append_left _ hy))⟩
        · have hrest : (List.range (cap - len)).mapM (fun j => (w.cells? base (a.add ((len + j) * P.cellsOf e)) (P.cellsOf e)).bind (DataW.trod enc P w base sp held n e)) = some rest := mapM_cong hr fun i y hi hy h => by
            simp only [Option.bind_eq_some_iff] at h ⊢
            obtain ⟨l, h1, h2⟩ := h
            exact ⟨l, h1, ih e l y hp2 h2 (inner y (List.mem_append_right _ hy))⟩
          by_cases hz : elems.length + rest.length = 0
          · have : rest = [] := List.eq_nil_of_length_eq_zero (by omega)
            subst this
            split
            · exact hrest
            · rfl
          · have hm : MemPlace.cell a.block (a.off + 0) ∈ MemPlace.row a ((elems.length + rest.length) * P.cellsOf e) := by
              unfold MemPlace.row
              exact List.mem_map.2 ⟨0, List.mem_range.2 (Nat.mul_pos (by omega) (by omega)), rfl⟩
            have := hsp _ (List.mem_append_left _ hm)
            simp only [MemPlace.block] at this
            rw [this, if_pos rfl]
            exact hrest
      · cases htr
    case h_9 cs' _ _ fs hu =>
      rw [hu] at hp
      simp only [Bool.and_eq_true, beq_iff_eq, List.all_eq_true] at hp
      obtain ⟨⟨hp1, hp2⟩, hp3⟩ := hp
      split at htr
      · rename_i hlen
        rw [if_pos hlen]
        simp only [Option.map_eq_some_iff] at htr ⊢
        obtain ⟨xs, hxs, rfl⟩ := htr
        exact ⟨xs, mapM_cong hxs fun f y hf hy h => ih f.type _ y (hp1 f hf) h fun p hpy => hsp p (List.mem_flatMap.2 ⟨y, hy, hpy⟩), rfl⟩
      · cases htr
    case h_10 cs' _ _ m e hu =>
      rw [hu] at hp
      simp only [Bool.and_eq_true, beq_iff_eq] at hp
      obtain ⟨hp1, hp2⟩ := hp
      split at htr
      · rename_i hlen
        rw [if_pos hlen]
        simp only [Option.map_eq_some_iff] at htr ⊢
        obtain ⟨xs, hxs, rfl⟩ := htr
        exact ⟨xs, mapM_cong hxs fun f y hf hy h => ih e _ y hp1 h fun p hpy => hsp p (List.mem_flatMap.2 ⟨y, hy, hpy⟩), rfl⟩
      · cases htr
    all_goals first | (cases htr; done) | (rename_i hu; rw [hu] at hp; cases hp)

end
end Go.Proofs.VmX

/- Functions that are not walked: the model's entries, and those of the shelf. -/
set_option linter.unusedVariables false
set_option linter.unusedSimpArgs false
set_option linter.unusedSectionVars false
namespace Go.Proofs.VmX
open Go.RowKit

section
variable {P : Program} {H : Hints} {f : Nat} {fn : Func}

theorem idxByte_lib (c : UInt8) : ∀ (l : List UInt8) (n : Nat), idxByte c l n = if Lib.indexByte l c = -1 then -1 else Lib.indexByte l c + n := by
  intro l
  induction l with
  | nil => intro n; simp [idxByte, Lib.indexByte]
  | cons b l ih =>
    intro n
    simp only [idxByte, Lib.indexByte]
    by_cases hb : (b == c) = true
    · simp [hb]
    · simp only [hb, Bool.false_eq_true, if_false, ih (n + 1)]
      have := Lib.indexByte_ge l c
      by_cases h1 : Lib.indexByte l c = -1
      · simp [h1]
      · have h2 : (Lib.indexByte l c == -1) = false := by simpa using h1
        rw [if_neg h1]
        simp only [h2, Bool.false_eq_true, if_false]
        rw [if_neg (by omega)]
        omega
theorem cntByte_lib (c : UInt8) (l : List UInt8) : cntByte c l = Lib.countByte l c := by
  simp [cntByte, Lib.countByte, List.count, List.countP_eq_length_filter]
theorem isPre_lib : ∀ (a b : List UInt8), isPre a b = a.isPrefixOf b := by
  intro a
  induction a with
  | nil => intro b; simp [isPre]
  | cons x a ih =>
    intro b
    cases b with
    | nil => simp [isPre]
    | cons y b => simp [isPre, List.isPrefixOf, ih]
theorem idxStr_lib (sub : List UInt8) : ∀ (l : List UInt8) (n : Nat), idxStr sub l n = if Lib.index l sub = -1 then -1 else Lib.index l sub + n := by
  intro l
  induction l with
  | nil =>
    intro n
    simp only [idxStr, Lib.index]
    by_cases h : sub.isEmpty = true
    · simp [h]
    · simp [h]
  | cons b l ih =>
    intro n
    simp only [idxStr, Lib.index, isPre_lib]
    by_cases hb : sub.isPrefixOf (b :: l) = true
    · simp [hb]
    · simp only [hb, Bool.false_eq_true, if_false, ih (n + 1)]
      have := Lib.index_ge l sub
      by_cases h1 : Lib.index l sub = -1
      · simp [h1]
      · have h2 : (Lib.index l sub == -1) = false := by simpa using h1
        rw [if_neg h1]
        simp only [h2, Bool.false_eq_true, if_false]
        rw [if_neg (by omega)]
        omega

theorem value_ok {G : Nat → AV} {S : Nat → Nat → Prop} {B : Nat} {φ : Phi} {h : Heap} {w : World} {vs : Array Value} {v : Value} {r : AV} (hrel : Rel G S B φ h w) (hr : (callFunc f vs).run P w = .ok (.value v) w) (hv : VR S φ h w r v) : CallOK P G S B φ h w f vs h r :=
  .inl ⟨v, w, φ, hr, hrel, Ext.refl .., hv, Below.refl ..⟩

theorem extOK_none (k : Nat) (hk : ∀ args h, ext k args h = none) : ExtOK P H f k := by
  intro args h r h' he
  rw [hk] at he
  cases he

theorem extOK_1 (hf : P.funcs[f]? = some fn) (hb : fn.body.isNone = true) (hn : (fn.name == "runtime.NumGoroutine") = false) (h1 : Extern.findNext fn = none) (h2 : Extern.find fn = some Extern.BytealgIndexByte.indexByte) : ExtOK P H f 1 := by
  intro args h r h' he S B φ w vs hrel hv
  simp only [ext] at he
  split at he <;> first | (cases he; done) | skip
  all_goals (rename_i heq; try (cases heq; done))
  rename_i s c
  injection he with he
  simp only [Prod.mk.injEq] at he
  obtain ⟨rfl, rfl⟩ := he
  cases hv with | cons _ v _ vs g1 g2 =>
  cases g2 with | cons _ u _ vs g3 g4 =>
  cases g4
  cases g1
  cases g3
  refine value_ok hrel (v := .int .i64 (idxByte (UInt8.ofNat c.toNat) s 0)) ?_ (.int _ _)
  rw [run_callFunc_extern hf hn hb h1 h2]
  have := Lib.run_indexByteString (P := P) ⟨s.toArray⟩ c w
  have e : Extern.BytealgIndexByte.indexByte [Value.string ⟨s.toArray⟩, Value.int .u8 c].toArray = Extern.BytealgIndexByte.indexByte #[.string ⟨s.toArray⟩, .int .u8 c] := rfl
  rw [e, this, Result.andThen_ok, idxByte_lib]
  simp only [Nat.toUInt8_eq]
  split
  · rename_i h; simp [h]
  · simp

theorem extOK_2 (hf : P.funcs[f]? = some fn) (hb : fn.body.isNone = true) (hn : (fn.name == "runtime.NumGoroutine") = false) (h1 : Extern.findNext fn = none) (h2 : Extern.find fn = some Extern.BytealgCount.count) : ExtOK P H f 2 := by
  intro args h r h' he S B φ w vs hrel hv
  simp only [ext] at he
  split at he <;> first | (cases he; done) | skip
  all_goals (rename_i heq; try (cases heq; done))
  rename_i s c
  injection he with he
  simp only [Prod.mk.injEq] at he
  obtain ⟨rfl, rfl⟩ := he
  cases hv with | cons _ v _ vs g1 g2 =>
  cases g2 with | cons _ u _ vs g3 g4 =>
  cases g4
  cases g1
  cases g3
  refine value_ok hrel (v := .int .i64 (cntByte (UInt8.ofNat c.toNat) s : Nat)) ?_ (.int _ _)
  rw [run_callFunc_extern hf hn hb h1 h2]
  have := Lib.run_countString (P := P) ⟨s.toArray⟩ c w
  have e : Extern.BytealgCount.count [Value.string ⟨s.toArray⟩, Value.int .u8 c].toArray = Extern.BytealgCount.count #[.string ⟨s.toArray⟩, .int .u8 c] := rfl
  rw [e, this, Result.andThen_ok, cntByte_lib]
  try simp only [Nat.toUInt8_eq]

theorem extOK_4 (hf : P.funcs[f]? = some fn) (hb : fn.body.isNone = true) (hn : (fn.name == "runtime.NumGoroutine") = false) (h1 : Extern.findNext fn = none) (h2 : Extern.find fn = some Extern.AbiNoEscape.same) : ExtOK P H f 4 := by
  intro args h r h' he S B φ w vs hrel hv
  simp only [ext] at he
  split at he <;> first | (cases he; done) | skip
  all_goals (rename_i heq; try (cases heq; done))
  rename_i x
  injection he with he
  simp only [Prod.mk.injEq] at he
  obtain ⟨rfl, rfl⟩ := he
  cases hv with | cons _ v _ vs g1 g2 =>
  cases g2
  refine value_ok hrel (v := v) ?_ g1
  rw [run_callFunc_extern hf hn hb h1 h2]
  rfl

theorem extOK_10 {g : Nat} {m : Int} (hG : H.glob g = .vptr (.int .i64 m) 0) (hen : ∀ (vs : Array Value) (w : World), (callFunc f vs).run P w = .ok (.enter f vs) w)
    (hc : ∀ (s sub : ByteArray) (w : World), s.size < 4294967281 → w.cell? ⟨g, 0, none⟩ = some (.int .i64 m) →
      Calls P f #[.string s, .string sub] w fun e w' => e = .returned (.int .i64 (Lib.index s.data.toList sub.data.toList)) ∧ w' = w) : ExtOK P H f 10 := by
  intro args h r h' he S B φ w vs hrel hv
  simp only [ext] at he
  split at he <;> first | (cases he; done) | skip
  all_goals (rename_i heq; try (cases heq; done))
  rename_i s t
  split at he
  · rename_i hs
    injection he with he
    simp only [Prod.mk.injEq] at he
    obtain ⟨rfl, rfl⟩ := he
    cases hv with | cons _ v _ vs g1 g2 =>
    cases g2 with | cons _ u _ vs g3 g4 =>
    cases g4
    cases g1
    cases g3
    have hgl := hrel.glob g
    rw [hG] at hgl
    have hcell : w.cell? ⟨g, 0, none⟩ = some (.int .i64 m) := by
      generalize ha : Value.pointer (some ⟨g, 0, none⟩) = pv at hgl
      cases hgl with | vptr e off b o hc =>
      simp only [Value.pointer.injEq, Option.some.injEq, Addr.mk.injEq] at ha
      obtain ⟨rfl, ho, _⟩ := ha
      have : o = 0 := by omega
      subst this
      cases hc with | cons _ _ _ _ v h1 h2 h3 h4 h5 =>
      cases h1
      exact h3
    refine .inr ⟨hen _ w, (hc ⟨s.toArray⟩ ⟨t.toArray⟩ w hs.1 hcell).mono fun e w' ⟨h1, h2⟩ => ?_⟩
    subst h2
    refine ⟨_, φ, h1, hrel, Ext.refl .., ?_, Below.refl ..⟩
    rw [idxStr_lib]
    have e : (if Lib.index s t = -1 then -1 else Lib.index s t + ((0 : Nat) : Int)) = Lib.index s t := by split <;> simp_all
    rw [e]
    exact .int _ _
  · cases he

end
end Go.Proofs.VmX

/- For reading the small machine's code: frames, numbers, slices. -/
set_option linter.unusedVariables false
set_option linter.unusedSimpArgs false
set_option linter.unusedSectionVars false
namespace Go.Proofs.VmX

theorem b_t (b : Bool) : (b == true) = b := by cases b <;> rfl
theorem b_f (b : Bool) : (b == false) = !b := by cases b <;> rfl
theorem get_cons_zero (a : AV) (l : List AV) : get (a :: l) 0 = a := rfl
theorem get_cons_succ (a : AV) (l : List AV) (n : Nat) : get (a :: l) (n + 1) = get l n := rfl
theorem get_nil (n : Nat) : get [] n = .tup [] := rfl
theorem get_put_if (t : List AV) (i : Nat) (v : AV) (j : Nat) : get (put t i v) j = if i = j then v else get t j := get_put t i v j

theorem wr64 {n : Int} (h1 : -9223372036854775808 ≤ n) (h2 : n ≤ 9223372036854775807) : IntKind.i64.wrap n = n := by
  have e1 : ((2 : Int) ^ IntKind.i64.bits) = 18446744073709551616 := by decide
  have e2 : ((2 : Int) ^ (IntKind.i64.bits - 1)) = 9223372036854775808 := by decide
  simp only [IntKind.wrap, e1, e2, IntKind.signed, Bool.true_and, decide_eq_true_eq, ge_iff_le]
  split <;> omega
theorem wr32 {n : Int} (h1 : -2147483648 ≤ n) (h2 : n ≤ 2147483647) : IntKind.i32.wrap n = n := by
  have e1 : ((2 : Int) ^ IntKind.i32.bits) = 4294967296 := by decide
  have e2 : ((2 : Int) ^ (IntKind.i32.bits - 1)) = 2147483648 := by decide
  simp only [IntKind.wrap, e1, e2, IntKind.signed, Bool.true_and, decide_eq_true_eq, ge_iff_le]
  split <;> omega
theorem wru8 {n : Int} (h1 : 0 ≤ n) (h2 : n ≤ 255) : IntKind.u8.wrap n = n := by
  have e1 : ((2 : Int) ^ IntKind.u8.bits) = 256 := by decide
  simp only [IntKind.wrap, e1, IntKind.signed, Bool.false_and, Bool.false_eq_true, if_false]
  omega

theorem asNat_cast (k : IntKind) (n : Nat) : asNat (.int k (n : Int)) = some n := by simp [asNat]
theorem asNat_zero (k : IntKind) : asNat (.int k 0) = some 0 := by simp [asNat]
theorem asNat_one (k : IntKind) : asNat (.int k 1) = some 1 := by simp [asNat]
theorem asNat_of {k : IntKind} {n : Int} (h : 0 ≤ n) : asNat (.int k n) = some n.toNat := by simp [asNat, h]

/-! Objects. -/
theorem getA_def (h : Heap) (id : Nat) (o : Arr) (hi : h[id]? = some (.arr o)) : getA h id o.gen = some o := by simp [getA, hi]
theorem getA_lt {h : Heap} {id gen : Nat} {o : Arr} (hg : getA h id gen = some o) : id < h.length := by
  unfold getA at hg
  split at hg
  · rename_i x hx; exact (List.getElem?_eq_some_iff.1 hx).1
  · cases hg
theorem getA_app {h : Heap} {id gen : Nat} {o : Arr} (l : Heap) (hg : getA h id gen = some o) : getA (h ++ l) id gen = some o := by
  have := getA_lt hg
  unfold getA at hg ⊢
  rw [List.getElem?_append_left this]
  exact hg
theorem getA_new (h : Heap) (o : Arr) (n g : Nat) (hn : n = h.length) (hg : o.gen = g) : getA (h ++ [.arr o]) n g = some o := by
  subst hn hg
  simp [getA]
theorem getA_set_ne {h : Heap} {id id' gen : Nat} {x : Obj} (hne : id' ≠ id) : getA (h.set id' x) id gen = getA h id gen := by
  simp [getA, List.getElem?_set, hne]
theorem getA_set {h : Heap} {id : Nat} {o : Arr} (hl : id < h.length) : getA (h.set id (.arr o)) id o.gen = some o := by
  simp [getA, hl]

theorem snap_rf {h : Heap} {n : Nat} {r : AV} (hr : rf r = true) : snap h (n + 1) r = some r := by unfold snap; rw [if_pos hr]
theorem snap_deep_rf {h : Heap} {r : AV} (hr : rf r = true) : snap h deep r = some r := snap_rf hr

theorem cons_beq_nil {α : Type} [BEq α] (a : α) (l : List α) : (a :: l == []) = false := rfl
theorem nil_beq_cons {α : Type} [BEq α] (a : α) (l : List α) : ([] == a :: l) = false := rfl
theorem minMax_nil (m : Bool) (a : Int) (k : IntKind) : minMax m a [] k = some a := rfl
theorem min_le {a b : Int} (h : a ≤ b) (k : IntKind) : minMax false a [.int k b] k = some a := by simp only [minMax, if_true, Bool.false_eq_true, if_false]; rw [if_neg (by omega)]
theorem min_gt {a b : Int} (h : b < a) (k : IntKind) : minMax false a [.int k b] k = some b := by simp only [minMax, if_true, Bool.false_eq_true, if_false]; rw [if_pos h]

theorem castS (a : Nat) : ((a : Int) + 1) = ((a + 1 : Nat) : Int) := by simp
theorem castA (a b : Nat) : ((a : Int) + (b : Int)) = ((a + b : Nat) : Int) := by simp
theorem castP {a : Nat} (h : 1 ≤ a) : ((a : Int) - 1) = ((a - 1 : Nat) : Int) := by omega
theorem castM {a b : Nat} (h : b ≤ a) : ((a : Int) - (b : Int)) = ((a - b : Nat) : Int) := by omega
theorem ite_some {α : Type} {c : Prop} [Decidable c] (a : α) (h : c) : (if c then some a else none) = some a := if_pos h
theorem at_app {α : Type} (l : List α) (x : α) (r : List α) : (l ++ x :: r)[l.length]? = some x := by simp
theorem set_app {α : Type} (l : List α) (x y : α) (r : List α) : (l ++ x :: r).set l.length y = l ++ y :: r := by simp

theorem getA_zero (o : Arr) (l : Heap) (g : Nat) : getA (.arr o :: l) 0 g = if o.gen = g then some o else none := rfl
theorem getA_succ (x : Obj) (l : Heap) (n g : Nat) : getA (x :: l) (n + 1) g = getA l n g := rfl
theorem set_zero {α : Type} (x y : α) (l : List α) : (x :: l).set 0 y = y :: l := rfl
theorem set_succ {α : Type} (x y : α) (l : List α) (n : Nat) : (x :: l).set (n + 1) y = x :: l.set n y := rfl

theorem at_map_app {α β : Type} (f : α → β) (l : List α) (x : β) (r : List β) : (l.map f ++ x :: r)[l.length]? = some x := by simp
theorem set_map_app {α β : Type} (f : α → β) (l : List α) (x y : β) (r : List β) : (l.map f ++ x :: r).set l.length y = l.map f ++ y :: r := by simp

theorem sliceV_osl {sz id gen s i len l h : Nat} (hp : Heap) (h1 : l ≤ h) (h2 : h ≤ len) (h3 : l < h ∨ l = 0) : sliceV sz (.osl id gen s i len) l h hp = some (.osl id gen s (i + l) (h - l)) := by
  simp only [sliceV]; rw [if_pos ⟨h1, h2⟩, if_pos h3]
theorem sliceV_osl_nil {sz id gen s i len l h : Nat} (hp : Heap) (h1 : l = h) (h2 : h ≤ len) (h3 : 0 < l) : sliceV sz (.osl id gen s i len) l h hp = some (.sl false s []) := by
  simp only [sliceV]; rw [if_pos ⟨by omega, h2⟩, if_neg (by omega)]
theorem sliceV_sl {sz s l h : Nat} {e : Bool} {xs : List AV} (hp : Heap) (h1 : l ≤ h) (h2 : h ≤ xs.length) : sliceV sz (.sl e s xs) l h hp = some (.sl (e && h == xs.length) s ((xs.take h).drop l)) := by
  simp only [sliceV]; rw [if_pos ⟨h1, h2⟩]

theorem seqO_rf {h : Heap} {n : Nat} : ∀ {l : List AV}, rfs l = true → seqO (snap h (n + 1)) l = some l := by
  intro l
  induction l with
  | nil => intro _; rfl
  | cons a l ih =>
    intro hr
    simp only [rfs, Bool.and_eq_true] at hr
    simp only [seqO, snap_rf hr.1, ih hr.2, Option.bind_some, Option.map_some]
theorem snap_osl {h : Heap} {n id gen sz i len : Nat} {o : Arr} {ys : List AV} (hg : getA h id gen = some o) (hz : sz ≠ 0) (hl : i + len ≤ o.els.length) (hy : (o.els.drop i).take len = ys) (hr : rfs ys = true) :
    snap h (n + 2) (.osl id gen sz i len) = some (.sl false sz ys) := by
  unfold snap
  rw [if_neg (by simp [rf])]
  simp only [hg, Option.bind_some, if_pos (And.intro hz hl), hy, seqO_rf hr, Option.map_some]
theorem snapd_osl {h : Heap} {id gen sz i len : Nat} {o : Arr} {ys : List AV} (hg : getA h id gen = some o) (hz : sz ≠ 0) (hl : i + len ≤ o.els.length) (hy : (o.els.drop i).take len = ys) (hr : rfs ys = true) :
    snap h deep (.osl id gen sz i len) = some (.sl false sz ys) := snap_osl hg hz hl hy hr
theorem rfs_map {α : Type} {f : α → AV} (hf : ∀ a, rf (f a) = true) (l : List α) : rfs (l.map f) = true := by
  induction l with
  | nil => rfl
  | cons a l ih => simp only [List.map_cons, rfs, hf, ih, Bool.and_self]
theorem rfs_str (l : List (List UInt8)) : rfs (l.map .str) = true := rfs_map (fun _ => rfl) l

theorem ext10 (s t : List UInt8) (h : Heap) (hs : s.length < 4294967281) (ht : t.length < 4294967281) : ext 10 [.str s, .str t] h = some (.int .i64 (idxStr t s 0), h) := by
  simp only [ext]
  rw [if_pos ⟨hs, ht⟩]

theorem snap_bool {h : Heap} {n : Nat} {r : AV} {b : Bool} (hs : snap h n r = some (.bool b)) : r = .bool b := by
  cases n with
  | zero => simp [snap] at hs
  | succ n =>
    unfold snap at hs
    split at hs
    · injection hs
    · split at hs <;> simp_all [Option.bind_eq_some_iff, Option.map_eq_some_iff]

/-! Appends. -/
theorem appendV_nil {el sz bytes s0 : Nat} {ys : List AV} (h : Heap) (hne : ys ≠ []) (hr : roomOk ys.length bytes = true) :
    appendV el sz bytes (.sl true s0 []) ys h = some (.osl h.length 0 sz 0 ys.length, h ++ [.arr { gen := 0, els := ys, sz, el, lock := 0, cap := none }]) := by
  simp only [appendV, if_neg hne, Bool.true_and, List.isEmpty_nil, Bool.or_true, List.length_nil, Nat.zero_add, hr, List.nil_append, Bool.and_self, if_true]
theorem appendV_full {el sz bytes id gen lock : Nat} {xs ys : List AV} {cap : Option Nat} {h : Heap} (hg : getA h id gen = some ⟨gen, xs, sz, el, lock, cap⟩) (hne : ys ≠ []) (hr : roomOk (xs.length + ys.length) bytes = true) (hl : lock ≤ xs.length) :
    appendV el sz bytes (.osl id gen sz 0 xs.length) ys h =
      some (.osl id (gen + 1) sz 0 (xs.length + ys.length), h.set id (.arr { gen := gen + 1, els := xs ++ ys, sz, el, lock, cap := cap.bind fun c => if xs.length + ys.length ≤ c then some c else none })) := by
  simp only [appendV, hg, Option.bind_some, ne_eq, not_true_eq_false, or_self, if_false, Nat.zero_add, if_true, if_neg hne, hr, hl, and_self]
theorem appendV_room {el sz bytes id gen lock : Nat} {xs ys rest : List AV} {cap : Option Nat} {h : Heap} (hg : getA h id gen = some ⟨gen, xs ++ rest, sz, el, lock, cap⟩) (hrest : rest ≠ []) (hle : ys.length ≤ rest.length) (hl : lock ≤ xs.length) :
    appendV el sz bytes (.osl id gen sz 0 xs.length) ys h =
      some (.osl id gen sz 0 (xs.length + ys.length), h.set id (.arr { gen, els := xs ++ ys ++ rest.drop ys.length, sz, el, lock, cap })) := by
  have h1 : ¬ (0 + xs.length = (xs ++ rest).length) := by
    have : 0 < rest.length := List.length_pos_iff.2 hrest
    simp only [List.length_append]; omega
  have h2 : 0 + xs.length + ys.length ≤ (xs ++ rest).length ∧ lock ≤ 0 + xs.length := by simp only [List.length_append]; omega
  have h3 : List.drop (xs.length + ys.length) (xs ++ rest) = rest.drop ys.length := by rw [← List.drop_drop, List.drop_left]
  simp only [appendV, hg, Option.bind_some, ne_eq, not_true_eq_false, or_self, if_false, if_neg h1, if_pos h2]
  simp only [Nat.zero_add, List.take_left, h3]
theorem roomOk_of {n b : Nat} (hn : n ≤ 2097152) (hb : b ≤ 4096) : roomOk n b = true := by
  simp only [roomOk, decide_eq_true_eq]
  refine ⟨by omega, ?_⟩
  have : (2 * n + 192) * b ≤ 4194496 * 4096 := Nat.mul_le_mul (by omega) hb
  omega

end Go.Proofs.VmX

/- From a law's function of the small machine to its row: variables, arguments, what is left behind. -/
set_option linter.unusedVariables false
set_option linter.unusedSimpArgs false
set_option linter.unusedSectionVars false
namespace Go.Proofs.VmX
open Go.RowKit Go.ChangeShapes

section
variable {X : Type} {enc : TypeId × Value → X} {P : Program} {w : World} {held : Bool}

theorem plainT_le : ∀ (n : Nat) (t : TypeId), plainT P n t = true → ∀ m, n ≤ m → plainT P m t = true := by
  intro n
  induction n with
  | zero => intro t h; simp [plainT] at h
  | succ n ih =>
    intro t h m hm
    obtain ⟨m, rfl⟩ : ∃ k, m = k + 1 := ⟨m - 1, by omega⟩
    simp only [plainT] at h ⊢
    split at h <;> simp_all

theorem avs_le : ∀ (n : Nat) (t : TypeId), plainT P n t = true → ∀ (m : Nat) (d : DataW X), n ≤ m → avs P m t d = avs P n t d := by
  intro n
  induction n with
  | zero => intro t h; simp [plainT] at h
  | succ n ih =>
    intro t h m d hm
    obtain ⟨m, rfl⟩ : ∃ k, m = k + 1 := ⟨m - 1, by omega⟩
    have hm' : n ≤ m := by omega
    simp only [plainT] at h
    simp only [avs]
    split at h
    · rename_i hu; rw [hu]; cases d <;> first | rfl | (rename_i l; cases l <;> rfl)
    · rename_i hu; rw [hu]; cases d <;> first | rfl | (rename_i l; cases l <;> rfl)
    · rename_i hu; rw [hu]; cases d <;> first | rfl | (rename_i l; cases l <;> rfl)
    · rename_i e hu
      rw [hu]
      simp only [Bool.and_eq_true] at h
      cases d <;> first | rfl | (rename_i l; cases l <;> rfl) | skip
      have : (fun x : DataW X => mkEl (tagg P e) (avs P m e x)) = fun x => mkEl (tagg P e) (avs P n e x) := by
        funext x
        rw [ih e h.1.1.2 m x hm']
      simp only [this]
    · rename_i fs hu
      rw [hu]
      simp only [Bool.and_eq_true, List.all_eq_true] at h
      cases d <;> first | rfl | (rename_i l; cases l <;> rfl) | skip
      simp only
      congr 1
      refine List.map_congr_left fun x hx => ?_
      have := List.of_mem_zip hx
      exact ih _ (h.1.1 _ this.1) m _ hm'
    · rename_i k e hu
      rw [hu]
      simp only [Bool.and_eq_true] at h
      cases d <;> first | rfl | (rename_i l; cases l <;> rfl) | skip
      simp only
      congr 1
      exact List.map_congr_left fun x hx => ih _ h.1 m _ hm'
    · cases h

theorem trod_avs' {n N : Nat} {t : TypeId} {cs : List Value} {d : DataW X} {ps : List MemPlace} {base : Nat} (hp : plainT P N t = true) (h : DataW.trod enc P w base (fun _ => true) held n t cs = some (d, ps)) :
    VRs0 w (avs P N t d) cs ∧ (avs P N t d).length = P.cellsOf t ∧ (avs P N t d).all AV.one = true := by
  have h2 := DataW.trod_le (Nat.le_max_left n N) h
  have := trod_avs (max n N) t cs d ps (plainT_le N t hp _ (Nat.le_max_right n N)) h2
  rwa [avs_le N t hp _ d (Nat.le_max_right n N)] at this

/-- A variable of plain data. -/
theorem glob_plain {n : String} {g N fuel : Nat} {t : TypeId} {cs : Array Value} {d : DataW X} {p : List MemPlace} {xs : List AV} (hg : P.globalNamed n = some g) (hv : w.var? P n = some cs)
    (htr : DataW.trod enc P w 0 (fun _ => true) held fuel t cs.toList = some (d, p)) (hp : plainT P N t = true) (has : avs P N t d = xs) : VR0 w (.vptr (.agg xs) 0) (.pointer (some ⟨g, 0, none⟩)) := by
  obtain ⟨h1, h2, h3⟩ := trod_avs' hp htr
  rw [has] at h1 h2 h3
  have hc : ∀ (i : Nat) (v : Value), cs.toList[i]? = some v → w.cell? ⟨g, 0 + i, none⟩ = some v := by
    intro i v hi
    simp only [World.var?, hg, Option.bind_some] at hv
    split at hv
    · rename_i c t' fr hb
      injection hv with hv
      subst hv
      simp only [World.cell?, hb, Nat.zero_add]
      simpa using hi
    · cases hv
  exact .vptr (.agg xs) 0 g 0 (VC_of0 h1 h3 hc)

def litAV : Lit → AV
  | .string s => .str s
  | .int k n => .int k n
  | _ => .junk

theorem insert_perm (x : Lit × DataW X) : ∀ (l : List (Lit × DataW X)), (DataW.insert x l).Perm (x :: l) := by
  intro l
  induction l with
  | nil => exact List.Perm.refl _
  | cons y r ih =>
    unfold DataW.insert
    split
    · exact List.Perm.refl _
    · exact ((List.perm_cons y).2 ih).trans (List.Perm.swap x y r)
theorem foldr_perm (l : List (Lit × DataW X)) : (l.foldr DataW.insert []).Perm l := by
  induction l with
  | nil => exact List.Perm.refl _
  | cons x l ih => exact (insert_perm x _).trans ((List.perm_cons x).2 ih)

theorem perm_map_inv {α β : Type} {f : α → β} : ∀ {l : List α} {m : List β}, m.Perm (l.map f) → ∃ l' : List α, l'.Perm l ∧ l'.map f = m := by
  intro l m h
  generalize hm : l.map f = k at h
  induction h generalizing l with
  | nil => exact ⟨l, List.Perm.refl _, hm⟩
  | cons x h ih =>
    cases l with
    | nil => simp at hm
    | cons a l =>
      simp only [List.map_cons, List.cons.injEq] at hm
      obtain ⟨l', h1, h2⟩ := ih hm.2
      exact ⟨a :: l', (List.perm_cons a).2 h1, by simp [h2, hm.1]⟩
  | swap x y k =>
    match l, hm with
    | a :: b :: l, hm =>
      simp only [List.map_cons, List.cons.injEq] at hm
      exact ⟨b :: a :: l, List.Perm.swap a b l, by simp [hm]⟩
  | trans h1 h2 ih1 ih2 =>
    obtain ⟨l1, g1, g2⟩ := ih2 hm
    obtain ⟨l2, g3, g4⟩ := ih1 g2
    exact ⟨l2, g3.trans g1, g4⟩

theorem VRs_map0 {α : Type} {f : α → AV} {g : α → Value} : ∀ {l : List α}, (∀ x ∈ l, VR0 w (f x) (g x)) → VRs0 w (l.map f) (l.map g) := by
  intro l
  induction l with
  | nil => intro _; exact .nil
  | cons a l ih => intro h; exact .cons _ _ _ _ (h a (by simp)) (ih fun x hx => h x (by simp [hx]))

/-- A variable that holds a map from texts to numbers. -/
theorem glob_map {n : String} {g fuel : Nat} {t kt et : TypeId} {kk : IntKind} {cs : Array Value} {ents : List (Lit × DataW X)} {p : List MemPlace} (hg : P.globalNamed n = some g) (hv : w.var? P n = some cs)
    (ht : P.underlying t = some (.map kt et)) (hk : P.underlying kt = some .string) (he : P.underlying et = some (.int kk))
    (htr : DataW.trod enc P w 0 (fun _ => true) held fuel t cs.toList = some (.map ents, p)) (ks vs : List AV) (hks : ents.map (fun x => litAV x.1) = ks) (hvs : ents.map (fun x => match x.2 with | .lit (.int _ m) => AV.int kk m | _ => .junk) = vs)
    (hap : keysApart ks = true) : VR0 w (.vptr (.mp ks vs) 0) (.pointer (some ⟨g, 0, none⟩)) := by
  rcases open_anymap ht htr with ⟨_, hx⟩ | ⟨b, es, clock, _, hcs, hb, _, _, _⟩
  · simp at hx
  rw [hcs] at htr
  cases fuel with
  | zero => simp [DataW.trod] at htr
  | succ fuel =>
  unfold DataW.trod at htr
  simp only [ht, hb] at htr
  split at htr
  · rename_i hcond
    simp only [Option.bind_eq_some_iff] at htr
    obtain ⟨entries, hen, htr⟩ := htr
    split at htr
    · injection htr with htr
      simp only [Prod.mk.injEq, DataW.map.injEq] at htr
      obtain ⟨rfl, rfl⟩ := htr
      have hlen := mapM_some_length hen
      have hpt : ∀ q ∈ es.toList.zip entries, ∃ s : ByteArray, ∃ m : Int, q.1.key = .string s ∧ q.2.1.1 = .string s.data.toList ∧ q.1.val = .int kk m ∧ q.2.1.2 = .lit (.int kk m) := by
        intro q hq
        obtain ⟨i, hi, rfl⟩ := List.getElem_of_mem hq
        have hi1 : i < es.toList.length := by simp only [List.length_zip] at hi; omega
        have hi2 : i < entries.length := by omega
        have := mapM_some_get hen i _ (List.getElem?_eq_getElem hi1)
        rw [List.getElem?_eq_getElem hi2] at this
        simp only [List.getElem_zip]
        generalize es.toList[i] = x at *
        generalize entries[i] = y at *
        simp only [Option.bind_eq_some_iff] at this
        obtain ⟨key, h1, h2⟩ := this
        split at h2
        · rename_i hform
          simp only [Option.map_eq_some_iff] at h2
          obtain ⟨z, h3, rfl⟩ := h2
          obtain ⟨m, h4, h5, _⟩ := DataW.trod_int he h3
          cases hkey : x.key with
          | string s =>
            simp only [keyOf, hk, mapKey, hkey] at h1
            split at h1
            · injection h1 with h1
              refine ⟨s, m, rfl, h1.symm, ?_, by rw [h5]⟩
              cases hval : x.val with
              | agg c =>
                rw [hval] at hform
                simp [Value.formed, he] at hform
              | _ => rw [hval] at h4; first | (simp [Value.cells] at h4; done) | (simpa [Value.cells] using h4)
            · cases h1
          | _ => simp [keyOf, hk, mapKey, hkey] at h1
        · cases h2
      have hm1 : (es.toList.zip entries).map (·.1) = es.toList := by rw [List.map_fst_zip]; omega
      have hm2 : (es.toList.zip entries).map (fun q => q.2.1) = entries.map (·.1) := by
        rw [show (fun q : MapEntry × ((Lit × DataW X) × List MemPlace) => q.2.1) = (fun y : (Lit × DataW X) × List MemPlace => y.1) ∘ (fun q : MapEntry × ((Lit × DataW X) × List MemPlace) => q.2) from rfl, ← List.map_map, List.map_snd_zip]
        omega
      have hperm := foldr_perm (entries.map (·.1))
      rw [← hm2] at hperm
      obtain ⟨L, hL1, hL2⟩ := perm_map_inv hperm
      rw [hm2] at hL2
      have hLm : ∀ q ∈ L, q ∈ es.toList.zip entries := fun q hq => hL1.mem_iff.1 hq
      have hcell : w.cell? ⟨g, 0, none⟩ = some (.map (some b)) := by
        simp only [World.var?, hg, Option.bind_some] at hv
        split at hv
        · rename_i c t' fr hb2
          injection hv with hv
          subst hv
          simp only [World.cell?, hb2]
          have hh : c.toList = [.map (some b)] := hcs
          have : c[0]? = some (Value.map (some b)) := by rw [← Array.getElem?_toList, hh]; rfl
          simpa using this
        · cases hv
      subst hks hvs
      rw [← hL2, List.map_map, List.map_map]
      rw [← hL2, List.map_map] at hap
      have v1 : VRs0 w (L.map ((fun x : Lit × DataW X => litAV x.1) ∘ fun q => q.2.1)) ((L.map (·.1)).map (·.key)) := by
        rw [List.map_map]
        refine VRs_map0 fun q hq => ?_
        obtain ⟨s, m, h1, h2, h3, h4⟩ := hpt q (hLm q hq)
        simp only [Function.comp, h1, h2, litAV]
        exact .str _
      have v2 : VRs0 w (L.map ((fun x : Lit × DataW X => match x.2 with | .lit (.int _ m) => AV.int kk m | _ => .junk) ∘ fun q => q.2.1)) ((L.map (·.1)).map (·.val)) := by
        rw [List.map_map]
        refine VRs_map0 fun q hq => ?_
        obtain ⟨s, m, h1, h2, h3, h4⟩ := hpt q (hLm q hq)
        simp only [Function.comp, h3, h4]
        exact .int _ _
      have hper : (L.map (·.1)).Perm es.toList := by
        have := hL1.map (·.1)
        rwa [hm1] at this
      refine .vptr (.mp _ _) 0 g 0 (.cons _ _ _ _ (.map (some b)) (.mp _ _ b (L.map (·.1)) es.toList clock (by simpa using hb) hper hap v1 v2) rfl hcell (safe0 _ _) (.nil _ _))
    · cases htr
  · cases htr

/-- Of the listed variables. -/
theorem laid_one {P : Program} {w : World} : ∀ {l : List (String × DataW Unit)} {ps : List MemPlace}, DataW.LaidVars P w l ps → ∀ x ∈ l, ∃ g t cs fuel p, P.globalNamed x.1 = some g ∧ (P.globals[g]?).map (·.type) = some t ∧ w.var? P x.1 = some cs ∧
    DataW.trod (fun _ => ()) P w 0 (fun _ => true) false fuel t cs.toList = some (x.2, p) := by
  intro l
  induction l with
  | nil => intro ps _ x hx; cases hx
  | cons y l ih =>
    intro ps h x hx
    obtain ⟨n, d⟩ := y
    obtain ⟨g, t, cs, fuel, p, q, h1, h2, h3, h4, h5, _⟩ := h
    rcases List.mem_cons.1 hx with rfl | hx
    · exact ⟨g, t, cs, fuel, p, h1, h2, h3, h4⟩
    · exact ih h5 x hx


/-- What a law's call leaves behind. -/
theorem same_below {w w' : World} (hb : Below w.heap.size w w') {p : MemPlace} (hp : p.block < w.heap.size) : w.sameAt w' p := by
  cases p with
  | cell b off => simp only [World.sameAt, World.cell?]; rw [hb.block b hp]
  | map b => exact hb.block b hp

theorem trodAll_keep {N : Nat} {w w' : World} {sp : Nat → Bool} : ∀ {ts : List TypeId} {vs : List Value} {ds : List (DataW X)} {ps : List MemPlace}, (∀ t ∈ ts, plainT P N t = true) → DataW.TrodAll enc P w 0 (fun _ => true) true ts vs ds ps →
    (∀ p ∈ ps, w.sameAt w' p) → (∀ p ∈ ps, sp p.block = true) → DataW.TrodAll enc P w' 0 sp true ts vs ds ps
  | [], [], [], ps, _, h, _, _ => h
  | t :: ts, v :: vs, d :: ds, ps, hp, ⟨p, q, ⟨n, h1⟩, h2, e⟩, hs, hsp => by
    subst e
    have a := DataW.trod_le (Nat.le_max_left n N) h1
    have b := trod_sp (sp := sp) (max n N) t _ _ (plainT_le N t (hp t (by simp)) _ (Nat.le_max_right n N)) a (fun x hx => hsp x (List.mem_append_left _ hx))
    have c := DataW.trod_carry (w' := w') _ _ _ _ b (fun x hx => hs x (List.mem_append_left _ hx))
    exact ⟨p, q, ⟨_, c⟩, trodAll_keep (fun t ht => hp t (by simp [ht])) h2 (fun x hx => hs x (List.mem_append_right _ hx)) (fun x hx => hsp x (List.mem_append_right _ hx)), rfl⟩
  | [], _ :: _, _, _, _, h, _, _ => h.elim
  | [], [], _ :: _, _, _, h, _, _ => h.elim
  | _ :: _, [], _, _, _, h, _, _ => h.elim
  | _ :: _, _ :: _, [], _, _, h, _, _ => h.elim

theorem law_post {N : Nat} {fn : Func} {s : ChangeSpec} {apart fresh handsOn again : Bool} {W W' : World} {args : Array Value} {ds gs : List (DataW X)} {before : List MemPlace} {tb : TypeId}
    (hW : DataW.Whole enc P fn.params.toList s.vars apart W args.toList ds gs before) (hvars : s.vars = []) (hfn : s.fn X (ds ++ gs) = { results := [.lit (.bool true)], args := ds })
    (hp : ∀ t ∈ fn.params.toList, plainT P N t = true) (hr : fn.resultTypes = #[tb]) (htb : P.underlying tb = some .bool) (hb : Below W.heap.size W W') :
    s.post enc P fn apart fresh handsOn again W args (.bool true) W' := by
  have hlt := hW.lt
  have hW2 := hW
  obtain ⟨p, q, hA, hV, rfl, hfz, hnd⟩ := hW2
  rw [hvars] at hV
  have hVn : gs = [] ∧ q = [] := by
    cases gs with
    | nil => exact ⟨rfl, hV⟩
    | cons _ _ => exact hV.elim
  obtain ⟨rfl, rfl⟩ := hVn
  simp only [List.append_nil] at hlt hfz hnd hfn hW
  have hsame : ∀ x ∈ p, W.sameAt W' x := fun x hx => same_below hb (hlt x hx)
  have hres : ∀ (b : Nat) (sp : Nat → Bool) (hd : Bool), DataW.TrodAll enc P W' b sp hd fn.resultTypes.toList ((Value.bool true).resultList fn.resultTypes.size) [.lit (.bool true)] [] := by
    intro b sp hd
    rw [hr]
    exact trodAll_cons_mk (shut_bool htb true) trodAll_mk0
  have hargs : ∀ sp : Nat → Bool, (∀ x ∈ p, sp x.block = true) → DataW.TrodAll enc P W' 0 sp true fn.params.toList args.toList ds p := fun sp hsp => trodAll_keep hp hA hsame hsp
  refine ⟨ds, [], p, [], p, [], by simpa using hW, ?_, ?_, ?_, ?_, fun _ => ⟨?_, .lit (.bool true) :: ds, [], p, ⟨p, [], ?_, ?_, by simp, ?_, ?_⟩, ?_⟩⟩
  · rw [List.append_nil, hfn]; exact hres _ _ _
  · rw [List.append_nil, hfn]; exact hargs _ fun x hx => by simpa using hlt x hx
  · rw [List.append_nil, hfn, hvars]; rfl
  · exact hb.frame _
  · exact ok_one hr rfl (okWide_bool_mk htb true)
  · exact trodAll_append (hargs _ (fun _ _ => rfl)) (hres _ _ _)
  · rw [hvars]; rfl
  · intro b off hx
    have := hfz b off hx
    have hbk := hb.block b (hlt _ hx)
    simp only [World.frozen?] at this ⊢
    rw [hbk]
    exact this
  · exact hnd
  · intro x hx _; exact hx

end
end Go.Proofs.VmX

/- One equation an operation: MADE BY PROGRAM (mkops.py). -/
set_option linter.unusedVariables false
set_option linter.unusedSectionVars false
namespace Go.Proofs.VmX
section
variable {E : Env} {res : List CRes} {R : AV → Heap → Prop} {K : List CIt} {t : List AV} {h : Heap} {hs : List Heap} {dst : Option Nat} {l : List CI} {eff : Bool} {dl : List DI} {ck : List CK}
theorem EOp_mv (a0 : Opd) : EOp E res R (.mv a0) dst l K t h = EBnd E res R (evOp E noCall t h (.mv a0)) dst l K t := EOp_plain rfl
theorem DOp_mv (a0 : Opd) : DOp E res R h (.mv a0) dst eff ck dl K t hs = DBnd E res R (evOp E noCall t h (.mv a0)) dst eff ck dl K t hs := DOp_plain rfl
theorem EOp_nilCheck (a0 : Opd) : EOp E res R (.nilCheck a0) dst l K t h = EBnd E res R (evOp E noCall t h (.nilCheck a0)) dst l K t := EOp_plain rfl
theorem DOp_nilCheck (a0 : Opd) : DOp E res R h (.nilCheck a0) dst eff ck dl K t hs = DBnd E res R (evOp E noCall t h (.nilCheck a0)) dst eff ck dl K t hs := DOp_plain rfl
theorem EOp_pick (a0 : Opd) (a1 : Opd) (a2 : Opd) : EOp E res R (.pick a0 a1 a2) dst l K t h = EBnd E res R (evOp E noCall t h (.pick a0 a1 a2)) dst l K t := EOp_plain rfl
theorem DOp_pick (a0 : Opd) (a1 : Opd) (a2 : Opd) : DOp E res R h (.pick a0 a1 a2) dst eff ck dl K t hs = DBnd E res R (evOp E noCall t h (.pick a0 a1 a2)) dst eff ck dl K t hs := DOp_plain rfl
theorem EOp_alloc (a0 : AV) (a1 : Nat) (a2 : Nat) : EOp E res R (.alloc a0 a1 a2) dst l K t h = EBnd E res R (evOp E noCall t h (.alloc a0 a1 a2)) dst l K t := EOp_plain rfl
theorem DOp_alloc (a0 : AV) (a1 : Nat) (a2 : Nat) : DOp E res R h (.alloc a0 a1 a2) dst eff ck dl K t hs = DBnd E res R (evOp E noCall t h (.alloc a0 a1 a2)) dst eff ck dl K t hs := DOp_plain rfl
theorem EOp_box (a0 : Nat) (a1 : Nat) (a2 : Opd) : EOp E res R (.box a0 a1 a2) dst l K t h = EBnd E res R (evOp E noCall t h (.box a0 a1 a2)) dst l K t := EOp_plain rfl
theorem DOp_box (a0 : Nat) (a1 : Nat) (a2 : Opd) : DOp E res R h (.box a0 a1 a2) dst eff ck dl K t hs = DBnd E res R (evOp E noCall t h (.box a0 a1 a2)) dst eff ck dl K t hs := DOp_plain rfl
theorem EOp_build (a0 : List AV) (a1 : List (Nat × Nat × Opd)) : EOp E res R (.build a0 a1) dst l K t h = EBnd E res R (evOp E noCall t h (.build a0 a1)) dst l K t := EOp_plain rfl
theorem DOp_build (a0 : List AV) (a1 : List (Nat × Nat × Opd)) : DOp E res R h (.build a0 a1) dst eff ck dl K t hs = DBnd E res R (evOp E noCall t h (.build a0 a1)) dst eff ck dl K t hs := DOp_plain rfl
theorem EOp_bsl (a0 : Nat) (a1 : List Opd) : EOp E res R (.bsl a0 a1) dst l K t h = EBnd E res R (evOp E noCall t h (.bsl a0 a1)) dst l K t := EOp_plain rfl
theorem DOp_bsl (a0 : Nat) (a1 : List Opd) : DOp E res R h (.bsl a0 a1) dst eff ck dl K t hs = DBnd E res R (evOp E noCall t h (.bsl a0 a1)) dst eff ck dl K t hs := DOp_plain rfl
theorem EOp_load (a0 : Bool) (a1 : Nat) (a2 : Opd) : EOp E res R (.load a0 a1 a2) dst l K t h = EBnd E res R (evOp E noCall t h (.load a0 a1 a2)) dst l K t := EOp_plain rfl
theorem DOp_load (a0 : Bool) (a1 : Nat) (a2 : Opd) : DOp E res R h (.load a0 a1 a2) dst eff ck dl K t hs = DBnd E res R (evOp E noCall t h (.load a0 a1 a2)) dst eff ck dl K t hs := DOp_plain rfl
theorem EOp_store (a0 : Nat) (a1 : Opd) (a2 : Opd) : EOp E res R (.store a0 a1 a2) dst l K t h = EBnd E res R (evOp E noCall t h (.store a0 a1 a2)) dst l K t := EOp_plain rfl
theorem DOp_store (a0 : Nat) (a1 : Opd) (a2 : Opd) : DOp E res R h (.store a0 a1 a2) dst eff ck dl K t hs = DBnd E res R (evOp E noCall t h (.store a0 a1 a2)) dst eff ck dl K t hs := DOp_plain rfl
theorem EOp_bin (a0 : Nat) (a1 : BinOp) (a2 : Opd) (a3 : Opd) : EOp E res R (.bin a0 a1 a2 a3) dst l K t h = EBnd E res R (evOp E noCall t h (.bin a0 a1 a2 a3)) dst l K t := EOp_plain rfl
theorem DOp_bin (a0 : Nat) (a1 : BinOp) (a2 : Opd) (a3 : Opd) : DOp E res R h (.bin a0 a1 a2 a3) dst eff ck dl K t hs = DBnd E res R (evOp E noCall t h (.bin a0 a1 a2 a3)) dst eff ck dl K t hs := DOp_plain rfl
theorem EOp_eqs (a0 : Bool) (a1 : List Nat) (a2 : Opd) (a3 : Opd) : EOp E res R (.eqs a0 a1 a2 a3) dst l K t h = EBnd E res R (evOp E noCall t h (.eqs a0 a1 a2 a3)) dst l K t := EOp_plain rfl
theorem DOp_eqs (a0 : Bool) (a1 : List Nat) (a2 : Opd) (a3 : Opd) : DOp E res R h (.eqs a0 a1 a2 a3) dst eff ck dl K t hs = DBnd E res R (evOp E noCall t h (.eqs a0 a1 a2 a3)) dst eff ck dl K t hs := DOp_plain rfl
theorem EOp_un (a0 : UnOp) (a1 : Opd) : EOp E res R (.un a0 a1) dst l K t h = EBnd E res R (evOp E noCall t h (.un a0 a1)) dst l K t := EOp_plain rfl
theorem DOp_un (a0 : UnOp) (a1 : Opd) : DOp E res R h (.un a0 a1) dst eff ck dl K t hs = DBnd E res R (evOp E noCall t h (.un a0 a1)) dst eff ck dl K t hs := DOp_plain rfl
theorem EOp_conv (a0 : Cv) (a1 : Opd) : EOp E res R (.conv a0 a1) dst l K t h = EBnd E res R (evOp E noCall t h (.conv a0 a1)) dst l K t := EOp_plain rfl
theorem DOp_conv (a0 : Cv) (a1 : Opd) : DOp E res R h (.conv a0 a1) dst eff ck dl K t hs = DBnd E res R (evOp E noCall t h (.conv a0 a1)) dst eff ck dl K t hs := DOp_plain rfl
theorem EOp_fld (a0 : Nat) (a1 : Opd) : EOp E res R (.fld a0 a1) dst l K t h = EBnd E res R (evOp E noCall t h (.fld a0 a1)) dst l K t := EOp_plain rfl
theorem DOp_fld (a0 : Nat) (a1 : Opd) : DOp E res R h (.fld a0 a1) dst eff ck dl K t hs = DBnd E res R (evOp E noCall t h (.fld a0 a1)) dst eff ck dl K t hs := DOp_plain rfl
theorem EOp_part (a0 : Bool) (a1 : Nat) (a2 : Nat) (a3 : Opd) : EOp E res R (.part a0 a1 a2 a3) dst l K t h = EBnd E res R (evOp E noCall t h (.part a0 a1 a2 a3)) dst l K t := EOp_plain rfl
theorem DOp_part (a0 : Bool) (a1 : Nat) (a2 : Nat) (a3 : Opd) : DOp E res R h (.part a0 a1 a2 a3) dst eff ck dl K t hs = DBnd E res R (evOp E noCall t h (.part a0 a1 a2 a3)) dst eff ck dl K t hs := DOp_plain rfl
theorem EOp_idxS (a0 : Nat) (a1 : Opd) (a2 : Opd) : EOp E res R (.idxS a0 a1 a2) dst l K t h = EBnd E res R (evOp E noCall t h (.idxS a0 a1 a2)) dst l K t := EOp_plain rfl
theorem DOp_idxS (a0 : Nat) (a1 : Opd) (a2 : Opd) : DOp E res R h (.idxS a0 a1 a2) dst eff ck dl K t hs = DBnd E res R (evOp E noCall t h (.idxS a0 a1 a2)) dst eff ck dl K t hs := DOp_plain rfl
theorem EOp_idxA (a0 : Nat) (a1 : Nat) (a2 : Opd) (a3 : Opd) : EOp E res R (.idxA a0 a1 a2 a3) dst l K t h = EBnd E res R (evOp E noCall t h (.idxA a0 a1 a2 a3)) dst l K t := EOp_plain rfl
theorem DOp_idxA (a0 : Nat) (a1 : Nat) (a2 : Opd) (a3 : Opd) : DOp E res R h (.idxA a0 a1 a2 a3) dst eff ck dl K t hs = DBnd E res R (evOp E noCall t h (.idxA a0 a1 a2 a3)) dst eff ck dl K t hs := DOp_plain rfl
theorem EOp_idxStr (a0 : Opd) (a1 : Opd) : EOp E res R (.idxStr a0 a1) dst l K t h = EBnd E res R (evOp E noCall t h (.idxStr a0 a1)) dst l K t := EOp_plain rfl
theorem DOp_idxStr (a0 : Opd) (a1 : Opd) : DOp E res R h (.idxStr a0 a1) dst eff ck dl K t hs = DBnd E res R (evOp E noCall t h (.idxStr a0 a1)) dst eff ck dl K t hs := DOp_plain rfl
theorem EOp_idxAgg (a0 : Bool) (a1 : Nat) (a2 : Nat) (a3 : Opd) (a4 : Opd) : EOp E res R (.idxAgg a0 a1 a2 a3 a4) dst l K t h = EBnd E res R (evOp E noCall t h (.idxAgg a0 a1 a2 a3 a4)) dst l K t := EOp_plain rfl
theorem DOp_idxAgg (a0 : Bool) (a1 : Nat) (a2 : Nat) (a3 : Opd) (a4 : Opd) : DOp E res R h (.idxAgg a0 a1 a2 a3 a4) dst eff ck dl K t hs = DBnd E res R (evOp E noCall t h (.idxAgg a0 a1 a2 a3 a4)) dst eff ck dl K t hs := DOp_plain rfl
theorem EOp_sliceStr (a0 : Opd) (a1 : Option Opd) (a2 : Option Opd) : EOp E res R (.sliceStr a0 a1 a2) dst l K t h = EBnd E res R (evOp E noCall t h (.sliceStr a0 a1 a2)) dst l K t := EOp_plain rfl
theorem DOp_sliceStr (a0 : Opd) (a1 : Option Opd) (a2 : Option Opd) : DOp E res R h (.sliceStr a0 a1 a2) dst eff ck dl K t hs = DBnd E res R (evOp E noCall t h (.sliceStr a0 a1 a2)) dst eff ck dl K t hs := DOp_plain rfl
theorem EOp_slice (a0 : Nat) (a1 : Opd) (a2 : Option Opd) (a3 : Option Opd) (a4 : Option Opd) : EOp E res R (.slice a0 a1 a2 a3 a4) dst l K t h = EBnd E res R (evOp E noCall t h (.slice a0 a1 a2 a3 a4)) dst l K t := EOp_plain rfl
theorem DOp_slice (a0 : Nat) (a1 : Opd) (a2 : Option Opd) (a3 : Option Opd) (a4 : Option Opd) : DOp E res R h (.slice a0 a1 a2 a3 a4) dst eff ck dl K t hs = DBnd E res R (evOp E noCall t h (.slice a0 a1 a2 a3 a4)) dst eff ck dl K t hs := DOp_plain rfl
theorem EOp_sliceArr (a0 : Nat) (a1 : Nat) (a2 : Opd) (a3 : Option Opd) (a4 : Option Opd) : EOp E res R (.sliceArr a0 a1 a2 a3 a4) dst l K t h = EBnd E res R (evOp E noCall t h (.sliceArr a0 a1 a2 a3 a4)) dst l K t := EOp_plain rfl
theorem DOp_sliceArr (a0 : Nat) (a1 : Nat) (a2 : Opd) (a3 : Option Opd) (a4 : Option Opd) : DOp E res R h (.sliceArr a0 a1 a2 a3 a4) dst eff ck dl K t hs = DBnd E res R (evOp E noCall t h (.sliceArr a0 a1 a2 a3 a4)) dst eff ck dl K t hs := DOp_plain rfl
theorem EOp_extract (a0 : Opd) (a1 : Nat) : EOp E res R (.extract a0 a1) dst l K t h = EBnd E res R (evOp E noCall t h (.extract a0 a1)) dst l K t := EOp_plain rfl
theorem DOp_extract (a0 : Opd) (a1 : Nat) : DOp E res R h (.extract a0 a1) dst eff ck dl K t hs = DBnd E res R (evOp E noCall t h (.extract a0 a1)) dst eff ck dl K t hs := DOp_plain rfl
theorem EOp_len (a0 : Bool) (a1 : Opd) : EOp E res R (.len a0 a1) dst l K t h = EBnd E res R (evOp E noCall t h (.len a0 a1)) dst l K t := EOp_plain rfl
theorem DOp_len (a0 : Bool) (a1 : Opd) : DOp E res R h (.len a0 a1) dst eff ck dl K t hs = DBnd E res R (evOp E noCall t h (.len a0 a1)) dst eff ck dl K t hs := DOp_plain rfl
theorem EOp_cap (a0 : Opd) : EOp E res R (.cap a0) dst l K t h = EBnd E res R (evOp E noCall t h (.cap a0)) dst l K t := EOp_plain rfl
theorem DOp_cap (a0 : Opd) : DOp E res R h (.cap a0) dst eff ck dl K t hs = DBnd E res R (evOp E noCall t h (.cap a0)) dst eff ck dl K t hs := DOp_plain rfl
theorem EOp_append (a0 : Nat) (a1 : Nat) (a2 : Nat) (a3 : Opd) (a4 : Opd) : EOp E res R (.append a0 a1 a2 a3 a4) dst l K t h = EBnd E res R (evOp E noCall t h (.append a0 a1 a2 a3 a4)) dst l K t := EOp_plain rfl
theorem DOp_append (a0 : Nat) (a1 : Nat) (a2 : Nat) (a3 : Opd) (a4 : Opd) : DOp E res R h (.append a0 a1 a2 a3 a4) dst eff ck dl K t hs = DBnd E res R (evOp E noCall t h (.append a0 a1 a2 a3 a4)) dst eff ck dl K t hs := DOp_plain rfl
theorem EOp_appendZ (a0 : Nat) (a1 : Nat) (a2 : Nat) (a3 : AV) (a4 : Opd) (a5 : Opd) : EOp E res R (.appendZ a0 a1 a2 a3 a4 a5) dst l K t h = EBnd E res R (evOp E noCall t h (.appendZ a0 a1 a2 a3 a4 a5)) dst l K t := EOp_plain rfl
theorem DOp_appendZ (a0 : Nat) (a1 : Nat) (a2 : Nat) (a3 : AV) (a4 : Opd) (a5 : Opd) : DOp E res R h (.appendZ a0 a1 a2 a3 a4 a5) dst eff ck dl K t hs = DBnd E res R (evOp E noCall t h (.appendZ a0 a1 a2 a3 a4 a5)) dst eff ck dl K t hs := DOp_plain rfl
theorem EOp_copy (a0 : Nat) (a1 : Opd) (a2 : Opd) : EOp E res R (.copy a0 a1 a2) dst l K t h = EBnd E res R (evOp E noCall t h (.copy a0 a1 a2)) dst l K t := EOp_plain rfl
theorem DOp_copy (a0 : Nat) (a1 : Opd) (a2 : Opd) : DOp E res R h (.copy a0 a1 a2) dst eff ck dl K t hs = DBnd E res R (evOp E noCall t h (.copy a0 a1 a2)) dst eff ck dl K t hs := DOp_plain rfl
theorem EOp_mm (a0 : Bool) (a1 : Opd) (a2 : List Opd) : EOp E res R (.mm a0 a1 a2) dst l K t h = EBnd E res R (evOp E noCall t h (.mm a0 a1 a2)) dst l K t := EOp_plain rfl
theorem DOp_mm (a0 : Bool) (a1 : Opd) (a2 : List Opd) : DOp E res R h (.mm a0 a1 a2) dst eff ck dl K t hs = DBnd E res R (evOp E noCall t h (.mm a0 a1 a2)) dst eff ck dl K t hs := DOp_plain rfl
theorem EOp_mkSlice (a0 : Nat) (a1 : Nat) (a2 : Nat) (a3 : AV) (a4 : Opd) (a5 : Opd) : EOp E res R (.mkSlice a0 a1 a2 a3 a4 a5) dst l K t h = EBnd E res R (evOp E noCall t h (.mkSlice a0 a1 a2 a3 a4 a5)) dst l K t := EOp_plain rfl
theorem DOp_mkSlice (a0 : Nat) (a1 : Nat) (a2 : Nat) (a3 : AV) (a4 : Opd) (a5 : Opd) : DOp E res R h (.mkSlice a0 a1 a2 a3 a4 a5) dst eff ck dl K t hs = DBnd E res R (evOp E noCall t h (.mkSlice a0 a1 a2 a3 a4 a5)) dst eff ck dl K t hs := DOp_plain rfl
theorem EOp_mkFn (a0 : Nat) (a1 : List Opd) (a2 : List Opd) : EOp E res R (.mkFn a0 a1 a2) dst l K t h = EBnd E res R (evOp E noCall t h (.mkFn a0 a1 a2)) dst l K t := EOp_plain rfl
theorem DOp_mkFn (a0 : Nat) (a1 : List Opd) (a2 : List Opd) : DOp E res R h (.mkFn a0 a1 a2) dst eff ck dl K t hs = DBnd E res R (evOp E noCall t h (.mkFn a0 a1 a2)) dst eff ck dl K t hs := DOp_plain rfl
theorem EOp_lookup (a0 : Nat) (a1 : AV) (a2 : Bool) (a3 : Opd) (a4 : Opd) : EOp E res R (.lookup a0 a1 a2 a3 a4) dst l K t h = EBnd E res R (evOp E noCall t h (.lookup a0 a1 a2 a3 a4)) dst l K t := EOp_plain rfl
theorem DOp_lookup (a0 : Nat) (a1 : AV) (a2 : Bool) (a3 : Opd) (a4 : Opd) : DOp E res R h (.lookup a0 a1 a2 a3 a4) dst eff ck dl K t hs = DBnd E res R (evOp E noCall t h (.lookup a0 a1 a2 a3 a4)) dst eff ck dl K t hs := DOp_plain rfl
theorem EOp_rangeS (a0 : Opd) : EOp E res R (.rangeS a0) dst l K t h = EBnd E res R (evOp E noCall t h (.rangeS a0)) dst l K t := EOp_plain rfl
theorem DOp_rangeS (a0 : Opd) : DOp E res R h (.rangeS a0) dst eff ck dl K t hs = DBnd E res R (evOp E noCall t h (.rangeS a0)) dst eff ck dl K t hs := DOp_plain rfl
theorem EOp_nextS (a0 : Opd) : EOp E res R (.nextS a0) dst l K t h = EBnd E res R (evOp E noCall t h (.nextS a0)) dst l K t := EOp_plain rfl
theorem DOp_nextS (a0 : Opd) : DOp E res R h (.nextS a0) dst eff ck dl K t hs = DBnd E res R (evOp E noCall t h (.nextS a0)) dst eff ck dl K t hs := DOp_plain rfl
theorem EOp_iface  : EOp E res R .iface dst l K t h = EBnd E res R (evOp E noCall t h .iface) dst l K t := EOp_plain rfl
theorem DOp_iface  : DOp E res R h .iface dst eff ck dl K t hs = DBnd E res R (evOp E noCall t h .iface) dst eff ck dl K t hs := DOp_plain rfl
end
end Go.Proofs.VmX

/- Texts cut at a byte: plain facts. -/
set_option linter.unusedVariables false
set_option linter.unusedSimpArgs false
namespace Go.Proofs.VmX

/-- A text, cut at a byte. -/
def splitB (c : UInt8) : List UInt8 → List (List UInt8)
  | [] => [[]]
  | b :: l => if b = c then [] :: splitB c l else match splitB c l with
    | [] => [[b]]
    | w :: r => (b :: w) :: r

theorem splitB_ne (c : UInt8) (l : List UInt8) : splitB c l ≠ [] := by
  cases l with
  | nil => simp [splitB]
  | cons b l => simp only [splitB]; split
                · simp
                · split <;> simp

theorem splitB_pre {c : UInt8} : ∀ {p : List UInt8} (hp : c ∉ p) (q : List UInt8), splitB c (p ++ c :: q) = p :: splitB c q := by
  intro p
  induction p with
  | nil => intro _ q; simp [splitB]
  | cons b p ih =>
    intro hp q
    simp only [List.mem_cons, not_or] at hp
    have hb : ¬ b = c := fun h => hp.1 h.symm
    simp only [List.cons_append, splitB, if_neg hb, ih hp.2]
theorem splitB_none {c : UInt8} : ∀ {p : List UInt8} (hp : c ∉ p), splitB c p = [p] := by
  intro p
  induction p with
  | nil => intro _; simp [splitB]
  | cons b p ih =>
    intro hp
    simp only [List.mem_cons, not_or] at hp
    have hb : ¬ b = c := fun h => hp.1 h.symm
    simp only [splitB, if_neg hb, ih hp.2]

theorem idx_split (c : UInt8) : ∀ (l : List UInt8) (n : Nat), (c ∉ l ∧ idxByte c l n = -1 ∧ cntByte c l = 0) ∨
    ∃ p q, l = p ++ c :: q ∧ c ∉ p ∧ idxByte c l n = ((n + p.length : Nat) : Int) ∧ cntByte c l = cntByte c q + 1 := by
  intro l
  induction l with
  | nil => intro n; exact .inl ⟨by simp, rfl, rfl⟩
  | cons b l ih =>
    intro n
    by_cases hb : b = c
    · subst hb
      exact .inr ⟨[], l, rfl, by simp, by simp [idxByte], by simp [cntByte]⟩
    · have hb' : (b == c) = false := by simpa using hb
      rcases ih (n + 1) with ⟨h1, h2, h3⟩ | ⟨p, q, h1, h2, h3, h4⟩
      · refine .inl ⟨by simp [h1, Ne.symm hb], by simp [idxByte, hb', h2], ?_⟩
        simpa [cntByte, List.filter_cons, hb'] using h3
      · refine .inr ⟨b :: p, q, by simp [h1], by simp [h2, Ne.symm hb], ?_, ?_⟩
        · simp only [idxByte, hb', Bool.false_eq_true, if_false, h3, List.length_cons]
          congr 1; omega
        · simpa [cntByte, List.filter_cons, hb'] using h4

theorem splitB_len (c : UInt8) (l : List UInt8) : (splitB c l).length = cntByte c l + 1 := by
  induction l with
  | nil => rfl
  | cons b l ih =>
    by_cases hb : b = c
    · subst hb
      simp [splitB, ih, cntByte]
    · have hb' : (b == c) = false := by simpa using hb
      have e : cntByte c (b :: l) = cntByte c l := by simp [cntByte, List.filter_cons, hb']
      rw [e, ← ih]
      simp only [splitB, if_neg hb]
      split
      · rename_i h; exact absurd h (splitB_ne c l)
      · simp [*]
theorem cnt_le (c : UInt8) (l : List UInt8) : cntByte c l ≤ l.length := List.length_filter_le _ _

/-- Joined again. -/
def jn (c : UInt8) : List (List UInt8) → List UInt8
  | [] => []
  | w :: r => if r = [] then w else w ++ c :: jn c r
theorem jn_one (c : UInt8) (w : List UInt8) : jn c [w] = w := by simp [jn]
theorem jn_snoc (c : UInt8) (x : List UInt8) : ∀ {l : List (List UInt8)}, l ≠ [] → jn c (l ++ [x]) = jn c l ++ c :: x := by
  intro l
  induction l with
  | nil => intro h; exact absurd rfl h
  | cons w r ih =>
    intro _
    by_cases hr : r = []
    · subst hr; simp [jn]
    · have : r ++ [x] ≠ [] := by simp
      simp only [List.cons_append, jn, if_neg hr, if_neg this, ih hr, List.append_assoc]
theorem jn_split (c : UInt8) (s : List UInt8) : jn c (splitB c s) = s := by
  induction s with
  | nil => simp [splitB, jn]
  | cons b l ih =>
    by_cases hb : b = c
    · subst hb
      simp only [splitB, if_true, jn, if_neg (splitB_ne b l), ih, List.nil_append]
    · simp only [splitB, if_neg hb]
      split
      · rename_i h; exact absurd h (splitB_ne c l)
      · rename_i w r h
        rw [h] at ih
        simp only [jn] at ih ⊢
        split <;> simp_all
theorem jn_len (c : UInt8) : ∀ (a b : List (List UInt8)), (jn c a).length ≤ (jn c (a ++ b)).length := by
  intro a
  induction a with
  | nil => intro b; simp [jn]
  | cons w r ih =>
    intro b
    by_cases hr : r = []
    · subst hr
      simp only [List.cons_append, List.nil_append, jn, if_true]
      split
      · exact Nat.le_refl _
      · simp
    · have : r ++ b ≠ [] := by simp [hr]
      have := ih b
      simp only [List.cons_append, jn, if_neg hr, if_neg ‹r ++ b ≠ []›, List.length_append, List.length_cons]
      omega
theorem cnt_snoc (c b : UInt8) (l : List UInt8) : cntByte c (l ++ [b]) = cntByte c l + if b = c then 1 else 0 := by
  simp only [cntByte, List.filter_append, List.length_append]
  by_cases h : b = c <;> simp [h]
theorem toNat_beq (b c : UInt8) : ((b.toNat : Int) == (c.toNat : Int)) = (b == c) := by
  rw [Bool.eq_iff_iff]
  simp only [beq_iff_eq]
  constructor
  · intro h; exact UInt8.toNat_inj.1 (by omega)
  · intro h; rw [h]

theorem idxStr_byte (b : UInt8) : ∀ (l : List UInt8) (n : Nat), idxStr [b] l n = idxByte b l n := by
  intro l
  induction l with
  | nil => intro n; rfl
  | cons a l ih =>
    intro n
    have e : isPre [b] (a :: l) = (a == b) := by
      simp only [isPre, Bool.and_true]
      by_cases h : b = a
      · subst h; simp
      · have h2 : ¬ a = b := fun e => h e.symm
        have e1 : (b == a) = false := by simpa using h
        have e2 : (a == b) = false := by simpa using h2
        rw [e1, e2]
    simp only [idxStr, idxByte, e, ih]

end Go.Proofs.VmX

/- strings.Count, Index, Split at one byte, tbl.Cut: what they give. -/
set_option linter.unusedVariables false
set_option linter.unusedSimpArgs false
namespace Go.Proofs.VmX
set_option maxRecDepth 100000

theorem p78 (s : List UInt8) (b : UInt8) : PureTo EC 78 [.str s, byteAV b] (.int .i64 (cntByte b s)) := pure_rf (h' := []) (fn_ext k78 rfl (by simp [ext, byteAV, c78])) rfl
theorem p61 (s : List UInt8) (b : UInt8) : PureTo EC 61 [.str s, byteAV b] (.int .i64 (idxByte b s 0)) := pure_rf (h' := []) (fn_ext k61 rfl (by simp [ext, byteAV, c61])) rfl
theorem rf_byte (b : UInt8) : rf (byteAV b) = true := rfl
theorem p44 (s : List UInt8) (b : UInt8) : PureTo EC 44 [.str s, byteAV b] (.int .i64 (idxByte b s 0)) := by
  refine pure_go1 (res := [(.tmp 4)]) k44 rfl rfl ?_
  simp (disch := first | assumption | omega) only [Ends_nil, Ends_ret, Ends_skip, Ends_label, Ends_inBlock, Ends_seq, Ends_block, Ends_exit, EExit_some, exitC, Ends_cond, ECond_true, ECond_false, Ends_reg, EndsR_nil, EndsR_cons, EG_true, EG_false, EBnd_some, EOp_callF, EOp_callP0, EOp_callP, EOp_callV, Ends_dreg, EndsD_nil, EndsD_cons, DG_true, DG_false, DBnd_some, DOp_callF, DOp_callP0, DOp_callP, ERes_some, EOp_mv, DOp_mv, EOp_nilCheck, DOp_nilCheck, EOp_pick, DOp_pick, EOp_alloc, DOp_alloc, EOp_box, DOp_box, EOp_build, DOp_build, EOp_bsl, DOp_bsl, EOp_load, DOp_load, EOp_store, DOp_store, EOp_bin, DOp_bin, EOp_eqs, DOp_eqs, EOp_un, DOp_un, EOp_conv, DOp_conv, EOp_fld, DOp_fld, EOp_part, DOp_part, EOp_idxS, DOp_idxS, EOp_idxA, DOp_idxA, EOp_idxStr, DOp_idxStr, EOp_idxAgg, DOp_idxAgg, EOp_sliceStr, DOp_sliceStr, EOp_slice, DOp_slice, EOp_sliceArr, DOp_sliceArr, EOp_extract, DOp_extract, EOp_len, DOp_len, EOp_cap, DOp_cap, EOp_append, DOp_append, EOp_appendZ, DOp_appendZ, EOp_copy, DOp_copy, EOp_mm, DOp_mm, EOp_mkSlice, DOp_mkSlice, EOp_mkFn, DOp_mkFn, EOp_lookup, DOp_lookup, EOp_rangeS, DOp_rangeS, EOp_nextS, DOp_nextS, EOp_iface, DOp_iface, wantedA, evOp, opd, putO, bnd, get_put_if, ↓reduceIte, get_cons_zero, get_cons_succ, get_nil, ckPlain, List.all_nil, evC, List.getLastD_cons, List.getLastD_nil, List.map_cons, List.map_nil, Option.map_some, Option.bind_some, Option.map_none, Option.bind_none, binE, bin, sBin, iBin, eqB, bBin, un, conv, Nat.reduceEqDiff, Nat.reduceAdd, Nat.add_sub_cancel, Int.add_zero, Int.zero_add, Nat.zero_add, Nat.add_zero, List.drop_zero, List.take_zero, Nat.zero_le,  Nat.reduceBEq, Nat.reduceLeDiff, Nat.reduceLT, Int.natCast_zero, Int.natCast_one, Int.reduceBEq, Int.reduceLT, Int.reduceLE, Int.reduceAdd, Int.reduceSub, b_t, b_f, Bool.not_true, Bool.not_false, Bool.true_and, Bool.and_true, Bool.false_and, Bool.and_false, decide_true, decide_false, wr64, asNat_cast, asNat_zero, asNat_one, and_true, true_and, List.cons_append, List.nil_append, List.getElem?_cons_zero, List.getElem?_cons_succ, List.getElem?_nil, resOf, seqO, resOne, getA_app, Option.some.injEq, reduceCtorEq, Bool.false_eq_true, Bool.true_eq_false, if_false, if_true, List.append_nil, castS, castA, castP, castM, ite_some, at_app, set_app, at_map_app, set_map_app, getA_zero, getA_succ, set_zero, set_succ, sliceV_osl, sliceV_sl, List.take_length, or_true, true_or, Nat.sub_zero,  elsOf, okEl, AV.cells, AV.one, List.all_cons, stE, stA, ld, ldE, cons_beq_nil, nil_beq_cons, snaps, rfs, rf, BEq.rfl, and_self, Nat.le_refl, List.length_cons, List.length_nil, rf_byte]
  refine ECallP.some (p61 s b) ?_
  simp (disch := first | assumption | omega) only [Ends_nil, Ends_ret, Ends_skip, Ends_label, Ends_inBlock, Ends_seq, Ends_block, Ends_exit, EExit_some, exitC, Ends_cond, ECond_true, ECond_false, Ends_reg, EndsR_nil, EndsR_cons, EG_true, EG_false, EBnd_some, EOp_callF, EOp_callP0, EOp_callP, EOp_callV, Ends_dreg, EndsD_nil, EndsD_cons, DG_true, DG_false, DBnd_some, DOp_callF, DOp_callP0, DOp_callP, ERes_some, EOp_mv, DOp_mv, EOp_nilCheck, DOp_nilCheck, EOp_pick, DOp_pick, EOp_alloc, DOp_alloc, EOp_box, DOp_box, EOp_build, DOp_build, EOp_bsl, DOp_bsl, EOp_load, DOp_load, EOp_store, DOp_store, EOp_bin, DOp_bin, EOp_eqs, DOp_eqs, EOp_un, DOp_un, EOp_conv, DOp_conv, EOp_fld, DOp_fld, EOp_part, DOp_part, EOp_idxS, DOp_idxS, EOp_idxA, DOp_idxA, EOp_idxStr, DOp_idxStr, EOp_idxAgg, DOp_idxAgg, EOp_sliceStr, DOp_sliceStr, EOp_slice, DOp_slice, EOp_sliceArr, DOp_sliceArr, EOp_extract, DOp_extract, EOp_len, DOp_len, EOp_cap, DOp_cap, EOp_append, DOp_append, EOp_appendZ, DOp_appendZ, EOp_copy, DOp_copy, EOp_mm, DOp_mm, EOp_mkSlice, DOp_mkSlice, EOp_mkFn, DOp_mkFn, EOp_lookup, DOp_lookup, EOp_rangeS, DOp_rangeS, EOp_nextS, DOp_nextS, EOp_iface, DOp_iface, wantedA, evOp, opd, putO, bnd, get_put_if, ↓reduceIte, get_cons_zero, get_cons_succ, get_nil, ckPlain, List.all_nil, evC, List.getLastD_cons, List.getLastD_nil, List.map_cons, List.map_nil, Option.map_some, Option.bind_some, Option.map_none, Option.bind_none, binE, bin, sBin, iBin, eqB, bBin, un, conv, Nat.reduceEqDiff, Nat.reduceAdd, Nat.add_sub_cancel, Int.add_zero, Int.zero_add, Nat.zero_add, Nat.add_zero, List.drop_zero, List.take_zero, Nat.zero_le,  Nat.reduceBEq, Nat.reduceLeDiff, Nat.reduceLT, Int.natCast_zero, Int.natCast_one, Int.reduceBEq, Int.reduceLT, Int.reduceLE, Int.reduceAdd, Int.reduceSub, b_t, b_f, Bool.not_true, Bool.not_false, Bool.true_and, Bool.and_true, Bool.false_and, Bool.and_false, decide_true, decide_false, wr64, asNat_cast, asNat_zero, asNat_one, and_true, true_and, List.cons_append, List.nil_append, List.getElem?_cons_zero, List.getElem?_cons_succ, List.getElem?_nil, resOf, seqO, resOne, getA_app, Option.some.injEq, reduceCtorEq, Bool.false_eq_true, Bool.true_eq_false, if_false, if_true, List.append_nil, castS, castA, castP, castM, ite_some, at_app, set_app, at_map_app, set_map_app, getA_zero, getA_succ, set_zero, set_succ, sliceV_osl, sliceV_sl, List.take_length, or_true, true_or, Nat.sub_zero,  elsOf, okEl, AV.cells, AV.one, List.all_cons, stE, stA, ld, ldE, cons_beq_nil, nil_beq_cons, snaps, rfs, rf, BEq.rfl, and_self, Nat.le_refl, List.length_cons, List.length_nil]
  exact snap_deep_rf rfl

theorem p63 (s : List UInt8) (b : UInt8) : PureTo EC 63 [.str s, .str [b]] (.int .i64 (cntByte b s)) := by
  refine pure_go1 (res := [(.tmp 4)]) k63 rfl rfl ?_
  simp (disch := first | assumption | omega) only [Ends_nil, Ends_ret, Ends_skip, Ends_label, Ends_inBlock, Ends_seq, Ends_block, Ends_exit, EExit_some, exitC, Ends_cond, ECond_true, ECond_false, Ends_reg, EndsR_nil, EndsR_cons, EG_true, EG_false, EBnd_some, EOp_callF, EOp_callP0, EOp_callP, EOp_callV, Ends_dreg, EndsD_nil, EndsD_cons, DG_true, DG_false, DBnd_some, DOp_callF, DOp_callP0, DOp_callP, ERes_some, EOp_mv, DOp_mv, EOp_nilCheck, DOp_nilCheck, EOp_pick, DOp_pick, EOp_alloc, DOp_alloc, EOp_box, DOp_box, EOp_build, DOp_build, EOp_bsl, DOp_bsl, EOp_load, DOp_load, EOp_store, DOp_store, EOp_bin, DOp_bin, EOp_eqs, DOp_eqs, EOp_un, DOp_un, EOp_conv, DOp_conv, EOp_fld, DOp_fld, EOp_part, DOp_part, EOp_idxS, DOp_idxS, EOp_idxA, DOp_idxA, EOp_idxStr, DOp_idxStr, EOp_idxAgg, DOp_idxAgg, EOp_sliceStr, DOp_sliceStr, EOp_slice, DOp_slice, EOp_sliceArr, DOp_sliceArr, EOp_extract, DOp_extract, EOp_len, DOp_len, EOp_cap, DOp_cap, EOp_append, DOp_append, EOp_appendZ, DOp_appendZ, EOp_copy, DOp_copy, EOp_mm, DOp_mm, EOp_mkSlice, DOp_mkSlice, EOp_mkFn, DOp_mkFn, EOp_lookup, DOp_lookup, EOp_rangeS, DOp_rangeS, EOp_nextS, DOp_nextS, EOp_iface, DOp_iface, wantedA, evOp, opd, putO, bnd, get_put_if, ↓reduceIte, get_cons_zero, get_cons_succ, get_nil, ckPlain, List.all_nil, evC, List.getLastD_cons, List.getLastD_nil, List.map_cons, List.map_nil, Option.map_some, Option.bind_some, Option.map_none, Option.bind_none, binE, bin, sBin, iBin, eqB, bBin, un, conv, Nat.reduceEqDiff, Nat.reduceAdd, Nat.add_sub_cancel, Int.add_zero, Int.zero_add, Nat.zero_add, Nat.add_zero, List.drop_zero, List.take_zero, Nat.zero_le,  Nat.reduceBEq, Nat.reduceLeDiff, Nat.reduceLT, Int.natCast_zero, Int.natCast_one, Int.reduceBEq, Int.reduceLT, Int.reduceLE, Int.reduceAdd, Int.reduceSub, b_t, b_f, Bool.not_true, Bool.not_false, Bool.true_and, Bool.and_true, Bool.false_and, Bool.and_false, decide_true, decide_false, wr64, asNat_cast, asNat_zero, asNat_one, and_true, true_and, List.cons_append, List.nil_append, List.getElem?_cons_zero, List.getElem?_cons_succ, List.getElem?_nil, resOf, seqO, resOne, getA_app, Option.some.injEq, reduceCtorEq, Bool.false_eq_true, Bool.true_eq_false, if_false, if_true, List.append_nil, castS, castA, castP, castM, ite_some, at_app, set_app, at_map_app, set_map_app, getA_zero, getA_succ, set_zero, set_succ, sliceV_osl, sliceV_sl, List.take_length, or_true, true_or, Nat.sub_zero,  elsOf, okEl, AV.cells, AV.one, List.all_cons, stE, stA, ld, ldE, cons_beq_nil, nil_beq_cons, snaps, rfs, rf, BEq.rfl, and_self, Nat.le_refl, List.length_cons, List.length_nil, rf_byte]
  refine ECallP.some (p78 s b) ?_
  simp (disch := first | assumption | omega) only [Ends_nil, Ends_ret, Ends_skip, Ends_label, Ends_inBlock, Ends_seq, Ends_block, Ends_exit, EExit_some, exitC, Ends_cond, ECond_true, ECond_false, Ends_reg, EndsR_nil, EndsR_cons, EG_true, EG_false, EBnd_some, EOp_callF, EOp_callP0, EOp_callP, EOp_callV, Ends_dreg, EndsD_nil, EndsD_cons, DG_true, DG_false, DBnd_some, DOp_callF, DOp_callP0, DOp_callP, ERes_some, EOp_mv, DOp_mv, EOp_nilCheck, DOp_nilCheck, EOp_pick, DOp_pick, EOp_alloc, DOp_alloc, EOp_box, DOp_box, EOp_build, DOp_build, EOp_bsl, DOp_bsl, EOp_load, DOp_load, EOp_store, DOp_store, EOp_bin, DOp_bin, EOp_eqs, DOp_eqs, EOp_un, DOp_un, EOp_conv, DOp_conv, EOp_fld, DOp_fld, EOp_part, DOp_part, EOp_idxS, DOp_idxS, EOp_idxA, DOp_idxA, EOp_idxStr, DOp_idxStr, EOp_idxAgg, DOp_idxAgg, EOp_sliceStr, DOp_sliceStr, EOp_slice, DOp_slice, EOp_sliceArr, DOp_sliceArr, EOp_extract, DOp_extract, EOp_len, DOp_len, EOp_cap, DOp_cap, EOp_append, DOp_append, EOp_appendZ, DOp_appendZ, EOp_copy, DOp_copy, EOp_mm, DOp_mm, EOp_mkSlice, DOp_mkSlice, EOp_mkFn, DOp_mkFn, EOp_lookup, DOp_lookup, EOp_rangeS, DOp_rangeS, EOp_nextS, DOp_nextS, EOp_iface, DOp_iface, wantedA, evOp, opd, putO, bnd, get_put_if, ↓reduceIte, get_cons_zero, get_cons_succ, get_nil, ckPlain, List.all_nil, evC, List.getLastD_cons, List.getLastD_nil, List.map_cons, List.map_nil, Option.map_some, Option.bind_some, Option.map_none, Option.bind_none, binE, bin, sBin, iBin, eqB, bBin, un, conv, Nat.reduceEqDiff, Nat.reduceAdd, Nat.add_sub_cancel, Int.add_zero, Int.zero_add, Nat.zero_add, Nat.add_zero, List.drop_zero, List.take_zero, Nat.zero_le,  Nat.reduceBEq, Nat.reduceLeDiff, Nat.reduceLT, Int.natCast_zero, Int.natCast_one, Int.reduceBEq, Int.reduceLT, Int.reduceLE, Int.reduceAdd, Int.reduceSub, b_t, b_f, Bool.not_true, Bool.not_false, Bool.true_and, Bool.and_true, Bool.false_and, Bool.and_false, decide_true, decide_false, wr64, asNat_cast, asNat_zero, asNat_one, and_true, true_and, List.cons_append, List.nil_append, List.getElem?_cons_zero, List.getElem?_cons_succ, List.getElem?_nil, resOf, seqO, resOne, getA_app, Option.some.injEq, reduceCtorEq, Bool.false_eq_true, Bool.true_eq_false, if_false, if_true, List.append_nil, castS, castA, castP, castM, ite_some, at_app, set_app, at_map_app, set_map_app, getA_zero, getA_succ, set_zero, set_succ, sliceV_osl, sliceV_sl, List.take_length, or_true, true_or, Nat.sub_zero,  elsOf, okEl, AV.cells, AV.one, List.all_cons, stE, stA, ld, ldE, cons_beq_nil, nil_beq_cons, snaps, rfs, rf, BEq.rfl, and_self, Nat.le_refl, List.length_cons, List.length_nil]
  exact snap_deep_rf rfl


theorem p79 (s : List UInt8) (b : UInt8) (hs : s.length ≤ 1073741824) : PureTo EC 79 [.str s, .str [b]] (.int .i64 (idxByte b s 0)) :=
  by
  have := ext10 s [b] [] (by omega) (by simp)
  rw [idxStr_byte] at this
  exact pure_rf (h' := []) (fn_ext k79 rfl this) rfl

theorem p64 (s : List UInt8) (b : UInt8) (hs : s.length ≤ 1073741824) : PureTo EC 64 [.str s, .str [b]] (.int .i64 (idxByte b s 0)) := by
  refine pure_go1 (res := [(.tmp 4)]) k64 rfl rfl ?_
  simp (disch := first | assumption | omega) only [Ends_nil, Ends_ret, Ends_skip, Ends_label, Ends_inBlock, Ends_seq, Ends_block, Ends_exit, EExit_some, exitC, Ends_cond, ECond_true, ECond_false, Ends_reg, EndsR_nil, EndsR_cons, EG_true, EG_false, EBnd_some, EOp_callF, EOp_callP0, EOp_callP, EOp_callV, Ends_dreg, EndsD_nil, EndsD_cons, DG_true, DG_false, DBnd_some, DOp_callF, DOp_callP0, DOp_callP, ERes_some, EOp_mv, DOp_mv, EOp_nilCheck, DOp_nilCheck, EOp_pick, DOp_pick, EOp_alloc, DOp_alloc, EOp_box, DOp_box, EOp_build, DOp_build, EOp_bsl, DOp_bsl, EOp_load, DOp_load, EOp_store, DOp_store, EOp_bin, DOp_bin, EOp_eqs, DOp_eqs, EOp_un, DOp_un, EOp_conv, DOp_conv, EOp_fld, DOp_fld, EOp_part, DOp_part, EOp_idxS, DOp_idxS, EOp_idxA, DOp_idxA, EOp_idxStr, DOp_idxStr, EOp_idxAgg, DOp_idxAgg, EOp_sliceStr, DOp_sliceStr, EOp_slice, DOp_slice, EOp_sliceArr, DOp_sliceArr, EOp_extract, DOp_extract, EOp_len, DOp_len, EOp_cap, DOp_cap, EOp_append, DOp_append, EOp_appendZ, DOp_appendZ, EOp_copy, DOp_copy, EOp_mm, DOp_mm, EOp_mkSlice, DOp_mkSlice, EOp_mkFn, DOp_mkFn, EOp_lookup, DOp_lookup, EOp_rangeS, DOp_rangeS, EOp_nextS, DOp_nextS, EOp_iface, DOp_iface, wantedA, evOp, opd, putO, bnd, get_put_if, ↓reduceIte, get_cons_zero, get_cons_succ, get_nil, ckPlain, List.all_nil, evC, List.getLastD_cons, List.getLastD_nil, List.map_cons, List.map_nil, Option.map_some, Option.bind_some, Option.map_none, Option.bind_none, binE, bin, sBin, iBin, eqB, bBin, un, conv, Nat.reduceEqDiff, Nat.reduceAdd, Nat.add_sub_cancel, Int.add_zero, Int.zero_add, Nat.zero_add, Nat.add_zero, List.drop_zero, List.take_zero, Nat.zero_le,  Nat.reduceBEq, Nat.reduceLeDiff, Nat.reduceLT, Int.natCast_zero, Int.natCast_one, Int.reduceBEq, Int.reduceLT, Int.reduceLE, Int.reduceAdd, Int.reduceSub, b_t, b_f, Bool.not_true, Bool.not_false, Bool.true_and, Bool.and_true, Bool.false_and, Bool.and_false, decide_true, decide_false, wr64, asNat_cast, asNat_zero, asNat_one, and_true, true_and, List.cons_append, List.nil_append, List.getElem?_cons_zero, List.getElem?_cons_succ, List.getElem?_nil, resOf, seqO, resOne, getA_app, Option.some.injEq, reduceCtorEq, Bool.false_eq_true, Bool.true_eq_false, if_false, if_true, List.append_nil, castS, castA, castP, castM, ite_some, at_app, set_app, at_map_app, set_map_app, getA_zero, getA_succ, set_zero, set_succ, sliceV_osl, sliceV_sl, List.take_length, or_true, true_or, Nat.sub_zero,  elsOf, okEl, AV.cells, AV.one, List.all_cons, stE, stA, ld, ldE, cons_beq_nil, nil_beq_cons, snaps, rfs, rf, BEq.rfl, and_self, Nat.le_refl, List.length_cons, List.length_nil]
  refine ECallP.some (p79 s b hs) ?_
  simp (disch := first | assumption | omega) only [Ends_nil, Ends_ret, Ends_skip, Ends_label, Ends_inBlock, Ends_seq, Ends_block, Ends_exit, EExit_some, exitC, Ends_cond, ECond_true, ECond_false, Ends_reg, EndsR_nil, EndsR_cons, EG_true, EG_false, EBnd_some, EOp_callF, EOp_callP0, EOp_callP, EOp_callV, Ends_dreg, EndsD_nil, EndsD_cons, DG_true, DG_false, DBnd_some, DOp_callF, DOp_callP0, DOp_callP, ERes_some, EOp_mv, DOp_mv, EOp_nilCheck, DOp_nilCheck, EOp_pick, DOp_pick, EOp_alloc, DOp_alloc, EOp_box, DOp_box, EOp_build, DOp_build, EOp_bsl, DOp_bsl, EOp_load, DOp_load, EOp_store, DOp_store, EOp_bin, DOp_bin, EOp_eqs, DOp_eqs, EOp_un, DOp_un, EOp_conv, DOp_conv, EOp_fld, DOp_fld, EOp_part, DOp_part, EOp_idxS, DOp_idxS, EOp_idxA, DOp_idxA, EOp_idxStr, DOp_idxStr, EOp_idxAgg, DOp_idxAgg, EOp_sliceStr, DOp_sliceStr, EOp_slice, DOp_slice, EOp_sliceArr, DOp_sliceArr, EOp_extract, DOp_extract, EOp_len, DOp_len, EOp_cap, DOp_cap, EOp_append, DOp_append, EOp_appendZ, DOp_appendZ, EOp_copy, DOp_copy, EOp_mm, DOp_mm, EOp_mkSlice, DOp_mkSlice, EOp_mkFn, DOp_mkFn, EOp_lookup, DOp_lookup, EOp_rangeS, DOp_rangeS, EOp_nextS, DOp_nextS, EOp_iface, DOp_iface, wantedA, evOp, opd, putO, bnd, get_put_if, ↓reduceIte, get_cons_zero, get_cons_succ, get_nil, ckPlain, List.all_nil, evC, List.getLastD_cons, List.getLastD_nil, List.map_cons, List.map_nil, Option.map_some, Option.bind_some, Option.map_none, Option.bind_none, binE, bin, sBin, iBin, eqB, bBin, un, conv, Nat.reduceEqDiff, Nat.reduceAdd, Nat.add_sub_cancel, Int.add_zero, Int.zero_add, Nat.zero_add, Nat.add_zero, List.drop_zero, List.take_zero, Nat.zero_le,  Nat.reduceBEq, Nat.reduceLeDiff, Nat.reduceLT, Int.natCast_zero, Int.natCast_one, Int.reduceBEq, Int.reduceLT, Int.reduceLE, Int.reduceAdd, Int.reduceSub, b_t, b_f, Bool.not_true, Bool.not_false, Bool.true_and, Bool.and_true, Bool.false_and, Bool.and_false, decide_true, decide_false, wr64, asNat_cast, asNat_zero, asNat_one, and_true, true_and, List.cons_append, List.nil_append, List.getElem?_cons_zero, List.getElem?_cons_succ, List.getElem?_nil, resOf, seqO, resOne, getA_app, Option.some.injEq, reduceCtorEq, Bool.false_eq_true, Bool.true_eq_false, if_false, if_true, List.append_nil, castS, castA, castP, castM, ite_some, at_app, set_app, at_map_app, set_map_app, getA_zero, getA_succ, set_zero, set_succ, sliceV_osl, sliceV_sl, List.take_length, or_true, true_or, Nat.sub_zero,  elsOf, okEl, AV.cells, AV.one, List.all_cons, stE, stA, ld, ldE, cons_beq_nil, nil_beq_cons, snaps, rfs, rf, BEq.rfl, and_self, Nat.le_refl, List.length_cons, List.length_nil]
  exact snap_deep_rf rfl

theorem p45 (s : List UInt8) (b : UInt8) (hs : s.length ≤ 1073741824) : ∃ r, PureTo EC 45 [.str s, .str [b], .int .i64 0, .int .i64 (-1)] r ∧ r = .sl false 1 ((splitB b s).map .str) := by
  have hc := cnt_le b s
  refine pure_go (res := [(.tmp 8)]) k45 rfl rfl ?_
  simp (disch := first | assumption | omega) only [Ends_nil, Ends_ret, Ends_skip, Ends_label, Ends_inBlock, Ends_seq, Ends_block, Ends_exit, EExit_some, exitC, Ends_cond, ECond_true, ECond_false, Ends_reg, EndsR_nil, EndsR_cons, EG_true, EG_false, EBnd_some, EOp_callF, EOp_callP0, EOp_callP, EOp_callV, Ends_dreg, EndsD_nil, EndsD_cons, DG_true, DG_false, DBnd_some, DOp_callF, DOp_callP0, DOp_callP, ERes_some, EOp_mv, DOp_mv, EOp_nilCheck, DOp_nilCheck, EOp_pick, DOp_pick, EOp_alloc, DOp_alloc, EOp_box, DOp_box, EOp_build, DOp_build, EOp_bsl, DOp_bsl, EOp_load, DOp_load, EOp_store, DOp_store, EOp_bin, DOp_bin, EOp_eqs, DOp_eqs, EOp_un, DOp_un, EOp_conv, DOp_conv, EOp_fld, DOp_fld, EOp_part, DOp_part, EOp_idxS, DOp_idxS, EOp_idxA, DOp_idxA, EOp_idxStr, DOp_idxStr, EOp_idxAgg, DOp_idxAgg, EOp_sliceStr, DOp_sliceStr, EOp_slice, DOp_slice, EOp_sliceArr, DOp_sliceArr, EOp_extract, DOp_extract, EOp_len, DOp_len, EOp_cap, DOp_cap, EOp_append, DOp_append, EOp_appendZ, DOp_appendZ, EOp_copy, DOp_copy, EOp_mm, DOp_mm, EOp_mkSlice, DOp_mkSlice, EOp_mkFn, DOp_mkFn, EOp_lookup, DOp_lookup, EOp_rangeS, DOp_rangeS, EOp_nextS, DOp_nextS, EOp_iface, DOp_iface, wantedA, evOp, opd, putO, bnd, get_put_if, ↓reduceIte, get_cons_zero, get_cons_succ, get_nil, ckPlain, List.all_nil, evC, List.getLastD_cons, List.getLastD_nil, List.map_cons, List.map_nil, Option.map_some, Option.bind_some, Option.map_none, Option.bind_none, binE, bin, sBin, iBin, eqB, bBin, un, conv, Nat.reduceEqDiff, Nat.reduceAdd, Nat.add_sub_cancel, Int.add_zero, Int.zero_add, Nat.zero_add, Nat.add_zero, List.drop_zero, List.take_zero, Nat.zero_le,  Nat.reduceBEq, Nat.reduceLeDiff, Nat.reduceLT, Int.natCast_zero, Int.natCast_one, Int.reduceBEq, Int.reduceLT, Int.reduceLE, Int.reduceAdd, Int.reduceSub, b_t, b_f, Bool.not_true, Bool.not_false, Bool.true_and, Bool.and_true, Bool.false_and, Bool.and_false, decide_true, decide_false, wr64, asNat_cast, asNat_zero, asNat_one, and_true, true_and, List.cons_append, List.nil_append, List.getElem?_cons_zero, List.getElem?_cons_succ, List.getElem?_nil, resOf, seqO, resOne, getA_app, Option.some.injEq, reduceCtorEq, Bool.false_eq_true, Bool.true_eq_false, if_false, if_true, List.append_nil, castS, castA, castP, castM, ite_some, at_app, set_app, at_map_app, set_map_app, getA_zero, getA_succ, set_zero, set_succ, sliceV_osl, sliceV_sl, List.take_length, or_true, true_or, Nat.sub_zero,  elsOf, okEl, AV.cells, AV.one, List.all_cons, stE, stA, ld, ldE, cons_beq_nil, nil_beq_cons, snaps, rfs, rf, BEq.rfl, and_self, Nat.le_refl, List.length_cons, List.length_nil]
  refine ECallP.some (p63 s b) ?_
  simp (disch := first | assumption | omega) only [Ends_nil, Ends_ret, Ends_skip, Ends_label, Ends_inBlock, Ends_seq, Ends_block, Ends_exit, EExit_some, exitC, Ends_cond, ECond_true, ECond_false, Ends_reg, EndsR_nil, EndsR_cons, EG_true, EG_false, EBnd_some, EOp_callF, EOp_callP0, EOp_callP, EOp_callV, Ends_dreg, EndsD_nil, EndsD_cons, DG_true, DG_false, DBnd_some, DOp_callF, DOp_callP0, DOp_callP, ERes_some, EOp_mv, DOp_mv, EOp_nilCheck, DOp_nilCheck, EOp_pick, DOp_pick, EOp_alloc, DOp_alloc, EOp_box, DOp_box, EOp_build, DOp_build, EOp_bsl, DOp_bsl, EOp_load, DOp_load, EOp_store, DOp_store, EOp_bin, DOp_bin, EOp_eqs, DOp_eqs, EOp_un, DOp_un, EOp_conv, DOp_conv, EOp_fld, DOp_fld, EOp_part, DOp_part, EOp_idxS, DOp_idxS, EOp_idxA, DOp_idxA, EOp_idxStr, DOp_idxStr, EOp_idxAgg, DOp_idxAgg, EOp_sliceStr, DOp_sliceStr, EOp_slice, DOp_slice, EOp_sliceArr, DOp_sliceArr, EOp_extract, DOp_extract, EOp_len, DOp_len, EOp_cap, DOp_cap, EOp_append, DOp_append, EOp_appendZ, DOp_appendZ, EOp_copy, DOp_copy, EOp_mm, DOp_mm, EOp_mkSlice, DOp_mkSlice, EOp_mkFn, DOp_mkFn, EOp_lookup, DOp_lookup, EOp_rangeS, DOp_rangeS, EOp_nextS, DOp_nextS, EOp_iface, DOp_iface, wantedA, evOp, opd, putO, bnd, get_put_if, ↓reduceIte, get_cons_zero, get_cons_succ, get_nil, ckPlain, List.all_nil, evC, List.getLastD_cons, List.getLastD_nil, List.map_cons, List.map_nil, Option.map_some, Option.bind_some, Option.map_none, Option.bind_none, binE, bin, sBin, iBin, eqB, bBin, un, conv, Nat.reduceEqDiff, Nat.reduceAdd, Nat.add_sub_cancel, Int.add_zero, Int.zero_add, Nat.zero_add, Nat.add_zero, List.drop_zero, List.take_zero, Nat.zero_le,  Nat.reduceBEq, Nat.reduceLeDiff, Nat.reduceLT, Int.natCast_zero, Int.natCast_one, Int.reduceBEq, Int.reduceLT, Int.reduceLE, Int.reduceAdd, Int.reduceSub, b_t, b_f, Bool.not_true, Bool.not_false, Bool.true_and, Bool.and_true, Bool.false_and, Bool.and_false, decide_true, decide_false, wr64, asNat_cast, asNat_zero, asNat_one, and_true, true_and, List.cons_append, List.nil_append, List.getElem?_cons_zero, List.getElem?_cons_succ, List.getElem?_nil, resOf, seqO, resOne, getA_app, Option.some.injEq, reduceCtorEq, Bool.false_eq_true, Bool.true_eq_false, if_false, if_true, List.append_nil, castS, castA, castP, castM, ite_some, at_app, set_app, at_map_app, set_map_app, getA_zero, getA_succ, set_zero, set_succ, sliceV_osl, sliceV_sl, List.take_length, or_true, true_or, Nat.sub_zero,  elsOf, okEl, AV.cells, AV.one, List.all_cons, stE, stA, ld, ldE, cons_beq_nil, nil_beq_cons, snaps, rfs, rf, BEq.rfl, and_self, Nat.le_refl, List.length_cons, List.length_nil, min_le]
  refine Ends.loop (fun m t h => ∃ done s', get t 0 = .str s' ∧ get t 1 = .str [b] ∧ get t 2 = .int .i64 0 ∧ get t 3 = .int .i64 (cntByte b s : Nat) ∧ get t 9 = .osl 0 0 1 0 (cntByte b s + 1) ∧
    get t 10 = .int .i64 (done.length : Nat) ∧ h = [.arr { gen := 0, els := done.map .str ++ .str [] :: List.replicate (cntByte b s - done.length) (.str []), sz := 1, el := 9, lock := 0, cap := some (cntByte b s + 1) }] ∧
    splitB b s = done ++ splitB b s' ∧ s'.length ≤ s.length ∧ done.length + m = cntByte b s ∧ m = cntByte b s') (cntByte b s) ?_ ?_
  · exact ⟨[], s, by (try simp only [get_put_if, ↓reduceIte, Nat.reduceEqDiff, get_cons_zero, get_cons_succ, get_nil, reduceCtorEq]), by (try simp only [get_put_if, ↓reduceIte, Nat.reduceEqDiff, get_cons_zero, get_cons_succ, get_nil, reduceCtorEq]), by (try simp only [get_put_if, ↓reduceIte, Nat.reduceEqDiff, get_cons_zero, get_cons_succ, get_nil, reduceCtorEq]), by (try simp only [get_put_if, ↓reduceIte, Nat.reduceEqDiff, get_cons_zero, get_cons_succ, get_nil, reduceCtorEq]), by (try simp only [get_put_if, ↓reduceIte, Nat.reduceEqDiff, get_cons_zero, get_cons_succ, get_nil, reduceCtorEq]), by (try simp only [get_put_if, ↓reduceIte, Nat.reduceEqDiff, get_cons_zero, get_cons_succ, get_nil, reduceCtorEq]); rfl, rfl, rfl, Nat.le_refl _, by simp, rfl⟩
  rintro m t h ⟨done, s', g0, g1, g2, g3, g9, g10, rfl, hsp, hsl, hm, hcm⟩ again
  simp (disch := first | assumption | omega) only [Ends_nil, Ends_ret, Ends_skip, Ends_label, Ends_inBlock, Ends_seq, Ends_block, Ends_exit, EExit_some, exitC, Ends_cond, ECond_true, ECond_false, Ends_reg, EndsR_nil, EndsR_cons, EG_true, EG_false, EBnd_some, EOp_callF, EOp_callP0, EOp_callP, EOp_callV, Ends_dreg, EndsD_nil, EndsD_cons, DG_true, DG_false, DBnd_some, DOp_callF, DOp_callP0, DOp_callP, ERes_some, EOp_mv, DOp_mv, EOp_nilCheck, DOp_nilCheck, EOp_pick, DOp_pick, EOp_alloc, DOp_alloc, EOp_box, DOp_box, EOp_build, DOp_build, EOp_bsl, DOp_bsl, EOp_load, DOp_load, EOp_store, DOp_store, EOp_bin, DOp_bin, EOp_eqs, DOp_eqs, EOp_un, DOp_un, EOp_conv, DOp_conv, EOp_fld, DOp_fld, EOp_part, DOp_part, EOp_idxS, DOp_idxS, EOp_idxA, DOp_idxA, EOp_idxStr, DOp_idxStr, EOp_idxAgg, DOp_idxAgg, EOp_sliceStr, DOp_sliceStr, EOp_slice, DOp_slice, EOp_sliceArr, DOp_sliceArr, EOp_extract, DOp_extract, EOp_len, DOp_len, EOp_cap, DOp_cap, EOp_append, DOp_append, EOp_appendZ, DOp_appendZ, EOp_copy, DOp_copy, EOp_mm, DOp_mm, EOp_mkSlice, DOp_mkSlice, EOp_mkFn, DOp_mkFn, EOp_lookup, DOp_lookup, EOp_rangeS, DOp_rangeS, EOp_nextS, DOp_nextS, EOp_iface, DOp_iface, wantedA, evOp, opd, putO, bnd, get_put_if, ↓reduceIte, get_cons_zero, get_cons_succ, get_nil, ckPlain, List.all_nil, evC, List.getLastD_cons, List.getLastD_nil, List.map_cons, List.map_nil, Option.map_some, Option.bind_some, Option.map_none, Option.bind_none, binE, bin, sBin, iBin, eqB, bBin, un, conv, Nat.reduceEqDiff, Nat.reduceAdd, Nat.add_sub_cancel, Int.add_zero, Int.zero_add, Nat.zero_add, Nat.add_zero, List.drop_zero, List.take_zero, Nat.zero_le,  Nat.reduceBEq, Nat.reduceLeDiff, Nat.reduceLT, Int.natCast_zero, Int.natCast_one, Int.reduceBEq, Int.reduceLT, Int.reduceLE, Int.reduceAdd, Int.reduceSub, b_t, b_f, Bool.not_true, Bool.not_false, Bool.true_and, Bool.and_true, Bool.false_and, Bool.and_false, decide_true, decide_false, wr64, asNat_cast, asNat_zero, asNat_one, and_true, true_and, List.cons_append, List.nil_append, List.getElem?_cons_zero, List.getElem?_cons_succ, List.getElem?_nil, resOf, seqO, resOne, getA_app, Option.some.injEq, reduceCtorEq, Bool.false_eq_true, Bool.true_eq_false, if_false, if_true, List.append_nil, castS, castA, castP, castM, ite_some, at_app, set_app, at_map_app, set_map_app, getA_zero, getA_succ, set_zero, set_succ, sliceV_osl, sliceV_sl, List.take_length, or_true, true_or, Nat.sub_zero,  elsOf, okEl, AV.cells, AV.one, List.all_cons, stE, stA, ld, ldE, cons_beq_nil, nil_beq_cons, snaps, rfs, rf, BEq.rfl, and_self, Nat.le_refl, List.length_cons, List.length_nil, g0, g1, g2, g3, g9, g10]
  refine ECond.mk (fun hb => ?_) (fun hb => ?_)
  · rw [decide_eq_true_eq] at hb
    rcases idx_split b s' 0 with ⟨h1, h2, h3⟩ | ⟨p, q, h1, h2, h3, h4⟩
    · omega
    have hpl : s'.length = p.length + (q.length + 1) := by rw [h1]; simp
    simp (disch := first | assumption | omega) only [Ends_nil, Ends_ret, Ends_skip, Ends_label, Ends_inBlock, Ends_seq, Ends_block, Ends_exit, EExit_some, exitC, Ends_cond, ECond_true, ECond_false, Ends_reg, EndsR_nil, EndsR_cons, EG_true, EG_false, EBnd_some, EOp_callF, EOp_callP0, EOp_callP, EOp_callV, Ends_dreg, EndsD_nil, EndsD_cons, DG_true, DG_false, DBnd_some, DOp_callF, DOp_callP0, DOp_callP, ERes_some, EOp_mv, DOp_mv, EOp_nilCheck, DOp_nilCheck, EOp_pick, DOp_pick, EOp_alloc, DOp_alloc, EOp_box, DOp_box, EOp_build, DOp_build, EOp_bsl, DOp_bsl, EOp_load, DOp_load, EOp_store, DOp_store, EOp_bin, DOp_bin, EOp_eqs, DOp_eqs, EOp_un, DOp_un, EOp_conv, DOp_conv, EOp_fld, DOp_fld, EOp_part, DOp_part, EOp_idxS, DOp_idxS, EOp_idxA, DOp_idxA, EOp_idxStr, DOp_idxStr, EOp_idxAgg, DOp_idxAgg, EOp_sliceStr, DOp_sliceStr, EOp_slice, DOp_slice, EOp_sliceArr, DOp_sliceArr, EOp_extract, DOp_extract, EOp_len, DOp_len, EOp_cap, DOp_cap, EOp_append, DOp_append, EOp_appendZ, DOp_appendZ, EOp_copy, DOp_copy, EOp_mm, DOp_mm, EOp_mkSlice, DOp_mkSlice, EOp_mkFn, DOp_mkFn, EOp_lookup, DOp_lookup, EOp_rangeS, DOp_rangeS, EOp_nextS, DOp_nextS, EOp_iface, DOp_iface, wantedA, evOp, opd, putO, bnd, get_put_if, ↓reduceIte, get_cons_zero, get_cons_succ, get_nil, ckPlain, List.all_nil, evC, List.getLastD_cons, List.getLastD_nil, List.map_cons, List.map_nil, Option.map_some, Option.bind_some, Option.map_none, Option.bind_none, binE, bin, sBin, iBin, eqB, bBin, un, conv, Nat.reduceEqDiff, Nat.reduceAdd, Nat.add_sub_cancel, Int.add_zero, Int.zero_add, Nat.zero_add, Nat.add_zero, List.drop_zero, List.take_zero, Nat.zero_le,  Nat.reduceBEq, Nat.reduceLeDiff, Nat.reduceLT, Int.natCast_zero, Int.natCast_one, Int.reduceBEq, Int.reduceLT, Int.reduceLE, Int.reduceAdd, Int.reduceSub, b_t, b_f, Bool.not_true, Bool.not_false, Bool.true_and, Bool.and_true, Bool.false_and, Bool.and_false, decide_true, decide_false, wr64, asNat_cast, asNat_zero, asNat_one, and_true, true_and, List.cons_append, List.nil_append, List.getElem?_cons_zero, List.getElem?_cons_succ, List.getElem?_nil, resOf, seqO, resOne, getA_app, Option.some.injEq, reduceCtorEq, Bool.false_eq_true, Bool.true_eq_false, if_false, if_true, List.append_nil, castS, castA, castP, castM, ite_some, at_app, set_app, at_map_app, set_map_app, getA_zero, getA_succ, set_zero, set_succ, sliceV_osl, sliceV_sl, List.take_length, or_true, true_or, Nat.sub_zero,  elsOf, okEl, AV.cells, AV.one, List.all_cons, stE, stA, ld, ldE, cons_beq_nil, nil_beq_cons, snaps, rfs, rf, BEq.rfl, and_self, Nat.le_refl, List.length_cons, List.length_nil, g0, g1, g2, g3, g9, g10]
    refine ECallP.some (p64 s' b (by omega)) ?_
    simp (disch := first | assumption | omega) only [Ends_nil, Ends_ret, Ends_skip, Ends_label, Ends_inBlock, Ends_seq, Ends_block, Ends_exit, EExit_some, exitC, Ends_cond, ECond_true, ECond_false, Ends_reg, EndsR_nil, EndsR_cons, EG_true, EG_false, EBnd_some, EOp_callF, EOp_callP0, EOp_callP, EOp_callV, Ends_dreg, EndsD_nil, EndsD_cons, DG_true, DG_false, DBnd_some, DOp_callF, DOp_callP0, DOp_callP, ERes_some, EOp_mv, DOp_mv, EOp_nilCheck, DOp_nilCheck, EOp_pick, DOp_pick, EOp_alloc, DOp_alloc, EOp_box, DOp_box, EOp_build, DOp_build, EOp_bsl, DOp_bsl, EOp_load, DOp_load, EOp_store, DOp_store, EOp_bin, DOp_bin, EOp_eqs, DOp_eqs, EOp_un, DOp_un, EOp_conv, DOp_conv, EOp_fld, DOp_fld, EOp_part, DOp_part, EOp_idxS, DOp_idxS, EOp_idxA, DOp_idxA, EOp_idxStr, DOp_idxStr, EOp_idxAgg, DOp_idxAgg, EOp_sliceStr, DOp_sliceStr, EOp_slice, DOp_slice, EOp_sliceArr, DOp_sliceArr, EOp_extract, DOp_extract, EOp_len, DOp_len, EOp_cap, DOp_cap, EOp_append, DOp_append, EOp_appendZ, DOp_appendZ, EOp_copy, DOp_copy, EOp_mm, DOp_mm, EOp_mkSlice, DOp_mkSlice, EOp_mkFn, DOp_mkFn, EOp_lookup, DOp_lookup, EOp_rangeS, DOp_rangeS, EOp_nextS, DOp_nextS, EOp_iface, DOp_iface, wantedA, evOp, opd, putO, bnd, get_put_if, ↓reduceIte, get_cons_zero, get_cons_succ, get_nil, ckPlain, List.all_nil, evC, List.getLastD_cons, List.getLastD_nil, List.map_cons, List.map_nil, Option.map_some, Option.bind_some, Option.map_none, Option.bind_none, binE, bin, sBin, iBin, eqB, bBin, un, conv, Nat.reduceEqDiff, Nat.reduceAdd, Nat.add_sub_cancel, Int.add_zero, Int.zero_add, Nat.zero_add, Nat.add_zero, List.drop_zero, List.take_zero, Nat.zero_le,  Nat.reduceBEq, Nat.reduceLeDiff, Nat.reduceLT, Int.natCast_zero, Int.natCast_one, Int.reduceBEq, Int.reduceLT, Int.reduceLE, Int.reduceAdd, Int.reduceSub, b_t, b_f, Bool.not_true, Bool.not_false, Bool.true_and, Bool.and_true, Bool.false_and, Bool.and_false, decide_true, decide_false, wr64, asNat_cast, asNat_zero, asNat_one, and_true, true_and, List.cons_append, List.nil_append, List.getElem?_cons_zero, List.getElem?_cons_succ, List.getElem?_nil, resOf, seqO, resOne, getA_app, Option.some.injEq, reduceCtorEq, Bool.false_eq_true, Bool.true_eq_false, if_false, if_true, List.append_nil, castS, castA, castP, castM, ite_some, at_app, set_app, at_map_app, set_map_app, getA_zero, getA_succ, set_zero, set_succ, sliceV_osl, sliceV_sl, List.take_length, or_true, true_or, Nat.sub_zero,  elsOf, okEl, AV.cells, AV.one, List.all_cons, stE, stA, ld, ldE, cons_beq_nil, nil_beq_cons, snaps, rfs, rf, BEq.rfl, and_self, Nat.le_refl, List.length_cons, List.length_nil, g0, g1, g2, g3, g9, g10, h3]
    refine ECond.mk (fun hb => ?_) (fun hb => ?_)
    · rw [decide_eq_true_eq] at hb; omega
    simp (disch := first | assumption | omega) only [Ends_nil, Ends_ret, Ends_skip, Ends_label, Ends_inBlock, Ends_seq, Ends_block, Ends_exit, EExit_some, exitC, Ends_cond, ECond_true, ECond_false, Ends_reg, EndsR_nil, EndsR_cons, EG_true, EG_false, EBnd_some, EOp_callF, EOp_callP0, EOp_callP, EOp_callV, Ends_dreg, EndsD_nil, EndsD_cons, DG_true, DG_false, DBnd_some, DOp_callF, DOp_callP0, DOp_callP, ERes_some, EOp_mv, DOp_mv, EOp_nilCheck, DOp_nilCheck, EOp_pick, DOp_pick, EOp_alloc, DOp_alloc, EOp_box, DOp_box, EOp_build, DOp_build, EOp_bsl, DOp_bsl, EOp_load, DOp_load, EOp_store, DOp_store, EOp_bin, DOp_bin, EOp_eqs, DOp_eqs, EOp_un, DOp_un, EOp_conv, DOp_conv, EOp_fld, DOp_fld, EOp_part, DOp_part, EOp_idxS, DOp_idxS, EOp_idxA, DOp_idxA, EOp_idxStr, DOp_idxStr, EOp_idxAgg, DOp_idxAgg, EOp_sliceStr, DOp_sliceStr, EOp_slice, DOp_slice, EOp_sliceArr, DOp_sliceArr, EOp_extract, DOp_extract, EOp_len, DOp_len, EOp_cap, DOp_cap, EOp_append, DOp_append, EOp_appendZ, DOp_appendZ, EOp_copy, DOp_copy, EOp_mm, DOp_mm, EOp_mkSlice, DOp_mkSlice, EOp_mkFn, DOp_mkFn, EOp_lookup, DOp_lookup, EOp_rangeS, DOp_rangeS, EOp_nextS, DOp_nextS, EOp_iface, DOp_iface, wantedA, evOp, opd, putO, bnd, get_put_if, ↓reduceIte, get_cons_zero, get_cons_succ, get_nil, ckPlain, List.all_nil, evC, List.getLastD_cons, List.getLastD_nil, List.map_cons, List.map_nil, Option.map_some, Option.bind_some, Option.map_none, Option.bind_none, binE, bin, sBin, iBin, eqB, bBin, un, conv, Nat.reduceEqDiff, Nat.reduceAdd, Nat.add_sub_cancel, Int.add_zero, Int.zero_add, Nat.zero_add, Nat.add_zero, List.drop_zero, List.take_zero, Nat.zero_le,  Nat.reduceBEq, Nat.reduceLeDiff, Nat.reduceLT, Int.natCast_zero, Int.natCast_one, Int.reduceBEq, Int.reduceLT, Int.reduceLE, Int.reduceAdd, Int.reduceSub, b_t, b_f, Bool.not_true, Bool.not_false, Bool.true_and, Bool.and_true, Bool.false_and, Bool.and_false, decide_true, decide_false, wr64, asNat_cast, asNat_zero, asNat_one, and_true, true_and, List.cons_append, List.nil_append, List.getElem?_cons_zero, List.getElem?_cons_succ, List.getElem?_nil, resOf, seqO, resOne, getA_app, Option.some.injEq, reduceCtorEq, Bool.false_eq_true, Bool.true_eq_false, if_false, if_true, List.append_nil, castS, castA, castP, castM, ite_some, at_app, set_app, at_map_app, set_map_app, getA_zero, getA_succ, set_zero, set_succ, sliceV_osl, sliceV_sl, List.take_length, or_true, true_or, Nat.sub_zero,  elsOf, okEl, AV.cells, AV.one, List.all_cons, stE, stA, ld, ldE, cons_beq_nil, nil_beq_cons, snaps, rfs, rf, BEq.rfl, and_self, Nat.le_refl, List.length_cons, List.length_nil, g0, g1, g2, g3, g9, g10, h3]
    refine again (m - 1) _ _ (by omega) ⟨done ++ [p], q, ?_, ?_, ?_, ?_, ?_, ?_, ?_, ?_, ?_, ?_, ?_⟩
    all_goals (try ((try simp only [get_put_if, ↓reduceIte, Nat.reduceEqDiff, get_cons_zero, get_cons_succ, get_nil, reduceCtorEq]); try assumption))
    · rw [h1]; simp [← List.append_assoc]
    · simp
    · obtain ⟨k, hk⟩ : ∃ k, cntByte b s - done.length = k + 1 := ⟨cntByte b s - done.length - 1, by omega⟩
      have e : List.take p.length s' = p := by rw [h1]; simp
      have : cntByte b s - (done.length + 1) = k := by omega
      simp [hk, List.replicate_succ, e, this]
    · rw [hsp, h1, splitB_pre h2]; simp
    · omega
    · simp; omega
    · omega
  · rw [decide_eq_false_iff_not] at hb
    have hd : done.length = cntByte b s := by omega
    have hq : splitB b s' = [s'] := by
      rcases idx_split b s' 0 with ⟨h1, h2, h3⟩ | ⟨p, q, h1, h2, h3, h4⟩
      · exact splitB_none h1
      · omega
    simp (disch := first | assumption | omega) only [Ends_nil, Ends_ret, Ends_skip, Ends_label, Ends_inBlock, Ends_seq, Ends_block, Ends_exit, EExit_some, exitC, Ends_cond, ECond_true, ECond_false, Ends_reg, EndsR_nil, EndsR_cons, EG_true, EG_false, EBnd_some, EOp_callF, EOp_callP0, EOp_callP, EOp_callV, Ends_dreg, EndsD_nil, EndsD_cons, DG_true, DG_false, DBnd_some, DOp_callF, DOp_callP0, DOp_callP, ERes_some, EOp_mv, DOp_mv, EOp_nilCheck, DOp_nilCheck, EOp_pick, DOp_pick, EOp_alloc, DOp_alloc, EOp_box, DOp_box, EOp_build, DOp_build, EOp_bsl, DOp_bsl, EOp_load, DOp_load, EOp_store, DOp_store, EOp_bin, DOp_bin, EOp_eqs, DOp_eqs, EOp_un, DOp_un, EOp_conv, DOp_conv, EOp_fld, DOp_fld, EOp_part, DOp_part, EOp_idxS, DOp_idxS, EOp_idxA, DOp_idxA, EOp_idxStr, DOp_idxStr, EOp_idxAgg, DOp_idxAgg, EOp_sliceStr, DOp_sliceStr, EOp_slice, DOp_slice, EOp_sliceArr, DOp_sliceArr, EOp_extract, DOp_extract, EOp_len, DOp_len, EOp_cap, DOp_cap, EOp_append, DOp_append, EOp_appendZ, DOp_appendZ, EOp_copy, DOp_copy, EOp_mm, DOp_mm, EOp_mkSlice, DOp_mkSlice, EOp_mkFn, DOp_mkFn, EOp_lookup, DOp_lookup, EOp_rangeS, DOp_rangeS, EOp_nextS, DOp_nextS, EOp_iface, DOp_iface, wantedA, evOp, opd, putO, bnd, get_put_if, ↓reduceIte, get_cons_zero, get_cons_succ, get_nil, ckPlain, List.all_nil, evC, List.getLastD_cons, List.getLastD_nil, List.map_cons, List.map_nil, Option.map_some, Option.bind_some, Option.map_none, Option.bind_none, binE, bin, sBin, iBin, eqB, bBin, un, conv, Nat.reduceEqDiff, Nat.reduceAdd, Nat.add_sub_cancel, Int.add_zero, Int.zero_add, Nat.zero_add, Nat.add_zero, List.drop_zero, List.take_zero, Nat.zero_le,  Nat.reduceBEq, Nat.reduceLeDiff, Nat.reduceLT, Int.natCast_zero, Int.natCast_one, Int.reduceBEq, Int.reduceLT, Int.reduceLE, Int.reduceAdd, Int.reduceSub, b_t, b_f, Bool.not_true, Bool.not_false, Bool.true_and, Bool.and_true, Bool.false_and, Bool.and_false, decide_true, decide_false, wr64, asNat_cast, asNat_zero, asNat_one, and_true, true_and, List.cons_append, List.nil_append, List.getElem?_cons_zero, List.getElem?_cons_succ, List.getElem?_nil, resOf, seqO, resOne, getA_app, Option.some.injEq, reduceCtorEq, Bool.false_eq_true, Bool.true_eq_false, if_false, if_true, List.append_nil, castS, castA, castP, castM, ite_some, at_app, set_app, at_map_app, set_map_app, getA_zero, getA_succ, set_zero, set_succ, sliceV_osl, sliceV_sl, List.take_length, or_true, true_or, Nat.sub_zero,  elsOf, okEl, AV.cells, AV.one, List.all_cons, stE, stA, ld, ldE, cons_beq_nil, nil_beq_cons, snaps, rfs, rf, BEq.rfl, and_self, Nat.le_refl, List.length_cons, List.length_nil, g0, g1, g2, g3, g9, g10]
    rw [hsp, hq]
    refine ⟨_, snapd_osl rfl (by decide) ?_ ?_ ?_, rfl⟩
    · simp
    · have e : (List.map AV.str done ++ [AV.str s']).length = done.length + 1 := by simp
      simp only [List.drop_zero, ← hd, Nat.sub_self, List.replicate_zero]
      rw [← e, List.take_length]; simp
    · exact rfs_str _
theorem p29 (s : List UInt8) (b : UInt8) (hs : s.length ≤ 1073741824) : PureTo EC 29 [.str s, .str [b]] (.sl false 1 ((splitB b s).map .str)) := by
  refine pure_go1 (res := [(.tmp 4)]) k29 rfl rfl ?_
  obtain ⟨r, h1, rfl⟩ := p45 s b hs
  simp (disch := first | assumption | omega) only [Ends_nil, Ends_ret, Ends_skip, Ends_label, Ends_inBlock, Ends_seq, Ends_block, Ends_exit, EExit_some, exitC, Ends_cond, ECond_true, ECond_false, Ends_reg, EndsR_nil, EndsR_cons, EG_true, EG_false, EBnd_some, EOp_callF, EOp_callP0, EOp_callP, EOp_callV, Ends_dreg, EndsD_nil, EndsD_cons, DG_true, DG_false, DBnd_some, DOp_callF, DOp_callP0, DOp_callP, ERes_some, EOp_mv, DOp_mv, EOp_nilCheck, DOp_nilCheck, EOp_pick, DOp_pick, EOp_alloc, DOp_alloc, EOp_box, DOp_box, EOp_build, DOp_build, EOp_bsl, DOp_bsl, EOp_load, DOp_load, EOp_store, DOp_store, EOp_bin, DOp_bin, EOp_eqs, DOp_eqs, EOp_un, DOp_un, EOp_conv, DOp_conv, EOp_fld, DOp_fld, EOp_part, DOp_part, EOp_idxS, DOp_idxS, EOp_idxA, DOp_idxA, EOp_idxStr, DOp_idxStr, EOp_idxAgg, DOp_idxAgg, EOp_sliceStr, DOp_sliceStr, EOp_slice, DOp_slice, EOp_sliceArr, DOp_sliceArr, EOp_extract, DOp_extract, EOp_len, DOp_len, EOp_cap, DOp_cap, EOp_append, DOp_append, EOp_appendZ, DOp_appendZ, EOp_copy, DOp_copy, EOp_mm, DOp_mm, EOp_mkSlice, DOp_mkSlice, EOp_mkFn, DOp_mkFn, EOp_lookup, DOp_lookup, EOp_rangeS, DOp_rangeS, EOp_nextS, DOp_nextS, EOp_iface, DOp_iface, wantedA, evOp, opd, putO, bnd, get_put_if, ↓reduceIte, get_cons_zero, get_cons_succ, get_nil, ckPlain, List.all_nil, evC, List.getLastD_cons, List.getLastD_nil, List.map_cons, List.map_nil, Option.map_some, Option.bind_some, Option.map_none, Option.bind_none, binE, bin, sBin, iBin, eqB, bBin, un, conv, Nat.reduceEqDiff, Nat.reduceAdd, Nat.add_sub_cancel, Int.add_zero, Int.zero_add, Nat.zero_add, Nat.add_zero, List.drop_zero, List.take_zero, Nat.zero_le,  Nat.reduceBEq, Nat.reduceLeDiff, Nat.reduceLT, Int.natCast_zero, Int.natCast_one, Int.reduceBEq, Int.reduceLT, Int.reduceLE, Int.reduceAdd, Int.reduceSub, b_t, b_f, Bool.not_true, Bool.not_false, Bool.true_and, Bool.and_true, Bool.false_and, Bool.and_false, decide_true, decide_false, wr64, asNat_cast, asNat_zero, asNat_one, and_true, true_and, List.cons_append, List.nil_append, List.getElem?_cons_zero, List.getElem?_cons_succ, List.getElem?_nil, resOf, seqO, resOne, getA_app, Option.some.injEq, reduceCtorEq, Bool.false_eq_true, Bool.true_eq_false, if_false, if_true, List.append_nil, castS, castA, castP, castM, ite_some, at_app, set_app, at_map_app, set_map_app, getA_zero, getA_succ, set_zero, set_succ, sliceV_osl, sliceV_sl, List.take_length, or_true, true_or, Nat.sub_zero,  elsOf, okEl, AV.cells, AV.one, List.all_cons, stE, stA, ld, ldE, cons_beq_nil, nil_beq_cons, snaps, rfs, rf, BEq.rfl, and_self, Nat.le_refl, List.length_cons, List.length_nil]
  refine ECallP.some h1 ?_
  simp (disch := first | assumption | omega) only [Ends_nil, Ends_ret, Ends_skip, Ends_label, Ends_inBlock, Ends_seq, Ends_block, Ends_exit, EExit_some, exitC, Ends_cond, ECond_true, ECond_false, Ends_reg, EndsR_nil, EndsR_cons, EG_true, EG_false, EBnd_some, EOp_callF, EOp_callP0, EOp_callP, EOp_callV, Ends_dreg, EndsD_nil, EndsD_cons, DG_true, DG_false, DBnd_some, DOp_callF, DOp_callP0, DOp_callP, ERes_some, EOp_mv, DOp_mv, EOp_nilCheck, DOp_nilCheck, EOp_pick, DOp_pick, EOp_alloc, DOp_alloc, EOp_box, DOp_box, EOp_build, DOp_build, EOp_bsl, DOp_bsl, EOp_load, DOp_load, EOp_store, DOp_store, EOp_bin, DOp_bin, EOp_eqs, DOp_eqs, EOp_un, DOp_un, EOp_conv, DOp_conv, EOp_fld, DOp_fld, EOp_part, DOp_part, EOp_idxS, DOp_idxS, EOp_idxA, DOp_idxA, EOp_idxStr, DOp_idxStr, EOp_idxAgg, DOp_idxAgg, EOp_sliceStr, DOp_sliceStr, EOp_slice, DOp_slice, EOp_sliceArr, DOp_sliceArr, EOp_extract, DOp_extract, EOp_len, DOp_len, EOp_cap, DOp_cap, EOp_append, DOp_append, EOp_appendZ, DOp_appendZ, EOp_copy, DOp_copy, EOp_mm, DOp_mm, EOp_mkSlice, DOp_mkSlice, EOp_mkFn, DOp_mkFn, EOp_lookup, DOp_lookup, EOp_rangeS, DOp_rangeS, EOp_nextS, DOp_nextS, EOp_iface, DOp_iface, wantedA, evOp, opd, putO, bnd, get_put_if, ↓reduceIte, get_cons_zero, get_cons_succ, get_nil, ckPlain, List.all_nil, evC, List.getLastD_cons, List.getLastD_nil, List.map_cons, List.map_nil, Option.map_some, Option.bind_some, Option.map_none, Option.bind_none, binE, bin, sBin, iBin, eqB, bBin, un, conv, Nat.reduceEqDiff, Nat.reduceAdd, Nat.add_sub_cancel, Int.add_zero, Int.zero_add, Nat.zero_add, Nat.add_zero, List.drop_zero, List.take_zero, Nat.zero_le,  Nat.reduceBEq, Nat.reduceLeDiff, Nat.reduceLT, Int.natCast_zero, Int.natCast_one, Int.reduceBEq, Int.reduceLT, Int.reduceLE, Int.reduceAdd, Int.reduceSub, b_t, b_f, Bool.not_true, Bool.not_false, Bool.true_and, Bool.and_true, Bool.false_and, Bool.and_false, decide_true, decide_false, wr64, asNat_cast, asNat_zero, asNat_one, and_true, true_and, List.cons_append, List.nil_append, List.getElem?_cons_zero, List.getElem?_cons_succ, List.getElem?_nil, resOf, seqO, resOne, getA_app, Option.some.injEq, reduceCtorEq, Bool.false_eq_true, Bool.true_eq_false, if_false, if_true, List.append_nil, castS, castA, castP, castM, ite_some, at_app, set_app, at_map_app, set_map_app, getA_zero, getA_succ, set_zero, set_succ, sliceV_osl, sliceV_sl, List.take_length, or_true, true_or, Nat.sub_zero,  elsOf, okEl, AV.cells, AV.one, List.all_cons, stE, stA, ld, ldE, cons_beq_nil, nil_beq_cons, snaps, rfs, rf, BEq.rfl, and_self, Nat.le_refl, List.length_cons, List.length_nil]
  exact snap_deep_rf (by simp only [rf]; exact rfs_str _)
theorem p13 (s : List UInt8) (hs : s.length ≤ 1073741824) : PureTo EC 13 [.str s] (.sl false 1 ((splitB 9 s).map .str)) := by
  refine pure_go1 (res := [(.tmp 2)]) k13 rfl rfl ?_
  simp (disch := first | assumption | omega) only [Ends_nil, Ends_ret, Ends_skip, Ends_label, Ends_inBlock, Ends_seq, Ends_block, Ends_exit, EExit_some, exitC, Ends_cond, ECond_true, ECond_false, Ends_reg, EndsR_nil, EndsR_cons, EG_true, EG_false, EBnd_some, EOp_callF, EOp_callP0, EOp_callP, EOp_callV, Ends_dreg, EndsD_nil, EndsD_cons, DG_true, DG_false, DBnd_some, DOp_callF, DOp_callP0, DOp_callP, ERes_some, EOp_mv, DOp_mv, EOp_nilCheck, DOp_nilCheck, EOp_pick, DOp_pick, EOp_alloc, DOp_alloc, EOp_box, DOp_box, EOp_build, DOp_build, EOp_bsl, DOp_bsl, EOp_load, DOp_load, EOp_store, DOp_store, EOp_bin, DOp_bin, EOp_eqs, DOp_eqs, EOp_un, DOp_un, EOp_conv, DOp_conv, EOp_fld, DOp_fld, EOp_part, DOp_part, EOp_idxS, DOp_idxS, EOp_idxA, DOp_idxA, EOp_idxStr, DOp_idxStr, EOp_idxAgg, DOp_idxAgg, EOp_sliceStr, DOp_sliceStr, EOp_slice, DOp_slice, EOp_sliceArr, DOp_sliceArr, EOp_extract, DOp_extract, EOp_len, DOp_len, EOp_cap, DOp_cap, EOp_append, DOp_append, EOp_appendZ, DOp_appendZ, EOp_copy, DOp_copy, EOp_mm, DOp_mm, EOp_mkSlice, DOp_mkSlice, EOp_mkFn, DOp_mkFn, EOp_lookup, DOp_lookup, EOp_rangeS, DOp_rangeS, EOp_nextS, DOp_nextS, EOp_iface, DOp_iface, wantedA, evOp, opd, putO, bnd, get_put_if, ↓reduceIte, get_cons_zero, get_cons_succ, get_nil, ckPlain, List.all_nil, evC, List.getLastD_cons, List.getLastD_nil, List.map_cons, List.map_nil, Option.map_some, Option.bind_some, Option.map_none, Option.bind_none, binE, bin, sBin, iBin, eqB, bBin, un, conv, Nat.reduceEqDiff, Nat.reduceAdd, Nat.add_sub_cancel, Int.add_zero, Int.zero_add, Nat.zero_add, Nat.add_zero, List.drop_zero, List.take_zero, Nat.zero_le,  Nat.reduceBEq, Nat.reduceLeDiff, Nat.reduceLT, Int.natCast_zero, Int.natCast_one, Int.reduceBEq, Int.reduceLT, Int.reduceLE, Int.reduceAdd, Int.reduceSub, b_t, b_f, Bool.not_true, Bool.not_false, Bool.true_and, Bool.and_true, Bool.false_and, Bool.and_false, decide_true, decide_false, wr64, asNat_cast, asNat_zero, asNat_one, and_true, true_and, List.cons_append, List.nil_append, List.getElem?_cons_zero, List.getElem?_cons_succ, List.getElem?_nil, resOf, seqO, resOne, getA_app, Option.some.injEq, reduceCtorEq, Bool.false_eq_true, Bool.true_eq_false, if_false, if_true, List.append_nil, castS, castA, castP, castM, ite_some, at_app, set_app, at_map_app, set_map_app, getA_zero, getA_succ, set_zero, set_succ, sliceV_osl, sliceV_sl, List.take_length, or_true, true_or, Nat.sub_zero,  elsOf, okEl, AV.cells, AV.one, List.all_cons, stE, stA, ld, ldE, cons_beq_nil, nil_beq_cons, snaps, rfs, rf, BEq.rfl, and_self, Nat.le_refl, List.length_cons, List.length_nil]
  refine ECallP.some (p29 s 9 hs) ?_
  simp (disch := first | assumption | omega) only [Ends_nil, Ends_ret, Ends_skip, Ends_label, Ends_inBlock, Ends_seq, Ends_block, Ends_exit, EExit_some, exitC, Ends_cond, ECond_true, ECond_false, Ends_reg, EndsR_nil, EndsR_cons, EG_true, EG_false, EBnd_some, EOp_callF, EOp_callP0, EOp_callP, EOp_callV, Ends_dreg, EndsD_nil, EndsD_cons, DG_true, DG_false, DBnd_some, DOp_callF, DOp_callP0, DOp_callP, ERes_some, EOp_mv, DOp_mv, EOp_nilCheck, DOp_nilCheck, EOp_pick, DOp_pick, EOp_alloc, DOp_alloc, EOp_box, DOp_box, EOp_build, DOp_build, EOp_bsl, DOp_bsl, EOp_load, DOp_load, EOp_store, DOp_store, EOp_bin, DOp_bin, EOp_eqs, DOp_eqs, EOp_un, DOp_un, EOp_conv, DOp_conv, EOp_fld, DOp_fld, EOp_part, DOp_part, EOp_idxS, DOp_idxS, EOp_idxA, DOp_idxA, EOp_idxStr, DOp_idxStr, EOp_idxAgg, DOp_idxAgg, EOp_sliceStr, DOp_sliceStr, EOp_slice, DOp_slice, EOp_sliceArr, DOp_sliceArr, EOp_extract, DOp_extract, EOp_len, DOp_len, EOp_cap, DOp_cap, EOp_append, DOp_append, EOp_appendZ, DOp_appendZ, EOp_copy, DOp_copy, EOp_mm, DOp_mm, EOp_mkSlice, DOp_mkSlice, EOp_mkFn, DOp_mkFn, EOp_lookup, DOp_lookup, EOp_rangeS, DOp_rangeS, EOp_nextS, DOp_nextS, EOp_iface, DOp_iface, wantedA, evOp, opd, putO, bnd, get_put_if, ↓reduceIte, get_cons_zero, get_cons_succ, get_nil, ckPlain, List.all_nil, evC, List.getLastD_cons, List.getLastD_nil, List.map_cons, List.map_nil, Option.map_some, Option.bind_some, Option.map_none, Option.bind_none, binE, bin, sBin, iBin, eqB, bBin, un, conv, Nat.reduceEqDiff, Nat.reduceAdd, Nat.add_sub_cancel, Int.add_zero, Int.zero_add, Nat.zero_add, Nat.add_zero, List.drop_zero, List.take_zero, Nat.zero_le,  Nat.reduceBEq, Nat.reduceLeDiff, Nat.reduceLT, Int.natCast_zero, Int.natCast_one, Int.reduceBEq, Int.reduceLT, Int.reduceLE, Int.reduceAdd, Int.reduceSub, b_t, b_f, Bool.not_true, Bool.not_false, Bool.true_and, Bool.and_true, Bool.false_and, Bool.and_false, decide_true, decide_false, wr64, asNat_cast, asNat_zero, asNat_one, and_true, true_and, List.cons_append, List.nil_append, List.getElem?_cons_zero, List.getElem?_cons_succ, List.getElem?_nil, resOf, seqO, resOne, getA_app, Option.some.injEq, reduceCtorEq, Bool.false_eq_true, Bool.true_eq_false, if_false, if_true, List.append_nil, castS, castA, castP, castM, ite_some, at_app, set_app, at_map_app, set_map_app, getA_zero, getA_succ, set_zero, set_succ, sliceV_osl, sliceV_sl, List.take_length, or_true, true_or, Nat.sub_zero,  elsOf, okEl, AV.cells, AV.one, List.all_cons, stE, stA, ld, ldE, cons_beq_nil, nil_beq_cons, snaps, rfs, rf, BEq.rfl, and_self, Nat.le_refl, List.length_cons, List.length_nil]
  exact snap_deep_rf (by simp only [rf]; exact rfs_str _)

theorem p5 (s : List UInt8) (hk : PureTo EC 7 [] (.bool true)) : PureTo EC 5 [.str s] (.bool true) := by
  have hsl := splitB_len 9 s
  have hcl := cnt_le 9 s
  refine pure_go1 (res := [(.tmp 2)]) k5 rfl rfl ?_
  simp (disch := first | assumption | omega) only [Ends_nil, Ends_ret, Ends_skip, Ends_label, Ends_inBlock, Ends_seq, Ends_block, Ends_exit, EExit_some, exitC, Ends_cond, ECond_true, ECond_false, Ends_reg, EndsR_nil, EndsR_cons, EG_true, EG_false, EBnd_some, EOp_callF, EOp_callP0, EOp_callP, EOp_callV, Ends_dreg, EndsD_nil, EndsD_cons, DG_true, DG_false, DBnd_some, DOp_callF, DOp_callP0, DOp_callP, ERes_some, EOp_mv, DOp_mv, EOp_nilCheck, DOp_nilCheck, EOp_pick, DOp_pick, EOp_alloc, DOp_alloc, EOp_box, DOp_box, EOp_build, DOp_build, EOp_bsl, DOp_bsl, EOp_load, DOp_load, EOp_store, DOp_store, EOp_bin, DOp_bin, EOp_eqs, DOp_eqs, EOp_un, DOp_un, EOp_conv, DOp_conv, EOp_fld, DOp_fld, EOp_part, DOp_part, EOp_idxS, DOp_idxS, EOp_idxA, DOp_idxA, EOp_idxStr, DOp_idxStr, EOp_idxAgg, DOp_idxAgg, EOp_sliceStr, DOp_sliceStr, EOp_slice, DOp_slice, EOp_sliceArr, DOp_sliceArr, EOp_extract, DOp_extract, EOp_len, DOp_len, EOp_cap, DOp_cap, EOp_append, DOp_append, EOp_appendZ, DOp_appendZ, EOp_copy, DOp_copy, EOp_mm, DOp_mm, EOp_mkSlice, DOp_mkSlice, EOp_mkFn, DOp_mkFn, EOp_lookup, DOp_lookup, EOp_rangeS, DOp_rangeS, EOp_nextS, DOp_nextS, EOp_iface, DOp_iface, wantedA, evOp, opd, putO, bnd, get_put_if, ↓reduceIte, get_cons_zero, get_cons_succ, get_nil, ckPlain, List.all_nil, evC, List.getLastD_cons, List.getLastD_nil, List.map_cons, List.map_nil, Option.map_some, Option.bind_some, Option.map_none, Option.bind_none, binE, bin, sBin, iBin, eqB, bBin, un, conv, Nat.reduceEqDiff, Nat.reduceAdd, Nat.add_sub_cancel, Int.add_zero, Int.zero_add, Nat.zero_add, Nat.add_zero, List.drop_zero, List.take_zero, Nat.zero_le,  Nat.reduceBEq, Nat.reduceLeDiff, Nat.reduceLT, Int.natCast_zero, Int.natCast_one, Int.reduceBEq, Int.reduceLT, Int.reduceLE, Int.reduceAdd, Int.reduceSub, b_t, b_f, Bool.not_true, Bool.not_false, Bool.true_and, Bool.and_true, Bool.false_and, Bool.and_false, decide_true, decide_false, wr64, asNat_cast, asNat_zero, asNat_one, and_true, true_and, List.cons_append, List.nil_append, List.getElem?_cons_zero, List.getElem?_cons_succ, List.getElem?_nil, resOf, seqO, resOne, getA_app, Option.some.injEq, reduceCtorEq, Bool.false_eq_true, Bool.true_eq_false, if_false, if_true, List.append_nil, castS, castA, castP, castM, ite_some, at_app, set_app, at_map_app, set_map_app, getA_zero, getA_succ, set_zero, set_succ, sliceV_osl, sliceV_sl, List.take_length, or_true, true_or, Nat.sub_zero,  elsOf, okEl, AV.cells, AV.one, List.all_cons, stE, stA, ld, ldE, cons_beq_nil, nil_beq_cons, snaps, rfs, rf, BEq.rfl, and_self, Nat.le_refl, List.length_cons, List.length_nil]
  refine ECond.mk (fun hb => ?_) (fun hb => ?_)
  · simp (disch := first | assumption | omega) only [Ends_nil, Ends_ret, Ends_skip, Ends_label, Ends_inBlock, Ends_seq, Ends_block, Ends_exit, EExit_some, exitC, Ends_cond, ECond_true, ECond_false, Ends_reg, EndsR_nil, EndsR_cons, EG_true, EG_false, EBnd_some, EOp_callF, EOp_callP0, EOp_callP, EOp_callV, Ends_dreg, EndsD_nil, EndsD_cons, DG_true, DG_false, DBnd_some, DOp_callF, DOp_callP0, DOp_callP, ERes_some, EOp_mv, DOp_mv, EOp_nilCheck, DOp_nilCheck, EOp_pick, DOp_pick, EOp_alloc, DOp_alloc, EOp_box, DOp_box, EOp_build, DOp_build, EOp_bsl, DOp_bsl, EOp_load, DOp_load, EOp_store, DOp_store, EOp_bin, DOp_bin, EOp_eqs, DOp_eqs, EOp_un, DOp_un, EOp_conv, DOp_conv, EOp_fld, DOp_fld, EOp_part, DOp_part, EOp_idxS, DOp_idxS, EOp_idxA, DOp_idxA, EOp_idxStr, DOp_idxStr, EOp_idxAgg, DOp_idxAgg, EOp_sliceStr, DOp_sliceStr, EOp_slice, DOp_slice, EOp_sliceArr, DOp_sliceArr, EOp_extract, DOp_extract, EOp_len, DOp_len, EOp_cap, DOp_cap, EOp_append, DOp_append, EOp_appendZ, DOp_appendZ, EOp_copy, DOp_copy, EOp_mm, DOp_mm, EOp_mkSlice, DOp_mkSlice, EOp_mkFn, DOp_mkFn, EOp_lookup, DOp_lookup, EOp_rangeS, DOp_rangeS, EOp_nextS, DOp_nextS, EOp_iface, DOp_iface, wantedA, evOp, opd, putO, bnd, get_put_if, ↓reduceIte, get_cons_zero, get_cons_succ, get_nil, ckPlain, List.all_nil, evC, List.getLastD_cons, List.getLastD_nil, List.map_cons, List.map_nil, Option.map_some, Option.bind_some, Option.map_none, Option.bind_none, binE, bin, sBin, iBin, eqB, bBin, un, conv, Nat.reduceEqDiff, Nat.reduceAdd, Nat.add_sub_cancel, Int.add_zero, Int.zero_add, Nat.zero_add, Nat.add_zero, List.drop_zero, List.take_zero, Nat.zero_le,  Nat.reduceBEq, Nat.reduceLeDiff, Nat.reduceLT, Int.natCast_zero, Int.natCast_one, Int.reduceBEq, Int.reduceLT, Int.reduceLE, Int.reduceAdd, Int.reduceSub, b_t, b_f, Bool.not_true, Bool.not_false, Bool.true_and, Bool.and_true, Bool.false_and, Bool.and_false, decide_true, decide_false, wr64, asNat_cast, asNat_zero, asNat_one, and_true, true_and, List.cons_append, List.nil_append, List.getElem?_cons_zero, List.getElem?_cons_succ, List.getElem?_nil, resOf, seqO, resOne, getA_app, Option.some.injEq, reduceCtorEq, Bool.false_eq_true, Bool.true_eq_false, if_false, if_true, List.append_nil, castS, castA, castP, castM, ite_some, at_app, set_app, at_map_app, set_map_app, getA_zero, getA_succ, set_zero, set_succ, sliceV_osl, sliceV_sl, List.take_length, or_true, true_or, Nat.sub_zero,  elsOf, okEl, AV.cells, AV.one, List.all_cons, stE, stA, ld, ldE, cons_beq_nil, nil_beq_cons, snaps, rfs, rf, BEq.rfl, and_self, Nat.le_refl, List.length_cons, List.length_nil]
    refine ECallP.some hk ?_
    simp (disch := first | assumption | omega) only [Ends_nil, Ends_ret, Ends_skip, Ends_label, Ends_inBlock, Ends_seq, Ends_block, Ends_exit, EExit_some, exitC, Ends_cond, ECond_true, ECond_false, Ends_reg, EndsR_nil, EndsR_cons, EG_true, EG_false, EBnd_some, EOp_callF, EOp_callP0, EOp_callP, EOp_callV, Ends_dreg, EndsD_nil, EndsD_cons, DG_true, DG_false, DBnd_some, DOp_callF, DOp_callP0, DOp_callP, ERes_some, EOp_mv, DOp_mv, EOp_nilCheck, DOp_nilCheck, EOp_pick, DOp_pick, EOp_alloc, DOp_alloc, EOp_box, DOp_box, EOp_build, DOp_build, EOp_bsl, DOp_bsl, EOp_load, DOp_load, EOp_store, DOp_store, EOp_bin, DOp_bin, EOp_eqs, DOp_eqs, EOp_un, DOp_un, EOp_conv, DOp_conv, EOp_fld, DOp_fld, EOp_part, DOp_part, EOp_idxS, DOp_idxS, EOp_idxA, DOp_idxA, EOp_idxStr, DOp_idxStr, EOp_idxAgg, DOp_idxAgg, EOp_sliceStr, DOp_sliceStr, EOp_slice, DOp_slice, EOp_sliceArr, DOp_sliceArr, EOp_extract, DOp_extract, EOp_len, DOp_len, EOp_cap, DOp_cap, EOp_append, DOp_append, EOp_appendZ, DOp_appendZ, EOp_copy, DOp_copy, EOp_mm, DOp_mm, EOp_mkSlice, DOp_mkSlice, EOp_mkFn, DOp_mkFn, EOp_lookup, DOp_lookup, EOp_rangeS, DOp_rangeS, EOp_nextS, DOp_nextS, EOp_iface, DOp_iface, wantedA, evOp, opd, putO, bnd, get_put_if, ↓reduceIte, get_cons_zero, get_cons_succ, get_nil, ckPlain, List.all_nil, evC, List.getLastD_cons, List.getLastD_nil, List.map_cons, List.map_nil, Option.map_some, Option.bind_some, Option.map_none, Option.bind_none, binE, bin, sBin, iBin, eqB, bBin, un, conv, Nat.reduceEqDiff, Nat.reduceAdd, Nat.add_sub_cancel, Int.add_zero, Int.zero_add, Nat.zero_add, Nat.add_zero, List.drop_zero, List.take_zero, Nat.zero_le,  Nat.reduceBEq, Nat.reduceLeDiff, Nat.reduceLT, Int.natCast_zero, Int.natCast_one, Int.reduceBEq, Int.reduceLT, Int.reduceLE, Int.reduceAdd, Int.reduceSub, b_t, b_f, Bool.not_true, Bool.not_false, Bool.true_and, Bool.and_true, Bool.false_and, Bool.and_false, decide_true, decide_false, wr64, asNat_cast, asNat_zero, asNat_one, and_true, true_and, List.cons_append, List.nil_append, List.getElem?_cons_zero, List.getElem?_cons_succ, List.getElem?_nil, resOf, seqO, resOne, getA_app, Option.some.injEq, reduceCtorEq, Bool.false_eq_true, Bool.true_eq_false, if_false, if_true, List.append_nil, castS, castA, castP, castM, ite_some, at_app, set_app, at_map_app, set_map_app, getA_zero, getA_succ, set_zero, set_succ, sliceV_osl, sliceV_sl, List.take_length, or_true, true_or, Nat.sub_zero,  elsOf, okEl, AV.cells, AV.one, List.all_cons, stE, stA, ld, ldE, cons_beq_nil, nil_beq_cons, snaps, rfs, rf, BEq.rfl, and_self, Nat.le_refl, List.length_cons, List.length_nil]
    exact snap_deep_rf rfl
  rw [decide_eq_false_iff_not] at hb
  simp (disch := first | assumption | omega) only [Ends_nil, Ends_ret, Ends_skip, Ends_label, Ends_inBlock, Ends_seq, Ends_block, Ends_exit, EExit_some, exitC, Ends_cond, ECond_true, ECond_false, Ends_reg, EndsR_nil, EndsR_cons, EG_true, EG_false, EBnd_some, EOp_callF, EOp_callP0, EOp_callP, EOp_callV, Ends_dreg, EndsD_nil, EndsD_cons, DG_true, DG_false, DBnd_some, DOp_callF, DOp_callP0, DOp_callP, ERes_some, EOp_mv, DOp_mv, EOp_nilCheck, DOp_nilCheck, EOp_pick, DOp_pick, EOp_alloc, DOp_alloc, EOp_box, DOp_box, EOp_build, DOp_build, EOp_bsl, DOp_bsl, EOp_load, DOp_load, EOp_store, DOp_store, EOp_bin, DOp_bin, EOp_eqs, DOp_eqs, EOp_un, DOp_un, EOp_conv, DOp_conv, EOp_fld, DOp_fld, EOp_part, DOp_part, EOp_idxS, DOp_idxS, EOp_idxA, DOp_idxA, EOp_idxStr, DOp_idxStr, EOp_idxAgg, DOp_idxAgg, EOp_sliceStr, DOp_sliceStr, EOp_slice, DOp_slice, EOp_sliceArr, DOp_sliceArr, EOp_extract, DOp_extract, EOp_len, DOp_len, EOp_cap, DOp_cap, EOp_append, DOp_append, EOp_appendZ, DOp_appendZ, EOp_copy, DOp_copy, EOp_mm, DOp_mm, EOp_mkSlice, DOp_mkSlice, EOp_mkFn, DOp_mkFn, EOp_lookup, DOp_lookup, EOp_rangeS, DOp_rangeS, EOp_nextS, DOp_nextS, EOp_iface, DOp_iface, wantedA, evOp, opd, putO, bnd, get_put_if, ↓reduceIte, get_cons_zero, get_cons_succ, get_nil, ckPlain, List.all_nil, evC, List.getLastD_cons, List.getLastD_nil, List.map_cons, List.map_nil, Option.map_some, Option.bind_some, Option.map_none, Option.bind_none, binE, bin, sBin, iBin, eqB, bBin, un, conv, Nat.reduceEqDiff, Nat.reduceAdd, Nat.add_sub_cancel, Int.add_zero, Int.zero_add, Nat.zero_add, Nat.add_zero, List.drop_zero, List.take_zero, Nat.zero_le,  Nat.reduceBEq, Nat.reduceLeDiff, Nat.reduceLT, Int.natCast_zero, Int.natCast_one, Int.reduceBEq, Int.reduceLT, Int.reduceLE, Int.reduceAdd, Int.reduceSub, b_t, b_f, Bool.not_true, Bool.not_false, Bool.true_and, Bool.and_true, Bool.false_and, Bool.and_false, decide_true, decide_false, wr64, asNat_cast, asNat_zero, asNat_one, and_true, true_and, List.cons_append, List.nil_append, List.getElem?_cons_zero, List.getElem?_cons_succ, List.getElem?_nil, resOf, seqO, resOne, getA_app, Option.some.injEq, reduceCtorEq, Bool.false_eq_true, Bool.true_eq_false, if_false, if_true, List.append_nil, castS, castA, castP, castM, ite_some, at_app, set_app, at_map_app, set_map_app, getA_zero, getA_succ, set_zero, set_succ, sliceV_osl, sliceV_sl, List.take_length, or_true, true_or, Nat.sub_zero,  elsOf, okEl, AV.cells, AV.one, List.all_cons, stE, stA, ld, ldE, cons_beq_nil, nil_beq_cons, snaps, rfs, rf, BEq.rfl, and_self, Nat.le_refl, List.length_cons, List.length_nil]
  refine ECallP.some (p13 s (by omega)) ?_
  simp (disch := first | assumption | omega) only [Ends_nil, Ends_ret, Ends_skip, Ends_label, Ends_inBlock, Ends_seq, Ends_block, Ends_exit, EExit_some, exitC, Ends_cond, ECond_true, ECond_false, Ends_reg, EndsR_nil, EndsR_cons, EG_true, EG_false, EBnd_some, EOp_callF, EOp_callP0, EOp_callP, EOp_callV, Ends_dreg, EndsD_nil, EndsD_cons, DG_true, DG_false, DBnd_some, DOp_callF, DOp_callP0, DOp_callP, ERes_some, EOp_mv, DOp_mv, EOp_nilCheck, DOp_nilCheck, EOp_pick, DOp_pick, EOp_alloc, DOp_alloc, EOp_box, DOp_box, EOp_build, DOp_build, EOp_bsl, DOp_bsl, EOp_load, DOp_load, EOp_store, DOp_store, EOp_bin, DOp_bin, EOp_eqs, DOp_eqs, EOp_un, DOp_un, EOp_conv, DOp_conv, EOp_fld, DOp_fld, EOp_part, DOp_part, EOp_idxS, DOp_idxS, EOp_idxA, DOp_idxA, EOp_idxStr, DOp_idxStr, EOp_idxAgg, DOp_idxAgg, EOp_sliceStr, DOp_sliceStr, EOp_slice, DOp_slice, EOp_sliceArr, DOp_sliceArr, EOp_extract, DOp_extract, EOp_len, DOp_len, EOp_cap, DOp_cap, EOp_append, DOp_append, EOp_appendZ, DOp_appendZ, EOp_copy, DOp_copy, EOp_mm, DOp_mm, EOp_mkSlice, DOp_mkSlice, EOp_mkFn, DOp_mkFn, EOp_lookup, DOp_lookup, EOp_rangeS, DOp_rangeS, EOp_nextS, DOp_nextS, EOp_iface, DOp_iface, wantedA, evOp, opd, putO, bnd, get_put_if, ↓reduceIte, get_cons_zero, get_cons_succ, get_nil, ckPlain, List.all_nil, evC, List.getLastD_cons, List.getLastD_nil, List.map_cons, List.map_nil, Option.map_some, Option.bind_some, Option.map_none, Option.bind_none, binE, bin, sBin, iBin, eqB, bBin, un, conv, Nat.reduceEqDiff, Nat.reduceAdd, Nat.add_sub_cancel, Int.add_zero, Int.zero_add, Nat.zero_add, Nat.add_zero, List.drop_zero, List.take_zero, Nat.zero_le,  Nat.reduceBEq, Nat.reduceLeDiff, Nat.reduceLT, Int.natCast_zero, Int.natCast_one, Int.reduceBEq, Int.reduceLT, Int.reduceLE, Int.reduceAdd, Int.reduceSub, b_t, b_f, Bool.not_true, Bool.not_false, Bool.true_and, Bool.and_true, Bool.false_and, Bool.and_false, decide_true, decide_false, wr64, asNat_cast, asNat_zero, asNat_one, and_true, true_and, List.cons_append, List.nil_append, List.getElem?_cons_zero, List.getElem?_cons_succ, List.getElem?_nil, resOf, seqO, resOne, getA_app, Option.some.injEq, reduceCtorEq, Bool.false_eq_true, Bool.true_eq_false, if_false, if_true, List.append_nil, castS, castA, castP, castM, ite_some, at_app, set_app, at_map_app, set_map_app, getA_zero, getA_succ, set_zero, set_succ, sliceV_osl, sliceV_sl, List.take_length, or_true, true_or, Nat.sub_zero,  elsOf, okEl, AV.cells, AV.one, List.all_cons, stE, stA, ld, ldE, cons_beq_nil, nil_beq_cons, snaps, rfs, rf, BEq.rfl, and_self, Nat.le_refl, List.length_cons, List.length_nil]
  refine Ends.cutB (fun t h => get t 0 = .str s ∧ get t 3 = .sl false 1 ((splitB 9 s).map .str) ∧ get t 4 = .str s ∧ get t 5 = .int .i64 1) ?_ ?_
  · rintro t h ⟨g0, g3, g4, g5⟩
    simp (disch := first | assumption | omega) only [Ends_nil, Ends_ret, Ends_skip, Ends_label, Ends_inBlock, Ends_seq, Ends_block, Ends_exit, EExit_some, exitC, Ends_cond, ECond_true, ECond_false, Ends_reg, EndsR_nil, EndsR_cons, EG_true, EG_false, EBnd_some, EOp_callF, EOp_callP0, EOp_callP, EOp_callV, Ends_dreg, EndsD_nil, EndsD_cons, DG_true, DG_false, DBnd_some, DOp_callF, DOp_callP0, DOp_callP, ERes_some, EOp_mv, DOp_mv, EOp_nilCheck, DOp_nilCheck, EOp_pick, DOp_pick, EOp_alloc, DOp_alloc, EOp_box, DOp_box, EOp_build, DOp_build, EOp_bsl, DOp_bsl, EOp_load, DOp_load, EOp_store, DOp_store, EOp_bin, DOp_bin, EOp_eqs, DOp_eqs, EOp_un, DOp_un, EOp_conv, DOp_conv, EOp_fld, DOp_fld, EOp_part, DOp_part, EOp_idxS, DOp_idxS, EOp_idxA, DOp_idxA, EOp_idxStr, DOp_idxStr, EOp_idxAgg, DOp_idxAgg, EOp_sliceStr, DOp_sliceStr, EOp_slice, DOp_slice, EOp_sliceArr, DOp_sliceArr, EOp_extract, DOp_extract, EOp_len, DOp_len, EOp_cap, DOp_cap, EOp_append, DOp_append, EOp_appendZ, DOp_appendZ, EOp_copy, DOp_copy, EOp_mm, DOp_mm, EOp_mkSlice, DOp_mkSlice, EOp_mkFn, DOp_mkFn, EOp_lookup, DOp_lookup, EOp_rangeS, DOp_rangeS, EOp_nextS, DOp_nextS, EOp_iface, DOp_iface, wantedA, evOp, opd, putO, bnd, get_put_if, ↓reduceIte, get_cons_zero, get_cons_succ, get_nil, ckPlain, List.all_nil, evC, List.getLastD_cons, List.getLastD_nil, List.map_cons, List.map_nil, Option.map_some, Option.bind_some, Option.map_none, Option.bind_none, binE, bin, sBin, iBin, eqB, bBin, un, conv, Nat.reduceEqDiff, Nat.reduceAdd, Nat.add_sub_cancel, Int.add_zero, Int.zero_add, Nat.zero_add, Nat.add_zero, List.drop_zero, List.take_zero, Nat.zero_le,  Nat.reduceBEq, Nat.reduceLeDiff, Nat.reduceLT, Int.natCast_zero, Int.natCast_one, Int.reduceBEq, Int.reduceLT, Int.reduceLE, Int.reduceAdd, Int.reduceSub, b_t, b_f, Bool.not_true, Bool.not_false, Bool.true_and, Bool.and_true, Bool.false_and, Bool.and_false, decide_true, decide_false, wr64, asNat_cast, asNat_zero, asNat_one, and_true, true_and, List.cons_append, List.nil_append, List.getElem?_cons_zero, List.getElem?_cons_succ, List.getElem?_nil, resOf, seqO, resOne, getA_app, Option.some.injEq, reduceCtorEq, Bool.false_eq_true, Bool.true_eq_false, if_false, if_true, List.append_nil, castS, castA, castP, castM, ite_some, at_app, set_app, at_map_app, set_map_app, getA_zero, getA_succ, set_zero, set_succ, sliceV_osl, sliceV_sl, List.take_length, or_true, true_or, Nat.sub_zero,  elsOf, okEl, AV.cells, AV.one, List.all_cons, stE, stA, ld, ldE, cons_beq_nil, nil_beq_cons, snaps, rfs, rf, BEq.rfl, and_self, Nat.le_refl, List.length_cons, List.length_nil, g0, g3, g4, g5]
    refine Ends.loop (fun m t h => ∃ k, k + m = s.length ∧ get t 0 = .str s ∧ get t 3 = .sl false 1 ((splitB 9 s).map .str) ∧ get t 4 = .str s ∧ get t 5 = .int .i64 ((cntByte 9 (s.take k) + 1 : Nat)) ∧ get t 7 = .int .i64 (k : Nat)) s.length ?_ ?_
    · refine ⟨0, by omega, ?_, ?_, ?_, ?_, ?_⟩ <;> (try simp only [get_put_if, ↓reduceIte, Nat.reduceEqDiff, get_cons_zero, get_cons_succ, get_nil, reduceCtorEq]) <;> first | assumption | simp [cntByte, g5]
    rintro m t h ⟨k, hm, g0, g3, g4, g5, g7⟩ again
    simp (disch := first | assumption | omega) only [Ends_nil, Ends_ret, Ends_skip, Ends_label, Ends_inBlock, Ends_seq, Ends_block, Ends_exit, EExit_some, exitC, Ends_cond, ECond_true, ECond_false, Ends_reg, EndsR_nil, EndsR_cons, EG_true, EG_false, EBnd_some, EOp_callF, EOp_callP0, EOp_callP, EOp_callV, Ends_dreg, EndsD_nil, EndsD_cons, DG_true, DG_false, DBnd_some, DOp_callF, DOp_callP0, DOp_callP, ERes_some, EOp_mv, DOp_mv, EOp_nilCheck, DOp_nilCheck, EOp_pick, DOp_pick, EOp_alloc, DOp_alloc, EOp_box, DOp_box, EOp_build, DOp_build, EOp_bsl, DOp_bsl, EOp_load, DOp_load, EOp_store, DOp_store, EOp_bin, DOp_bin, EOp_eqs, DOp_eqs, EOp_un, DOp_un, EOp_conv, DOp_conv, EOp_fld, DOp_fld, EOp_part, DOp_part, EOp_idxS, DOp_idxS, EOp_idxA, DOp_idxA, EOp_idxStr, DOp_idxStr, EOp_idxAgg, DOp_idxAgg, EOp_sliceStr, DOp_sliceStr, EOp_slice, DOp_slice, EOp_sliceArr, DOp_sliceArr, EOp_extract, DOp_extract, EOp_len, DOp_len, EOp_cap, DOp_cap, EOp_append, DOp_append, EOp_appendZ, DOp_appendZ, EOp_copy, DOp_copy, EOp_mm, DOp_mm, EOp_mkSlice, DOp_mkSlice, EOp_mkFn, DOp_mkFn, EOp_lookup, DOp_lookup, EOp_rangeS, DOp_rangeS, EOp_nextS, DOp_nextS, EOp_iface, DOp_iface, wantedA, evOp, opd, putO, bnd, get_put_if, ↓reduceIte, get_cons_zero, get_cons_succ, get_nil, ckPlain, List.all_nil, evC, List.getLastD_cons, List.getLastD_nil, List.map_cons, List.map_nil, Option.map_some, Option.bind_some, Option.map_none, Option.bind_none, binE, bin, sBin, iBin, eqB, bBin, un, conv, Nat.reduceEqDiff, Nat.reduceAdd, Nat.add_sub_cancel, Int.add_zero, Int.zero_add, Nat.zero_add, Nat.add_zero, List.drop_zero, List.take_zero, Nat.zero_le,  Nat.reduceBEq, Nat.reduceLeDiff, Nat.reduceLT, Int.natCast_zero, Int.natCast_one, Int.reduceBEq, Int.reduceLT, Int.reduceLE, Int.reduceAdd, Int.reduceSub, b_t, b_f, Bool.not_true, Bool.not_false, Bool.true_and, Bool.and_true, Bool.false_and, Bool.and_false, decide_true, decide_false, wr64, asNat_cast, asNat_zero, asNat_one, and_true, true_and, List.cons_append, List.nil_append, List.getElem?_cons_zero, List.getElem?_cons_succ, List.getElem?_nil, resOf, seqO, resOne, getA_app, Option.some.injEq, reduceCtorEq, Bool.false_eq_true, Bool.true_eq_false, if_false, if_true, List.append_nil, castS, castA, castP, castM, ite_some, at_app, set_app, at_map_app, set_map_app, getA_zero, getA_succ, set_zero, set_succ, sliceV_osl, sliceV_sl, List.take_length, or_true, true_or, Nat.sub_zero,  elsOf, okEl, AV.cells, AV.one, List.all_cons, stE, stA, ld, ldE, cons_beq_nil, nil_beq_cons, snaps, rfs, rf, BEq.rfl, and_self, Nat.le_refl, List.length_cons, List.length_nil, g0, g3, g4, g5, g7]
    refine ECond.mk (fun hb => ?_) (fun hb => ?_)
    · rw [decide_eq_true_eq] at hb
      have hk' : k < s.length := by omega
      have hkk : s[k]? = some s[k] := List.getElem?_eq_getElem hk'
      have hct : cntByte 9 (s.take (k + 1)) = cntByte 9 (s.take k) + if s[k] = 9 then 1 else 0 := by rw [List.take_succ_eq_append_getElem hk', cnt_snoc]
      have hc1 := cnt_le 9 (s.take k)
      have hc2 : (s.take k).length = k := by simp; omega
      simp (disch := first | assumption | omega) only [Ends_nil, Ends_ret, Ends_skip, Ends_label, Ends_inBlock, Ends_seq, Ends_block, Ends_exit, EExit_some, exitC, Ends_cond, ECond_true, ECond_false, Ends_reg, EndsR_nil, EndsR_cons, EG_true, EG_false, EBnd_some, EOp_callF, EOp_callP0, EOp_callP, EOp_callV, Ends_dreg, EndsD_nil, EndsD_cons, DG_true, DG_false, DBnd_some, DOp_callF, DOp_callP0, DOp_callP, ERes_some, EOp_mv, DOp_mv, EOp_nilCheck, DOp_nilCheck, EOp_pick, DOp_pick, EOp_alloc, DOp_alloc, EOp_box, DOp_box, EOp_build, DOp_build, EOp_bsl, DOp_bsl, EOp_load, DOp_load, EOp_store, DOp_store, EOp_bin, DOp_bin, EOp_eqs, DOp_eqs, EOp_un, DOp_un, EOp_conv, DOp_conv, EOp_fld, DOp_fld, EOp_part, DOp_part, EOp_idxS, DOp_idxS, EOp_idxA, DOp_idxA, EOp_idxStr, DOp_idxStr, EOp_idxAgg, DOp_idxAgg, EOp_sliceStr, DOp_sliceStr, EOp_slice, DOp_slice, EOp_sliceArr, DOp_sliceArr, EOp_extract, DOp_extract, EOp_len, DOp_len, EOp_cap, DOp_cap, EOp_append, DOp_append, EOp_appendZ, DOp_appendZ, EOp_copy, DOp_copy, EOp_mm, DOp_mm, EOp_mkSlice, DOp_mkSlice, EOp_mkFn, DOp_mkFn, EOp_lookup, DOp_lookup, EOp_rangeS, DOp_rangeS, EOp_nextS, DOp_nextS, EOp_iface, DOp_iface, wantedA, evOp, opd, putO, bnd, get_put_if, ↓reduceIte, get_cons_zero, get_cons_succ, get_nil, ckPlain, List.all_nil, evC, List.getLastD_cons, List.getLastD_nil, List.map_cons, List.map_nil, Option.map_some, Option.bind_some, Option.map_none, Option.bind_none, binE, bin, sBin, iBin, eqB, bBin, un, conv, Nat.reduceEqDiff, Nat.reduceAdd, Nat.add_sub_cancel, Int.add_zero, Int.zero_add, Nat.zero_add, Nat.add_zero, List.drop_zero, List.take_zero, Nat.zero_le,  Nat.reduceBEq, Nat.reduceLeDiff, Nat.reduceLT, Int.natCast_zero, Int.natCast_one, Int.reduceBEq, Int.reduceLT, Int.reduceLE, Int.reduceAdd, Int.reduceSub, b_t, b_f, Bool.not_true, Bool.not_false, Bool.true_and, Bool.and_true, Bool.false_and, Bool.and_false, decide_true, decide_false, wr64, asNat_cast, asNat_zero, asNat_one, and_true, true_and, List.cons_append, List.nil_append, List.getElem?_cons_zero, List.getElem?_cons_succ, List.getElem?_nil, resOf, seqO, resOne, getA_app, Option.some.injEq, reduceCtorEq, Bool.false_eq_true, Bool.true_eq_false, if_false, if_true, List.append_nil, castS, castA, castP, castM, ite_some, at_app, set_app, at_map_app, set_map_app, getA_zero, getA_succ, set_zero, set_succ, sliceV_osl, sliceV_sl, List.take_length, or_true, true_or, Nat.sub_zero,  elsOf, okEl, AV.cells, AV.one, List.all_cons, stE, stA, ld, ldE, cons_beq_nil, nil_beq_cons, snaps, rfs, rf, BEq.rfl, and_self, Nat.le_refl, List.length_cons, List.length_nil, g0, g3, g4, g5, g7, hkk, byteAV]
      rw [show ((s[k].toNat : Int) == 9) = (s[k] == 9) from toNat_beq s[k] 9]
      refine ECond.mk (fun hb => ?_) (fun hb => ?_)
      · have : s[k] = 9 := by simpa using hb
        simp (disch := first | assumption | omega) only [Ends_nil, Ends_ret, Ends_skip, Ends_label, Ends_inBlock, Ends_seq, Ends_block, Ends_exit, EExit_some, exitC, Ends_cond, ECond_true, ECond_false, Ends_reg, EndsR_nil, EndsR_cons, EG_true, EG_false, EBnd_some, EOp_callF, EOp_callP0, EOp_callP, EOp_callV, Ends_dreg, EndsD_nil, EndsD_cons, DG_true, DG_false, DBnd_some, DOp_callF, DOp_callP0, DOp_callP, ERes_some, EOp_mv, DOp_mv, EOp_nilCheck, DOp_nilCheck, EOp_pick, DOp_pick, EOp_alloc, DOp_alloc, EOp_box, DOp_box, EOp_build, DOp_build, EOp_bsl, DOp_bsl, EOp_load, DOp_load, EOp_store, DOp_store, EOp_bin, DOp_bin, EOp_eqs, DOp_eqs, EOp_un, DOp_un, EOp_conv, DOp_conv, EOp_fld, DOp_fld, EOp_part, DOp_part, EOp_idxS, DOp_idxS, EOp_idxA, DOp_idxA, EOp_idxStr, DOp_idxStr, EOp_idxAgg, DOp_idxAgg, EOp_sliceStr, DOp_sliceStr, EOp_slice, DOp_slice, EOp_sliceArr, DOp_sliceArr, EOp_extract, DOp_extract, EOp_len, DOp_len, EOp_cap, DOp_cap, EOp_append, DOp_append, EOp_appendZ, DOp_appendZ, EOp_copy, DOp_copy, EOp_mm, DOp_mm, EOp_mkSlice, DOp_mkSlice, EOp_mkFn, DOp_mkFn, EOp_lookup, DOp_lookup, EOp_rangeS, DOp_rangeS, EOp_nextS, DOp_nextS, EOp_iface, DOp_iface, wantedA, evOp, opd, putO, bnd, get_put_if, ↓reduceIte, get_cons_zero, get_cons_succ, get_nil, ckPlain, List.all_nil, evC, List.getLastD_cons, List.getLastD_nil, List.map_cons, List.map_nil, Option.map_some, Option.bind_some, Option.map_none, Option.bind_none, binE, bin, sBin, iBin, eqB, bBin, un, conv, Nat.reduceEqDiff, Nat.reduceAdd, Nat.add_sub_cancel, Int.add_zero, Int.zero_add, Nat.zero_add, Nat.add_zero, List.drop_zero, List.take_zero, Nat.zero_le,  Nat.reduceBEq, Nat.reduceLeDiff, Nat.reduceLT, Int.natCast_zero, Int.natCast_one, Int.reduceBEq, Int.reduceLT, Int.reduceLE, Int.reduceAdd, Int.reduceSub, b_t, b_f, Bool.not_true, Bool.not_false, Bool.true_and, Bool.and_true, Bool.false_and, Bool.and_false, decide_true, decide_false, wr64, asNat_cast, asNat_zero, asNat_one, and_true, true_and, List.cons_append, List.nil_append, List.getElem?_cons_zero, List.getElem?_cons_succ, List.getElem?_nil, resOf, seqO, resOne, getA_app, Option.some.injEq, reduceCtorEq, Bool.false_eq_true, Bool.true_eq_false, if_false, if_true, List.append_nil, castS, castA, castP, castM, ite_some, at_app, set_app, at_map_app, set_map_app, getA_zero, getA_succ, set_zero, set_succ, sliceV_osl, sliceV_sl, List.take_length, or_true, true_or, Nat.sub_zero,  elsOf, okEl, AV.cells, AV.one, List.all_cons, stE, stA, ld, ldE, cons_beq_nil, nil_beq_cons, snaps, rfs, rf, BEq.rfl, and_self, Nat.le_refl, List.length_cons, List.length_nil, g0, g3, g4, g5, g7]
        refine again (m - 1) _ _ (by omega) ⟨k + 1, by omega, ?_, ?_, ?_, ?_, ?_⟩ <;> (try simp only [get_put_if, ↓reduceIte, Nat.reduceEqDiff, get_cons_zero, get_cons_succ, get_nil, reduceCtorEq]) <;> first | assumption | simp [hct, this]
      · have : ¬ s[k] = 9 := by simpa using hb
        simp (disch := first | assumption | omega) only [Ends_nil, Ends_ret, Ends_skip, Ends_label, Ends_inBlock, Ends_seq, Ends_block, Ends_exit, EExit_some, exitC, Ends_cond, ECond_true, ECond_false, Ends_reg, EndsR_nil, EndsR_cons, EG_true, EG_false, EBnd_some, EOp_callF, EOp_callP0, EOp_callP, EOp_callV, Ends_dreg, EndsD_nil, EndsD_cons, DG_true, DG_false, DBnd_some, DOp_callF, DOp_callP0, DOp_callP, ERes_some, EOp_mv, DOp_mv, EOp_nilCheck, DOp_nilCheck, EOp_pick, DOp_pick, EOp_alloc, DOp_alloc, EOp_box, DOp_box, EOp_build, DOp_build, EOp_bsl, DOp_bsl, EOp_load, DOp_load, EOp_store, DOp_store, EOp_bin, DOp_bin, EOp_eqs, DOp_eqs, EOp_un, DOp_un, EOp_conv, DOp_conv, EOp_fld, DOp_fld, EOp_part, DOp_part, EOp_idxS, DOp_idxS, EOp_idxA, DOp_idxA, EOp_idxStr, DOp_idxStr, EOp_idxAgg, DOp_idxAgg, EOp_sliceStr, DOp_sliceStr, EOp_slice, DOp_slice, EOp_sliceArr, DOp_sliceArr, EOp_extract, DOp_extract, EOp_len, DOp_len, EOp_cap, DOp_cap, EOp_append, DOp_append, EOp_appendZ, DOp_appendZ, EOp_copy, DOp_copy, EOp_mm, DOp_mm, EOp_mkSlice, DOp_mkSlice, EOp_mkFn, DOp_mkFn, EOp_lookup, DOp_lookup, EOp_rangeS, DOp_rangeS, EOp_nextS, DOp_nextS, EOp_iface, DOp_iface, wantedA, evOp, opd, putO, bnd, get_put_if, ↓reduceIte, get_cons_zero, get_cons_succ, get_nil, ckPlain, List.all_nil, evC, List.getLastD_cons, List.getLastD_nil, List.map_cons, List.map_nil, Option.map_some, Option.bind_some, Option.map_none, Option.bind_none, binE, bin, sBin, iBin, eqB, bBin, un, conv, Nat.reduceEqDiff, Nat.reduceAdd, Nat.add_sub_cancel, Int.add_zero, Int.zero_add, Nat.zero_add, Nat.add_zero, List.drop_zero, List.take_zero, Nat.zero_le,  Nat.reduceBEq, Nat.reduceLeDiff, Nat.reduceLT, Int.natCast_zero, Int.natCast_one, Int.reduceBEq, Int.reduceLT, Int.reduceLE, Int.reduceAdd, Int.reduceSub, b_t, b_f, Bool.not_true, Bool.not_false, Bool.true_and, Bool.and_true, Bool.false_and, Bool.and_false, decide_true, decide_false, wr64, asNat_cast, asNat_zero, asNat_one, and_true, true_and, List.cons_append, List.nil_append, List.getElem?_cons_zero, List.getElem?_cons_succ, List.getElem?_nil, resOf, seqO, resOne, getA_app, Option.some.injEq, reduceCtorEq, Bool.false_eq_true, Bool.true_eq_false, if_false, if_true, List.append_nil, castS, castA, castP, castM, ite_some, at_app, set_app, at_map_app, set_map_app, getA_zero, getA_succ, set_zero, set_succ, sliceV_osl, sliceV_sl, List.take_length, or_true, true_or, Nat.sub_zero,  elsOf, okEl, AV.cells, AV.one, List.all_cons, stE, stA, ld, ldE, cons_beq_nil, nil_beq_cons, snaps, rfs, rf, BEq.rfl, and_self, Nat.le_refl, List.length_cons, List.length_nil, g0, g3, g4, g5, g7]
        refine again (m - 1) _ _ (by omega) ⟨k + 1, by omega, ?_, ?_, ?_, ?_, ?_⟩ <;> (try simp only [get_put_if, ↓reduceIte, Nat.reduceEqDiff, get_cons_zero, get_cons_succ, get_nil, reduceCtorEq]) <;> first | assumption | simp [hct, this, g5]
    · rw [decide_eq_false_iff_not] at hb
      have hk' : k = s.length := by omega
      subst hk'
      simp (disch := first | assumption | omega) only [Ends_nil, Ends_ret, Ends_skip, Ends_label, Ends_inBlock, Ends_seq, Ends_block, Ends_exit, EExit_some, exitC, Ends_cond, ECond_true, ECond_false, Ends_reg, EndsR_nil, EndsR_cons, EG_true, EG_false, EBnd_some, EOp_callF, EOp_callP0, EOp_callP, EOp_callV, Ends_dreg, EndsD_nil, EndsD_cons, DG_true, DG_false, DBnd_some, DOp_callF, DOp_callP0, DOp_callP, ERes_some, EOp_mv, DOp_mv, EOp_nilCheck, DOp_nilCheck, EOp_pick, DOp_pick, EOp_alloc, DOp_alloc, EOp_box, DOp_box, EOp_build, DOp_build, EOp_bsl, DOp_bsl, EOp_load, DOp_load, EOp_store, DOp_store, EOp_bin, DOp_bin, EOp_eqs, DOp_eqs, EOp_un, DOp_un, EOp_conv, DOp_conv, EOp_fld, DOp_fld, EOp_part, DOp_part, EOp_idxS, DOp_idxS, EOp_idxA, DOp_idxA, EOp_idxStr, DOp_idxStr, EOp_idxAgg, DOp_idxAgg, EOp_sliceStr, DOp_sliceStr, EOp_slice, DOp_slice, EOp_sliceArr, DOp_sliceArr, EOp_extract, DOp_extract, EOp_len, DOp_len, EOp_cap, DOp_cap, EOp_append, DOp_append, EOp_appendZ, DOp_appendZ, EOp_copy, DOp_copy, EOp_mm, DOp_mm, EOp_mkSlice, DOp_mkSlice, EOp_mkFn, DOp_mkFn, EOp_lookup, DOp_lookup, EOp_rangeS, DOp_rangeS, EOp_nextS, DOp_nextS, EOp_iface, DOp_iface, wantedA, evOp, opd, putO, bnd, get_put_if, ↓reduceIte, get_cons_zero, get_cons_succ, get_nil, ckPlain, List.all_nil, evC, List.getLastD_cons, List.getLastD_nil, List.map_cons, List.map_nil, Option.map_some, Option.bind_some, Option.map_none, Option.bind_none, binE, bin, sBin, iBin, eqB, bBin, un, conv, Nat.reduceEqDiff, Nat.reduceAdd, Nat.add_sub_cancel, Int.add_zero, Int.zero_add, Nat.zero_add, Nat.add_zero, List.drop_zero, List.take_zero, Nat.zero_le,  Nat.reduceBEq, Nat.reduceLeDiff, Nat.reduceLT, Int.natCast_zero, Int.natCast_one, Int.reduceBEq, Int.reduceLT, Int.reduceLE, Int.reduceAdd, Int.reduceSub, b_t, b_f, Bool.not_true, Bool.not_false, Bool.true_and, Bool.and_true, Bool.false_and, Bool.and_false, decide_true, decide_false, wr64, asNat_cast, asNat_zero, asNat_one, and_true, true_and, List.cons_append, List.nil_append, List.getElem?_cons_zero, List.getElem?_cons_succ, List.getElem?_nil, resOf, seqO, resOne, getA_app, Option.some.injEq, reduceCtorEq, Bool.false_eq_true, Bool.true_eq_false, if_false, if_true, List.append_nil, castS, castA, castP, castM, ite_some, at_app, set_app, at_map_app, set_map_app, getA_zero, getA_succ, set_zero, set_succ, sliceV_osl, sliceV_sl, List.take_length, or_true, true_or, Nat.sub_zero,  elsOf, okEl, AV.cells, AV.one, List.all_cons, stE, stA, ld, ldE, cons_beq_nil, nil_beq_cons, snaps, rfs, rf, BEq.rfl, and_self, Nat.le_refl, List.length_cons, List.length_nil, g0, g3, g4, g5, g7, List.length_map, hsl]
      refine ECallP.some hk ?_
      simp (disch := first | assumption | omega) only [Ends_nil, Ends_ret, Ends_skip, Ends_label, Ends_inBlock, Ends_seq, Ends_block, Ends_exit, EExit_some, exitC, Ends_cond, ECond_true, ECond_false, Ends_reg, EndsR_nil, EndsR_cons, EG_true, EG_false, EBnd_some, EOp_callF, EOp_callP0, EOp_callP, EOp_callV, Ends_dreg, EndsD_nil, EndsD_cons, DG_true, DG_false, DBnd_some, DOp_callF, DOp_callP0, DOp_callP, ERes_some, EOp_mv, DOp_mv, EOp_nilCheck, DOp_nilCheck, EOp_pick, DOp_pick, EOp_alloc, DOp_alloc, EOp_box, DOp_box, EOp_build, DOp_build, EOp_bsl, DOp_bsl, EOp_load, DOp_load, EOp_store, DOp_store, EOp_bin, DOp_bin, EOp_eqs, DOp_eqs, EOp_un, DOp_un, EOp_conv, DOp_conv, EOp_fld, DOp_fld, EOp_part, DOp_part, EOp_idxS, DOp_idxS, EOp_idxA, DOp_idxA, EOp_idxStr, DOp_idxStr, EOp_idxAgg, DOp_idxAgg, EOp_sliceStr, DOp_sliceStr, EOp_slice, DOp_slice, EOp_sliceArr, DOp_sliceArr, EOp_extract, DOp_extract, EOp_len, DOp_len, EOp_cap, DOp_cap, EOp_append, DOp_append, EOp_appendZ, DOp_appendZ, EOp_copy, DOp_copy, EOp_mm, DOp_mm, EOp_mkSlice, DOp_mkSlice, EOp_mkFn, DOp_mkFn, EOp_lookup, DOp_lookup, EOp_rangeS, DOp_rangeS, EOp_nextS, DOp_nextS, EOp_iface, DOp_iface, wantedA, evOp, opd, putO, bnd, get_put_if, ↓reduceIte, get_cons_zero, get_cons_succ, get_nil, ckPlain, List.all_nil, evC, List.getLastD_cons, List.getLastD_nil, List.map_cons, List.map_nil, Option.map_some, Option.bind_some, Option.map_none, Option.bind_none, binE, bin, sBin, iBin, eqB, bBin, un, conv, Nat.reduceEqDiff, Nat.reduceAdd, Nat.add_sub_cancel, Int.add_zero, Int.zero_add, Nat.zero_add, Nat.add_zero, List.drop_zero, List.take_zero, Nat.zero_le,  Nat.reduceBEq, Nat.reduceLeDiff, Nat.reduceLT, Int.natCast_zero, Int.natCast_one, Int.reduceBEq, Int.reduceLT, Int.reduceLE, Int.reduceAdd, Int.reduceSub, b_t, b_f, Bool.not_true, Bool.not_false, Bool.true_and, Bool.and_true, Bool.false_and, Bool.and_false, decide_true, decide_false, wr64, asNat_cast, asNat_zero, asNat_one, and_true, true_and, List.cons_append, List.nil_append, List.getElem?_cons_zero, List.getElem?_cons_succ, List.getElem?_nil, resOf, seqO, resOne, getA_app, Option.some.injEq, reduceCtorEq, Bool.false_eq_true, Bool.true_eq_false, if_false, if_true, List.append_nil, castS, castA, castP, castM, ite_some, at_app, set_app, at_map_app, set_map_app, getA_zero, getA_succ, set_zero, set_succ, sliceV_osl, sliceV_sl, List.take_length, or_true, true_or, Nat.sub_zero,  elsOf, okEl, AV.cells, AV.one, List.all_cons, stE, stA, ld, ldE, cons_beq_nil, nil_beq_cons, snaps, rfs, rf, BEq.rfl, and_self, Nat.le_refl, List.length_cons, List.length_nil]
      exact snap_deep_rf rfl
  intro b' cont
  refine Ends.loop (fun m t h => ∃ done todo, done ++ todo = splitB 9 s ∧ m = todo.length ∧ get t 0 = .str s ∧ get t 3 = .sl false 1 ((splitB 9 s).map .str) ∧ get t 4 = .str (jn 9 done) ∧ get t 5 = .int .i64 1 ∧ get t 6 = .int .i64 (done.length : Nat)) (splitB 9 s).length ?_ ?_
  · refine ⟨[], splitB 9 s, rfl, rfl, ?_, ?_, ?_, ?_, ?_⟩ <;> (try simp only [get_put_if, ↓reduceIte, Nat.reduceEqDiff, get_cons_zero, get_cons_succ, get_nil, reduceCtorEq]) <;> rfl
  rintro m t h ⟨done, todo, hd, hm, g0, g3, g4, g5, g6⟩ again
  have hdl : done.length + todo.length = (splitB 9 s).length := by rw [← hd]; simp
  simp (disch := first | assumption | omega) only [Ends_nil, Ends_ret, Ends_skip, Ends_label, Ends_inBlock, Ends_seq, Ends_block, Ends_exit, EExit_some, exitC, Ends_cond, ECond_true, ECond_false, Ends_reg, EndsR_nil, EndsR_cons, EG_true, EG_false, EBnd_some, EOp_callF, EOp_callP0, EOp_callP, EOp_callV, Ends_dreg, EndsD_nil, EndsD_cons, DG_true, DG_false, DBnd_some, DOp_callF, DOp_callP0, DOp_callP, ERes_some, EOp_mv, DOp_mv, EOp_nilCheck, DOp_nilCheck, EOp_pick, DOp_pick, EOp_alloc, DOp_alloc, EOp_box, DOp_box, EOp_build, DOp_build, EOp_bsl, DOp_bsl, EOp_load, DOp_load, EOp_store, DOp_store, EOp_bin, DOp_bin, EOp_eqs, DOp_eqs, EOp_un, DOp_un, EOp_conv, DOp_conv, EOp_fld, DOp_fld, EOp_part, DOp_part, EOp_idxS, DOp_idxS, EOp_idxA, DOp_idxA, EOp_idxStr, DOp_idxStr, EOp_idxAgg, DOp_idxAgg, EOp_sliceStr, DOp_sliceStr, EOp_slice, DOp_slice, EOp_sliceArr, DOp_sliceArr, EOp_extract, DOp_extract, EOp_len, DOp_len, EOp_cap, DOp_cap, EOp_append, DOp_append, EOp_appendZ, DOp_appendZ, EOp_copy, DOp_copy, EOp_mm, DOp_mm, EOp_mkSlice, DOp_mkSlice, EOp_mkFn, DOp_mkFn, EOp_lookup, DOp_lookup, EOp_rangeS, DOp_rangeS, EOp_nextS, DOp_nextS, EOp_iface, DOp_iface, wantedA, evOp, opd, putO, bnd, get_put_if, ↓reduceIte, get_cons_zero, get_cons_succ, get_nil, ckPlain, List.all_nil, evC, List.getLastD_cons, List.getLastD_nil, List.map_cons, List.map_nil, Option.map_some, Option.bind_some, Option.map_none, Option.bind_none, binE, bin, sBin, iBin, eqB, bBin, un, conv, Nat.reduceEqDiff, Nat.reduceAdd, Nat.add_sub_cancel, Int.add_zero, Int.zero_add, Nat.zero_add, Nat.add_zero, List.drop_zero, List.take_zero, Nat.zero_le,  Nat.reduceBEq, Nat.reduceLeDiff, Nat.reduceLT, Int.natCast_zero, Int.natCast_one, Int.reduceBEq, Int.reduceLT, Int.reduceLE, Int.reduceAdd, Int.reduceSub, b_t, b_f, Bool.not_true, Bool.not_false, Bool.true_and, Bool.and_true, Bool.false_and, Bool.and_false, decide_true, decide_false, wr64, asNat_cast, asNat_zero, asNat_one, and_true, true_and, List.cons_append, List.nil_append, List.getElem?_cons_zero, List.getElem?_cons_succ, List.getElem?_nil, resOf, seqO, resOne, getA_app, Option.some.injEq, reduceCtorEq, Bool.false_eq_true, Bool.true_eq_false, if_false, if_true, List.append_nil, castS, castA, castP, castM, ite_some, at_app, set_app, at_map_app, set_map_app, getA_zero, getA_succ, set_zero, set_succ, sliceV_osl, sliceV_sl, List.take_length, or_true, true_or, Nat.sub_zero,  elsOf, okEl, AV.cells, AV.one, List.all_cons, stE, stA, ld, ldE, cons_beq_nil, nil_beq_cons, snaps, rfs, rf, BEq.rfl, and_self, Nat.le_refl, List.length_cons, List.length_nil, g0, g3, g4, g5, g6, List.length_map]
  refine ECond.mk (fun hb => ?_) (fun hb => ?_)
  · rw [decide_eq_true_eq] at hb
    cases todo with
    | nil => simp at hdl; omega
    | cons x todo =>
      have hx : (splitB 9 s)[done.length]? = some x := by rw [← hd]; simp
      have hj := jn_len 9 (done ++ [x]) todo
      rw [List.append_assoc, List.singleton_append, hd, jn_split] at hj
      simp (disch := first | assumption | omega) only [Ends_nil, Ends_ret, Ends_skip, Ends_label, Ends_inBlock, Ends_seq, Ends_block, Ends_exit, EExit_some, exitC, Ends_cond, ECond_true, ECond_false, Ends_reg, EndsR_nil, EndsR_cons, EG_true, EG_false, EBnd_some, EOp_callF, EOp_callP0, EOp_callP, EOp_callV, Ends_dreg, EndsD_nil, EndsD_cons, DG_true, DG_false, DBnd_some, DOp_callF, DOp_callP0, DOp_callP, ERes_some, EOp_mv, DOp_mv, EOp_nilCheck, DOp_nilCheck, EOp_pick, DOp_pick, EOp_alloc, DOp_alloc, EOp_box, DOp_box, EOp_build, DOp_build, EOp_bsl, DOp_bsl, EOp_load, DOp_load, EOp_store, DOp_store, EOp_bin, DOp_bin, EOp_eqs, DOp_eqs, EOp_un, DOp_un, EOp_conv, DOp_conv, EOp_fld, DOp_fld, EOp_part, DOp_part, EOp_idxS, DOp_idxS, EOp_idxA, DOp_idxA, EOp_idxStr, DOp_idxStr, EOp_idxAgg, DOp_idxAgg, EOp_sliceStr, DOp_sliceStr, EOp_slice, DOp_slice, EOp_sliceArr, DOp_sliceArr, EOp_extract, DOp_extract, EOp_len, DOp_len, EOp_cap, DOp_cap, EOp_append, DOp_append, EOp_appendZ, DOp_appendZ, EOp_copy, DOp_copy, EOp_mm, DOp_mm, EOp_mkSlice, DOp_mkSlice, EOp_mkFn, DOp_mkFn, EOp_lookup, DOp_lookup, EOp_rangeS, DOp_rangeS, EOp_nextS, DOp_nextS, EOp_iface, DOp_iface, wantedA, evOp, opd, putO, bnd, get_put_if, ↓reduceIte, get_cons_zero, get_cons_succ, get_nil, ckPlain, List.all_nil, evC, List.getLastD_cons, List.getLastD_nil, List.map_cons, List.map_nil, Option.map_some, Option.bind_some, Option.map_none, Option.bind_none, binE, bin, sBin, iBin, eqB, bBin, un, conv, Nat.reduceEqDiff, Nat.reduceAdd, Nat.add_sub_cancel, Int.add_zero, Int.zero_add, Nat.zero_add, Nat.add_zero, List.drop_zero, List.take_zero, Nat.zero_le,  Nat.reduceBEq, Nat.reduceLeDiff, Nat.reduceLT, Int.natCast_zero, Int.natCast_one, Int.reduceBEq, Int.reduceLT, Int.reduceLE, Int.reduceAdd, Int.reduceSub, b_t, b_f, Bool.not_true, Bool.not_false, Bool.true_and, Bool.and_true, Bool.false_and, Bool.and_false, decide_true, decide_false, wr64, asNat_cast, asNat_zero, asNat_one, and_true, true_and, List.cons_append, List.nil_append, List.getElem?_cons_zero, List.getElem?_cons_succ, List.getElem?_nil, resOf, seqO, resOne, getA_app, Option.some.injEq, reduceCtorEq, Bool.false_eq_true, Bool.true_eq_false, if_false, if_true, List.append_nil, castS, castA, castP, castM, ite_some, at_app, set_app, at_map_app, set_map_app, getA_zero, getA_succ, set_zero, set_succ, sliceV_osl, sliceV_sl, List.take_length, or_true, true_or, Nat.sub_zero,  elsOf, okEl, AV.cells, AV.one, List.all_cons, stE, stA, ld, ldE, cons_beq_nil, nil_beq_cons, snaps, rfs, rf, BEq.rfl, and_self, Nat.le_refl, List.length_cons, List.length_nil, g0, g3, g4, g5, g6, hx, List.getElem?_map]
      refine ECond.mk (fun hb => ?_) (fun hb => ?_)
      · rw [decide_eq_true_eq] at hb
        have hne : done ≠ [] := by intro h; subst h; simp at hb
        have hjs := jn_snoc 9 x hne
        rw [hjs] at hj
        simp only [List.length_append, List.length_cons] at hj
        simp (disch := first | assumption | omega) only [Ends_nil, Ends_ret, Ends_skip, Ends_label, Ends_inBlock, Ends_seq, Ends_block, Ends_exit, EExit_some, exitC, Ends_cond, ECond_true, ECond_false, Ends_reg, EndsR_nil, EndsR_cons, EG_true, EG_false, EBnd_some, EOp_callF, EOp_callP0, EOp_callP, EOp_callV, Ends_dreg, EndsD_nil, EndsD_cons, DG_true, DG_false, DBnd_some, DOp_callF, DOp_callP0, DOp_callP, ERes_some, EOp_mv, DOp_mv, EOp_nilCheck, DOp_nilCheck, EOp_pick, DOp_pick, EOp_alloc, DOp_alloc, EOp_box, DOp_box, EOp_build, DOp_build, EOp_bsl, DOp_bsl, EOp_load, DOp_load, EOp_store, DOp_store, EOp_bin, DOp_bin, EOp_eqs, DOp_eqs, EOp_un, DOp_un, EOp_conv, DOp_conv, EOp_fld, DOp_fld, EOp_part, DOp_part, EOp_idxS, DOp_idxS, EOp_idxA, DOp_idxA, EOp_idxStr, DOp_idxStr, EOp_idxAgg, DOp_idxAgg, EOp_sliceStr, DOp_sliceStr, EOp_slice, DOp_slice, EOp_sliceArr, DOp_sliceArr, EOp_extract, DOp_extract, EOp_len, DOp_len, EOp_cap, DOp_cap, EOp_append, DOp_append, EOp_appendZ, DOp_appendZ, EOp_copy, DOp_copy, EOp_mm, DOp_mm, EOp_mkSlice, DOp_mkSlice, EOp_mkFn, DOp_mkFn, EOp_lookup, DOp_lookup, EOp_rangeS, DOp_rangeS, EOp_nextS, DOp_nextS, EOp_iface, DOp_iface, wantedA, evOp, opd, putO, bnd, get_put_if, ↓reduceIte, get_cons_zero, get_cons_succ, get_nil, ckPlain, List.all_nil, evC, List.getLastD_cons, List.getLastD_nil, List.map_cons, List.map_nil, Option.map_some, Option.bind_some, Option.map_none, Option.bind_none, binE, bin, sBin, iBin, eqB, bBin, un, conv, Nat.reduceEqDiff, Nat.reduceAdd, Nat.add_sub_cancel, Int.add_zero, Int.zero_add, Nat.zero_add, Nat.add_zero, List.drop_zero, List.take_zero, Nat.zero_le,  Nat.reduceBEq, Nat.reduceLeDiff, Nat.reduceLT, Int.natCast_zero, Int.natCast_one, Int.reduceBEq, Int.reduceLT, Int.reduceLE, Int.reduceAdd, Int.reduceSub, b_t, b_f, Bool.not_true, Bool.not_false, Bool.true_and, Bool.and_true, Bool.false_and, Bool.and_false, decide_true, decide_false, wr64, asNat_cast, asNat_zero, asNat_one, and_true, true_and, List.cons_append, List.nil_append, List.getElem?_cons_zero, List.getElem?_cons_succ, List.getElem?_nil, resOf, seqO, resOne, getA_app, Option.some.injEq, reduceCtorEq, Bool.false_eq_true, Bool.true_eq_false, if_false, if_true, List.append_nil, castS, castA, castP, castM, ite_some, at_app, set_app, at_map_app, set_map_app, getA_zero, getA_succ, set_zero, set_succ, sliceV_osl, sliceV_sl, List.take_length, or_true, true_or, Nat.sub_zero,  elsOf, okEl, AV.cells, AV.one, List.all_cons, stE, stA, ld, ldE, cons_beq_nil, nil_beq_cons, snaps, rfs, rf, BEq.rfl, and_self, Nat.le_refl, List.length_cons, List.length_nil, g0, g3, g4, g5, g6, hx, List.getElem?_map, List.length_append]
        refine again todo.length _ _ (by simp [hm]) ⟨done ++ [x], todo, ?_, rfl, ?_, ?_, ?_, ?_, ?_⟩ <;> (try simp only [get_put_if, ↓reduceIte, Nat.reduceEqDiff, get_cons_zero, get_cons_succ, get_nil, reduceCtorEq]) <;> first | assumption | simp [hd, hjs]
      · rw [decide_eq_false_iff_not] at hb
        obtain rfl : done = [] := List.eq_nil_of_length_eq_zero (by omega)
        simp only [List.length_nil] at hx
        simp only [List.nil_append, jn, if_true] at hj g4
        simp (disch := first | assumption | omega) only [Ends_nil, Ends_ret, Ends_skip, Ends_label, Ends_inBlock, Ends_seq, Ends_block, Ends_exit, EExit_some, exitC, Ends_cond, ECond_true, ECond_false, Ends_reg, EndsR_nil, EndsR_cons, EG_true, EG_false, EBnd_some, EOp_callF, EOp_callP0, EOp_callP, EOp_callV, Ends_dreg, EndsD_nil, EndsD_cons, DG_true, DG_false, DBnd_some, DOp_callF, DOp_callP0, DOp_callP, ERes_some, EOp_mv, DOp_mv, EOp_nilCheck, DOp_nilCheck, EOp_pick, DOp_pick, EOp_alloc, DOp_alloc, EOp_box, DOp_box, EOp_build, DOp_build, EOp_bsl, DOp_bsl, EOp_load, DOp_load, EOp_store, DOp_store, EOp_bin, DOp_bin, EOp_eqs, DOp_eqs, EOp_un, DOp_un, EOp_conv, DOp_conv, EOp_fld, DOp_fld, EOp_part, DOp_part, EOp_idxS, DOp_idxS, EOp_idxA, DOp_idxA, EOp_idxStr, DOp_idxStr, EOp_idxAgg, DOp_idxAgg, EOp_sliceStr, DOp_sliceStr, EOp_slice, DOp_slice, EOp_sliceArr, DOp_sliceArr, EOp_extract, DOp_extract, EOp_len, DOp_len, EOp_cap, DOp_cap, EOp_append, DOp_append, EOp_appendZ, DOp_appendZ, EOp_copy, DOp_copy, EOp_mm, DOp_mm, EOp_mkSlice, DOp_mkSlice, EOp_mkFn, DOp_mkFn, EOp_lookup, DOp_lookup, EOp_rangeS, DOp_rangeS, EOp_nextS, DOp_nextS, EOp_iface, DOp_iface, wantedA, evOp, opd, putO, bnd, get_put_if, ↓reduceIte, get_cons_zero, get_cons_succ, get_nil, ckPlain, List.all_nil, evC, List.getLastD_cons, List.getLastD_nil, List.map_cons, List.map_nil, Option.map_some, Option.bind_some, Option.map_none, Option.bind_none, binE, bin, sBin, iBin, eqB, bBin, un, conv, Nat.reduceEqDiff, Nat.reduceAdd, Nat.add_sub_cancel, Int.add_zero, Int.zero_add, Nat.zero_add, Nat.add_zero, List.drop_zero, List.take_zero, Nat.zero_le,  Nat.reduceBEq, Nat.reduceLeDiff, Nat.reduceLT, Int.natCast_zero, Int.natCast_one, Int.reduceBEq, Int.reduceLT, Int.reduceLE, Int.reduceAdd, Int.reduceSub, b_t, b_f, Bool.not_true, Bool.not_false, Bool.true_and, Bool.and_true, Bool.false_and, Bool.and_false, decide_true, decide_false, wr64, asNat_cast, asNat_zero, asNat_one, and_true, true_and, List.cons_append, List.nil_append, List.getElem?_cons_zero, List.getElem?_cons_succ, List.getElem?_nil, resOf, seqO, resOne, getA_app, Option.some.injEq, reduceCtorEq, Bool.false_eq_true, Bool.true_eq_false, if_false, if_true, List.append_nil, castS, castA, castP, castM, ite_some, at_app, set_app, at_map_app, set_map_app, getA_zero, getA_succ, set_zero, set_succ, sliceV_osl, sliceV_sl, List.take_length, or_true, true_or, Nat.sub_zero,  elsOf, okEl, AV.cells, AV.one, List.all_cons, stE, stA, ld, ldE, cons_beq_nil, nil_beq_cons, snaps, rfs, rf, BEq.rfl, and_self, Nat.le_refl, List.length_cons, List.length_nil, g0, g3, g4, g5, g6, hx, List.getElem?_map]
        refine again todo.length _ _ (by simp [hm]) ⟨[x], todo, ?_, rfl, ?_, ?_, ?_, ?_, ?_⟩ <;> (try simp only [get_put_if, ↓reduceIte, Nat.reduceEqDiff, get_cons_zero, get_cons_succ, get_nil, reduceCtorEq]) <;> first | assumption | simp [hd, jn]
  · rw [decide_eq_false_iff_not] at hb
    obtain rfl : todo = [] := List.eq_nil_of_length_eq_zero (by omega)
    simp (disch := first | assumption | omega) only [Ends_nil, Ends_ret, Ends_skip, Ends_label, Ends_inBlock, Ends_seq, Ends_block, Ends_exit, EExit_some, exitC, Ends_cond, ECond_true, ECond_false, Ends_reg, EndsR_nil, EndsR_cons, EG_true, EG_false, EBnd_some, EOp_callF, EOp_callP0, EOp_callP, EOp_callV, Ends_dreg, EndsD_nil, EndsD_cons, DG_true, DG_false, DBnd_some, DOp_callF, DOp_callP0, DOp_callP, ERes_some, EOp_mv, DOp_mv, EOp_nilCheck, DOp_nilCheck, EOp_pick, DOp_pick, EOp_alloc, DOp_alloc, EOp_box, DOp_box, EOp_build, DOp_build, EOp_bsl, DOp_bsl, EOp_load, DOp_load, EOp_store, DOp_store, EOp_bin, DOp_bin, EOp_eqs, DOp_eqs, EOp_un, DOp_un, EOp_conv, DOp_conv, EOp_fld, DOp_fld, EOp_part, DOp_part, EOp_idxS, DOp_idxS, EOp_idxA, DOp_idxA, EOp_idxStr, DOp_idxStr, EOp_idxAgg, DOp_idxAgg, EOp_sliceStr, DOp_sliceStr, EOp_slice, DOp_slice, EOp_sliceArr, DOp_sliceArr, EOp_extract, DOp_extract, EOp_len, DOp_len, EOp_cap, DOp_cap, EOp_append, DOp_append, EOp_appendZ, DOp_appendZ, EOp_copy, DOp_copy, EOp_mm, DOp_mm, EOp_mkSlice, DOp_mkSlice, EOp_mkFn, DOp_mkFn, EOp_lookup, DOp_lookup, EOp_rangeS, DOp_rangeS, EOp_nextS, DOp_nextS, EOp_iface, DOp_iface, wantedA, evOp, opd, putO, bnd, get_put_if, ↓reduceIte, get_cons_zero, get_cons_succ, get_nil, ckPlain, List.all_nil, evC, List.getLastD_cons, List.getLastD_nil, List.map_cons, List.map_nil, Option.map_some, Option.bind_some, Option.map_none, Option.bind_none, binE, bin, sBin, iBin, eqB, bBin, un, conv, Nat.reduceEqDiff, Nat.reduceAdd, Nat.add_sub_cancel, Int.add_zero, Int.zero_add, Nat.zero_add, Nat.add_zero, List.drop_zero, List.take_zero, Nat.zero_le,  Nat.reduceBEq, Nat.reduceLeDiff, Nat.reduceLT, Int.natCast_zero, Int.natCast_one, Int.reduceBEq, Int.reduceLT, Int.reduceLE, Int.reduceAdd, Int.reduceSub, b_t, b_f, Bool.not_true, Bool.not_false, Bool.true_and, Bool.and_true, Bool.false_and, Bool.and_false, decide_true, decide_false, wr64, asNat_cast, asNat_zero, asNat_one, and_true, true_and, List.cons_append, List.nil_append, List.getElem?_cons_zero, List.getElem?_cons_succ, List.getElem?_nil, resOf, seqO, resOne, getA_app, Option.some.injEq, reduceCtorEq, Bool.false_eq_true, Bool.true_eq_false, if_false, if_true, List.append_nil, castS, castA, castP, castM, ite_some, at_app, set_app, at_map_app, set_map_app, getA_zero, getA_succ, set_zero, set_succ, sliceV_osl, sliceV_sl, List.take_length, or_true, true_or, Nat.sub_zero,  elsOf, okEl, AV.cells, AV.one, List.all_cons, stE, stA, ld, ldE, cons_beq_nil, nil_beq_cons, snaps, rfs, rf, BEq.rfl, and_self, Nat.le_refl, List.length_cons, List.length_nil, g0, g3, g4, g5, g6]
    simp only [List.append_nil] at hd
    refine cont _ _ ⟨?_, ?_, ?_, ?_⟩ <;> (try simp only [get_put_if, ↓reduceIte, Nat.reduceEqDiff, get_cons_zero, get_cons_succ, get_nil, reduceCtorEq]) <;> first | assumption | simp [g4, hd, jn_split]
end Go.Proofs.VmX

/- known() of flonglaw09 is true: a closed run of the small machine. -/
namespace Go.Proofs.VmX
set_option maxRecDepth 100000
theorem known_ok : ∃ h', FnTo EC 7 [] [] (.bool true) h' := fn_true 400 (by kernel_rfl)
theorem known_pure : PureTo EC 7 [] (.bool true) := by
  obtain ⟨h', h⟩ := known_ok
  exact pure_rf h rfl
end Go.Proofs.VmX
