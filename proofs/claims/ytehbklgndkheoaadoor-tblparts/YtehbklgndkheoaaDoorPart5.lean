/- Part 5 of a proof: flonglaw09.TblParts returns true for every text and leaves it as it was; no condition of our own. -/
import Derived.Test.YtehbklgndkheoaaDoorPart4
import Derived.Test.YtehbklgndkheoaaDoorChecked
import Derived.KernelRfl
import Derived.Test.YtehbklgndkheoaaDoorPart2
import Derived.DataReads
import GoSem.ClaimJoined
import GoSem.ClaimDataLaid
import Derived.Lib.Bytealg
import Derived.Lib.Index
import Derived.Test.YtehbklgndkheoaaDoorPart3
import Derived.ChangeReads
import Derived.ChangeArms
import Derived.ChangeSame
import Derived.ChangeAnyMap
import Derived.ProofKit
import Derived.OpenShut
import Derived.ChangeOld
import Derived.Test.YtehbklgndkheoaaDoorPart1
/- The Tbl seat's functions as the small machine has them: they are those of the program. MADE BY PROGRAM (mk.py). -/
set_option linter.unusedVariables false
set_option maxRecDepth 100000
namespace Go.Proofs.VmX
open Go

/-- What the variables hold; M: what internal/bytealg.MaxLen does. -/
def glM (M : Int) (g : Nat) : AV := if g = 1 then .vptr (.int .i64 M) 0 else gl g

def HT (M : Int) : Hints := { glob := glM M, inl := inlC }


theorem size_prog : Tryd.prog.funcs.size = 137 := by kernel_rfl

theorem all_eq (M : Int) : (List.range 137).map (cFn Tryd.prog (HT M)) = codeL.map some := by kernel_rfl

theorem code_eq (M : Int) (f : Nat) : cFn Tryd.prog (HT M) f = codeL[f]? := by
  rcases Nat.lt_or_ge f 137 with h | h
  · have := congrArg (fun l => l[f]?) (all_eq M)
    simp only [List.getElem?_map, List.getElem?_range h, Option.map_some] at this
    have hl : f < codeL.length := h
    rw [List.getElem?_eq_getElem hl] at this ⊢
    simpa using this
  · have hl : codeL.length ≤ f := h
    rw [List.getElem?_eq_none hl]
    unfold cFn
    rw [Array.getElem?_eq_none (by rw [size_prog]; exact h)]
    rfl


theorem env_eq (M : Int) : envOf Tryd.prog (HT M) = EC := by
  unfold envOf EC HT
  congr 1
  funext f
  exact code_eq M f

end Go.Proofs.VmX

/- What is read as data is a value of the small machine. -/
set_option linter.unusedVariables false
set_option linter.unusedSimpArgs false
set_option linter.unusedSectionVars false
namespace Go.Proofs.VmX
open Go.RowKit

def mkEl (agg : Bool) (cs : List AV) : AV := if agg then .agg cs else cs.headD .junk

/-- The cells of a datum of a type. -/
def avs {X : Type} (P : Program) : Nat → TypeId → DataW X → List AV
  | 0, _, _ => []
  | n + 1, t, d =>
    match P.underlying t, d with
    | some .bool, .lit (.bool b) => [.bool b]
    | some (.int k), .lit (.int _ m) => [.int k m]
    | some .string, .lit (.string s) => [.str s]
    | some (.slice _), .nil => [.sl true 0 []]
    | some (.slice e), .slice elems spare => [.sl spare.isEmpty (P.cellsOf e) (elems.map fun x => mkEl (tagg P e) (avs P n e x))]
    | some (.struct fs), .agg parts => ((fs.toList.zip parts).map fun x => avs P n x.1.type x.2).flatten
    | some (.array _ e), .agg parts => (parts.map fun x => avs P n e x).flatten
    | _, _ => []

/-- Types of plain data; so deep. -/
def plainT (P : Program) : Nat → TypeId → Bool
  | 0, _ => false
  | n + 1, t =>
    match P.underlying t with
    | some .bool => P.cellsOf t == 1
    | some (.int _) => P.cellsOf t == 1
    | some .string => P.cellsOf t == 1
    | some (.slice e) => P.cellsOf t == 1 && plainT P n e && P.cellsOf e != 0 && (tagg P e || P.cellsOf e == 1)
    | some (.struct fs) => fs.toList.all (fun f => plainT P n f.type) && P.cellsOf t == (fs.toList.map fun f => P.cellsOf f.type).sum &&
        (List.range fs.toList.length).all (fun j => match fs.toList[j]? with | some f => f.offset == ((fs.toList.take j).map fun f => P.cellsOf f.type).sum | none => true)
    | some (.array m e) => plainT P n e && P.cellsOf t == m * P.cellsOf e
    | _ => false

theorem flatten_take_drop {α : Type} : ∀ (ls : List (List α)) (j : Nat) (l : List α), ls[j]? = some l → (ls.flatten.drop ((ls.take j).map List.length).sum).take l.length = l := by
  intro ls
  induction ls with
  | nil => intro j l h; simp at h
  | cons x ls ih =>
    intro j l h
    cases j with
    | zero => simp at h; subst h; simp
    | succ j =>
      simp only [List.getElem?_cons_succ] at h
      have := ih j l h
      simp only [List.take_succ_cons, List.map_cons, List.sum_cons, List.flatten_cons]
      rw [← List.drop_drop, List.drop_left]
      exact this

theorem split_at {α : Type} : ∀ (ns : List Nat) (cs : List α), cs.length = ns.sum → ((List.range ns.length).map fun j => (cs.drop (ns.take j).sum).take (ns.getD j 0)).flatten = cs := by
  intro ns
  induction ns with
  | nil => intro cs h; simp at h; simp [h]
  | cons n ns ih =>
    intro cs h
    simp only [List.sum_cons] at h
    rw [List.length_cons, List.range_succ_eq_map, List.map_cons, List.flatten_cons]
    simp only [List.take_zero, List.sum_nil, List.drop_zero, List.getD_cons_zero, List.map_map]
    have e : ((fun j => (cs.drop ((n :: ns).take j).sum).take ((n :: ns).getD j 0)) ∘ Nat.succ) = fun j => ((cs.drop n).drop (ns.take j).sum).take (ns.getD j 0) := by
      funext j
      simp [List.drop_drop]
    rw [e, ih (cs.drop n) (by simp; omega)]
    exact List.take_append_drop n cs

section
variable {X : Type} {enc : TypeId × Value → X} {P : Program} {w : World} {held : Bool} {base : Nat} {sp : Nat → Bool}

abbrev S1 : Nat → Nat → Prop := fun _ _ => True
abbrev VRs0 (w : World) (az : List AV) (vs : List Value) : Prop := VRs S1 [] [] w az vs
abbrev VR0 (w : World) (a : AV) (v : Value) : Prop := VR S1 [] [] w a v

theorem safe0 (b o : Nat) : Safe S1 [] [] b o := ⟨trivial, fun id x h => by simp at h⟩

theorem VC_of0 {b : Nat} : ∀ {az : List AV} {vs : List Value} {o : Nat}, VRs0 w az vs → az.all AV.one = true → (∀ i v, vs[i]? = some v → w.cell? ⟨b, o + i, none⟩ = some v) → VC S1 [] [] w az b o := by
  intro az
  induction az with
  | nil => intro vs o _ _ _; exact .nil b o
  | cons a az ih =>
    intro vs o h1 h2 h3
    cases h1 with | cons _ v _ vs' g1 g2 =>
    simp only [List.all_cons, Bool.and_eq_true] at h2
    refine .cons a az b o v g1 h2.1 (by simpa using h3 0 v (by simp)) (safe0 b o) (ih g2 h2.2 fun i u hu => ?_)
    have := h3 (i + 1) u (by simpa using hu)
    rw [show o + 1 + i = o + (i + 1) by omega]
    exact this

theorem VC_app : ∀ {az bs : List AV} {b o : Nat}, VC S1 [] [] w az b o → VC S1 [] [] w bs b (o + az.length) → VC S1 [] [] w (az ++ bs) b o := by
  intro az
  induction az with
  | nil => intro bs b o _ h; simpa using h
  | cons a az ih =>
    intro bs b o h1 h2
    cases h1 with | cons _ _ _ _ v g1 g2 g3 g4 g5 =>
    refine .cons a _ b o v g1 g2 g3 g4 (ih g5 ?_)
    rw [show o + 1 + az.length = o + (a :: az).length by simp; omega]
    exact h2

theorem VRs_append0 {az bs : List AV} {vs ws : List Value} (h1 : VRs0 w az vs) (h2 : VRs0 w bs ws) : VRs0 w (az ++ bs) (vs ++ ws) := h1.append h2

theorem VRs_flatten0 : ∀ {ls : List (List AV)} {ms : List (List Value)}, ls.length = ms.length → (∀ (i : Nat) (l : List AV) (m : List Value), ls[i]? = some l → ms[i]? = some m → VRs0 w l m) → VRs0 w ls.flatten ms.flatten := by
  intro ls
  induction ls with
  | nil => intro ms h _; cases ms with
    | nil => exact .nil
    | cons => simp at h
  | cons l ls ih =>
    intro ms h h2
    cases ms with
    | nil => simp at h
    | cons m ms =>
      simp only [List.flatten_cons]
      exact VRs_append0 (h2 0 l m rfl rfl) (ih (by simpa using h) fun i l' m' h3 h4 => h2 (i + 1) l' m' (by simpa using h3) (by simpa using h4))

theorem cell?_spot {a : Addr} {v : Value} (hc : w.cell? a = some v) : a.spot = none := by
  unfold World.cell? at hc
  split at hc
  · split at hc
    · cases hc
    · rename_i h; simpa using h
  · cases hc

theorem cells?_spec {b : Nat} {a : Addr} {n : Nat} {l : List Value} (hc : w.cells? b a n = some l) (hn : n ≠ 0) : b ≤ a.block ∧ l.length = n ∧ a.spot = none ∧ ∀ (i : Nat) (v : Value), l[i]? = some v → w.cell? ⟨a.block, a.off + i, none⟩ = some v := by
  unfold World.cells? at hc
  split at hc
  · rename_i hb
    have hl := mapM_some_length hc
    have at_ : ∀ (i : Nat) (v : Value), l[i]? = some v → w.cell? (a.add i) = some v := fun i v hv => by
      have hi : i < l.length := (List.getElem?_eq_some_iff.1 hv).1
      have hr : (List.range n)[i]? = some i := by
        have : i < n := by simpa [hl] using hi
        simp [List.getElem?_range, this]
      have h2 := mapM_some_get hc i i hr
      rw [hv] at h2
      exact h2
    have hspot : a.spot = none := by
      have h0 : 0 < l.length := by rw [hl]; simp; omega
      have := at_ 0 l[0] (List.getElem?_eq_getElem h0)
      exact cell?_spot (by simpa [Addr.add] using this)
    refine ⟨hb, by simpa using hl, hspot, fun i v hv => ?_⟩
    have h2 := at_ i v hv
    cases a
    simp only at hspot
    subst hspot
    by_cases hi : i = 0
    · subst hi; simpa [Addr.add] using h2
    · simpa [Addr.add, hi] using h2
  · cases hc

/-- What the reading gives. -/
theorem trod_avs : ∀ (n : Nat) (t : TypeId) (cs : List Value) (d : DataW X) (ps : List MemPlace), plainT P n t = true →
    DataW.trod enc P w base (fun _ => true) held n t cs = some (d, ps) →
    VRs0 w (avs P n t d) cs ∧ (avs P n t d).length = P.cellsOf t ∧ (avs P n t d).all AV.one = true := by
  intro n
  induction n with
  | zero => intro t cs d ps hp; simp [plainT] at hp
  | succ n ih =>
    intro t cs d ps hp htr
    unfold DataW.trod at htr
    simp only [plainT] at hp
    split at htr
    · rename_i b hu
      rw [hu] at hp
      injection htr with htr
      simp only [Prod.mk.injEq] at htr
      obtain ⟨rfl, rfl⟩ := htr
      simp only [avs, hu]
      simp only [beq_iff_eq] at hp
      exact ⟨.cons _ _ _ _ (.bool b) .nil, by simp [hp], rfl⟩
    · rename_i k k' m hu
      rw [hu] at hp
      split at htr
      · rename_i hk
        obtain ⟨rfl, hk2⟩ := hk
        injection htr with htr
        simp only [Prod.mk.injEq] at htr
        obtain ⟨rfl, rfl⟩ := htr
        simp only [avs, hu]
        simp only [beq_iff_eq] at hp
        exact ⟨.cons _ _ _ _ (.int _ m) .nil, by simp [hp], rfl⟩
      · cases htr
    · rename_i k k' m hu
      rw [hu] at hp
      cases hp
    · rename_i s hu
      rw [hu] at hp
      split at htr
      · injection htr with htr
        simp only [Prod.mk.injEq] at htr
        obtain ⟨rfl, rfl⟩ := htr
        simp only [avs, hu]
        simp only [beq_iff_eq] at hp
        exact ⟨.cons _ _ _ _ (.str s.data.toList) .nil, by simp [hp], rfl⟩
      · cases htr
    · rename_i hu; rw [hu] at hp; cases hp
    · rename_i hu; rw [hu] at hp; cases hp
    · rename_i e hu
      rw [hu] at hp
      simp only [Bool.and_eq_true, beq_iff_eq] at hp
      injection htr with htr
      simp only [Prod.mk.injEq] at htr
      obtain ⟨rfl, rfl⟩ := htr
      simp only [avs, hu]
      exact ⟨.cons _ _ _ _ (.sl0 true 0 none 0 (fun _ => rfl) ⟨fun _ => rfl, fun _ => rfl⟩) .nil, by simp [hp], rfl⟩
    · rename_i e a len cap hu
      rw [hu] at hp
      simp only [Bool.and_eq_true, bne_iff_ne, ne_eq, beq_iff_eq, Bool.or_eq_true] at hp
      obtain ⟨⟨⟨hp1, hp2⟩, hp3⟩, hp4⟩ := hp
      simp only [if_true] at htr
      split at htr
      · rename_i hcond
        simp only [Option.bind_eq_some_iff, Option.map_eq_some_iff, Prod.mk.injEq] at htr
        obtain ⟨elems, he, rest, hr, rfl, rfl⟩ := htr
        have hel := mapM_some_length he
        have hrl := mapM_some_length hr
        simp only [List.length_range] at hel hrl
        -- each element
        have one : ∀ (i : Nat) (x : DataW X × List MemPlace), elems[i]? = some x → ∃ l, w.cells? base (a.add (i * P.cellsOf e)) (P.cellsOf e) = some l ∧ VRs0 w (avs P n e x.1) l ∧ (avs P n e x.1).length = P.cellsOf e ∧ (avs P n e x.1).all AV.one = true := by
          intro i x hx
          have hi : i < len := by have := (List.getElem?_eq_some_iff.1 hx).1; omega
          have := mapM_some_get he i i (by simp [List.getElem?_range, hi])
          rw [hx, Option.bind_eq_some_iff] at this
          obtain ⟨l, h1, h2⟩ := this
          exact ⟨l, h1, ih e l x.1 x.2 hp2 h2⟩
        have mk : ∀ l : List AV, l.length = P.cellsOf e → l.all AV.one = true → (mkEl (tagg P e) l).cells = l ∧ okEl (P.cellsOf e) (mkEl (tagg P e) l) = true := by
          intro l h1 h2
          rcases hp4 with h | h
          · simp [mkEl, h, AV.cells, okEl, h1, h2]
          · rw [h] at h1
            match l, h1 with
            | [v], _ =>
              simp only [mkEl, okEl]
              split
              · simp only [AV.cells]; rw [h]; simpa using h2
              · have hv : v.one = true := by simpa using h2
                have hc : v.cells = [v] := by cases v <;> first | rfl | (simp [AV.one] at hv)
                simp only [List.headD_cons, hc, h]; simpa using hv
        have hcells : ∀ x ∈ elems, (mkEl (tagg P e) (avs P n e x.1)).cells = avs P n e x.1 ∧ okEl (P.cellsOf e) (mkEl (tagg P e) (avs P n e x.1)) = true := by
          intro x hx
          obtain ⟨i, hi, rfl⟩ := List.getElem_of_mem hx
          obtain ⟨l, _, _, h3, h4⟩ := one i _ (List.getElem?_eq_getElem hi)
          exact mk _ h3 h4
        simp only [avs, hu, List.map_map]
        refine ⟨.cons _ _ _ _ ?_ .nil, by simp [hp1], by simp [AV.one]⟩
        by_cases hnil : elems = []
        · subst hnil
          simp only [List.length_nil] at hel
          subst hel
          refine .sl0 _ _ (some a) cap (fun hx => ?_) ⟨fun h0 => absurd h0 hp3, fun h0 => by cases h0⟩
          have : rest = [] := by simpa using hx
          subst this
          simpa using hrl.symm
        · have hlen : 0 < elems.length := List.length_pos_iff.2 hnil
          obtain ⟨l0, h01, _⟩ := one 0 elems[0] (List.getElem?_eq_getElem hlen)
          have hspot : a.spot = none := by simpa [Addr.add] using (cells?_spec h01 hp3).2.2.1
          obtain ⟨b, o, spot⟩ := a
          simp only at hspot
          subst hspot
          have hadd : ∀ k : Nat, (Addr.mk b o none).add k = ⟨b, o + k, none⟩ := by
            intro k
            by_cases hk : k = 0
            · subst hk; simp [Addr.add]
            · simp [Addr.add, hk]
          have hll : (elems.map ((fun x => mkEl (tagg P e) (avs P n e x)) ∘ fun x => x.1)).length = len := by simp [hel]
          rw [← hll]
          refine .sl _ _ _ b o cap (by simpa using hnil) ?_ ?_ (by rw [hll]; exact hcond.2.1) ?_
          · intro y hy
            obtain ⟨x, hx, rfl⟩ := List.mem_map.1 hy
            exact (hcells x hx).2
          · have hflat : (elems.map ((fun x => mkEl (tagg P e) (avs P n e x)) ∘ fun x => x.1)).flatMap AV.cells = (elems.map fun x => avs P n e x.1).flatten := by
              rw [List.flatMap_map, List.flatMap_def]
              congr 1
              exact List.map_congr_left fun x hx => (hcells x hx).1
            rw [hflat]
            -- element by element
            have walk : ∀ (ys : List (DataW X × List MemPlace)) (k : Nat), (∀ (i : Nat) (x : DataW X × List MemPlace), ys[i]? = some x → elems[k + i]? = some x) → VC S1 [] [] w (ys.map fun x => avs P n e x.1).flatten b (o + k * P.cellsOf e) := by
              intro ys
              induction ys with
              | nil => intro k _; exact .nil _ _
              | cons x ys ihy =>
                intro k hk
                obtain ⟨l, h1, h2, h3, h4⟩ := one k x (by simpa using hk 0 x rfl)
                rw [hadd] at h1
                have hspec := (cells?_spec h1 hp3).2.2.2
                have v1 := VC_of0 h2 h4 hspec
                have v2 := ihy (k + 1) (fun i y hy => by have := hk (i + 1) y (by simpa using hy); rw [show k + 1 + i = k + (i + 1) by omega]; exact this)
                rw [List.map_cons, List.flatten_cons]
                refine VC_app v1 ?_
                rw [h3, show o + k * P.cellsOf e + P.cellsOf e = o + (k + 1) * P.cellsOf e by rw [Nat.succ_mul]; omega]
                exact v2
            simpa using walk elems 0 (fun i x hx => by simpa using hx)
          · intro hx
            have : rest = [] := by simpa using hx
            subst this
            simp only [List.length_nil] at hrl
            rw [hll]
            omega
      · cases htr
    · rename_i cs _ _ fs hu
      rw [hu] at hp
      simp only [Bool.and_eq_true, beq_iff_eq, List.all_eq_true] at hp
      obtain ⟨⟨hp1, hp2⟩, hp3⟩ := hp
      split at htr
      · rename_i hlen
        simp only [Option.map_eq_some_iff, Prod.mk.injEq] at htr
        obtain ⟨xs, hxs, rfl, rfl⟩ := htr
        have hxl := mapM_some_length hxs
        have one : ∀ (j : Nat) (f : Field) (x : DataW X × List MemPlace), fs.toList[j]? = some f → xs[j]? = some x →
            VRs0 w (avs P n f.type x.1) ((cs.drop ((fs.toList.take j).map fun f => P.cellsOf f.type).sum).take (P.cellsOf f.type)) ∧ (avs P n f.type x.1).length = P.cellsOf f.type ∧ (avs P n f.type x.1).all AV.one = true := by
          intro j f x hf hx
          have h1 := mapM_some_get hxs j f hf
          rw [hx] at h1
          have hj : j < fs.toList.length := (List.getElem?_eq_some_iff.1 hf).1
          have h2 := hp3 j (List.mem_range.2 hj)
          rw [hf] at h2
          simp only [beq_iff_eq] at h2
          rw [h2] at h1
          exact ih f.type _ x.1 x.2 (hp1 f (List.mem_of_getElem? hf)) h1
        simp only [avs, hu]
        have hz : (fs.toList.zip (xs.map (·.1))).length = fs.toList.length := by simp [hxl]
        have hsplit := split_at (fs.toList.map fun f => P.cellsOf f.type) cs (by rw [hlen, hp2])
        refine ⟨?_, ?_, ?_⟩
        · rw [← hsplit]
          refine VRs_flatten0 (by simp [hxl]) fun i l m hl hm => ?_
          rw [List.getElem?_map, Option.map_eq_some_iff] at hl hm
          obtain ⟨x, hx, rfl⟩ := hl
          obtain ⟨j, hj, rfl⟩ := hm
          rw [List.getElem?_zip_eq_some] at hx
          obtain ⟨g1, g2⟩ := hx
          rw [List.getElem?_map, Option.map_eq_some_iff] at g2
          obtain ⟨y, hy, hy2⟩ := g2
          have hji : j = i := by
            have hi : i < (fs.toList.map fun f => P.cellsOf f.type).length := by simpa using (List.getElem?_eq_some_iff.1 g1).1
            rw [List.getElem?_range hi] at hj
            injection hj with hj
            exact hj.symm
          subst hji
          have := (one j x.1 y g1 hy).1
          rw [← hy2]
          have hd : (fs.toList.map fun f => P.cellsOf f.type).getD j 0 = P.cellsOf x.1.type := by
            rw [List.getD_eq_getElem?_getD, List.getElem?_map, g1]; rfl
          rw [hd, ← List.map_take]
          exact this
        · rw [hp2, List.length_flatten]
          congr 1
          rw [List.map_map]
          apply List.ext_getElem?
          intro i
          rw [List.getElem?_map, List.getElem?_map]
          rcases Nat.lt_or_ge i fs.toList.length with hi | hi
          · have hi2 : i < xs.length := by omega
            have hzi : (fs.toList.zip (xs.map (·.1)))[i]? = some (fs.toList[i], xs[i].1) := by
              rw [List.getElem?_zip_eq_some]
              exact ⟨List.getElem?_eq_getElem hi, by simp [List.getElem?_eq_getElem hi2]⟩
            rw [hzi, List.getElem?_eq_getElem hi]
            simp only [Option.map_some, Function.comp]
            rw [(one i _ _ (List.getElem?_eq_getElem hi) (List.getElem?_eq_getElem hi2)).2.1]
          · rw [List.getElem?_eq_none (by omega), List.getElem?_eq_none (by omega)]
            rfl
        · rw [List.all_eq_true]
          intro v hv
          rw [List.mem_flatten] at hv
          obtain ⟨l, hl, hv⟩ := hv
          rw [List.mem_map] at hl
          obtain ⟨x, hx, rfl⟩ := hl
          obtain ⟨i, hi, rfl⟩ := List.getElem_of_mem hx
          have hi1 : i < fs.toList.length := by omega
          have hi2 : i < xs.length := by omega
          have := (one i _ _ (List.getElem?_eq_getElem hi1) (List.getElem?_eq_getElem hi2)).2.2
          rw [List.all_eq_true] at this
          exact this v (by simpa using hv)
      · cases htr
    · rename_i cs _ _ m e hu
      rw [hu] at hp
      simp only [Bool.and_eq_true, beq_iff_eq] at hp
      obtain ⟨hp1, hp2⟩ := hp
      split at htr
      · rename_i hlen
        simp only [Option.map_eq_some_iff, Prod.mk.injEq] at htr
        obtain ⟨xs, hxs, rfl, rfl⟩ := htr
        have hxl := mapM_some_length hxs
        simp only [List.length_range] at hxl
        have one : ∀ (j : Nat) (x : DataW X × List MemPlace), xs[j]? = some x →
            VRs0 w (avs P n e x.1) ((cs.drop (j * P.cellsOf e)).take (P.cellsOf e)) ∧ (avs P n e x.1).length = P.cellsOf e ∧ (avs P n e x.1).all AV.one = true := by
          intro j x hx
          have hj : j < m := by have := (List.getElem?_eq_some_iff.1 hx).1; omega
          have h1 := mapM_some_get hxs j j (by simp [List.getElem?_range, hj])
          rw [hx] at h1
          exact ih e _ x.1 x.2 hp1 h1
        simp only [avs, hu]
        have hsum : (List.replicate m (P.cellsOf e)).sum = m * P.cellsOf e := by simp
        have hsplit := split_at (List.replicate m (P.cellsOf e)) cs (by rw [hlen, hp2, hsum])
        refine ⟨?_, ?_, ?_⟩
        · rw [← hsplit]
          refine VRs_flatten0 (by simp [hxl]) fun i l k hl hk => ?_
          rw [List.getElem?_map, Option.map_eq_some_iff] at hl hk
          obtain ⟨x, hx, rfl⟩ := hl
          obtain ⟨j, hj, rfl⟩ := hk
          rw [List.getElem?_map, Option.map_eq_some_iff] at hx
          obtain ⟨y, hy, rfl⟩ := hx
          have hi : i < m := by have := (List.getElem?_eq_some_iff.1 hy).1; omega
          have hji : j = i := by
            rw [List.getElem?_range (by simpa using hi)] at hj
            injection hj with hj
            exact hj.symm
          subst hji
          have := (one j y hy).1
          have hd : (List.replicate m (P.cellsOf e)).getD j 0 = P.cellsOf e := by
            rw [List.getD_eq_getElem?_getD, List.getElem?_replicate, if_pos hi]; rfl
          have hs : ((List.replicate m (P.cellsOf e)).take j).sum = j * P.cellsOf e := by
            rw [List.take_replicate, Nat.min_eq_left (Nat.le_of_lt hi)]; simp
          rw [hd, hs]
          exact this
        · rw [hp2, List.length_flatten, ← hsum]
          congr 1
          apply List.ext_getElem?
          intro i
          rw [List.getElem?_map, List.getElem?_map, List.getElem?_map, List.getElem?_replicate]
          rcases Nat.lt_or_ge i m with hi | hi
          · have hi2 : i < xs.length := by omega
            rw [List.getElem?_eq_getElem hi2, if_pos hi]
            simp only [Option.map_some]
            rw [(one i _ (List.getElem?_eq_getElem hi2)).2.1]
          · rw [List.getElem?_eq_none (by omega), if_neg (by omega)]
            rfl
        · rw [List.all_eq_true]
          intro v hv
          rw [List.mem_flatten] at hv
          obtain ⟨l, hl, hv⟩ := hv
          rw [List.mem_map] at hl
          obtain ⟨x, hx, rfl⟩ := hl
          rw [List.mem_map] at hx
          obtain ⟨y, hy, rfl⟩ := hx
          obtain ⟨i, hi2, rfl⟩ := List.getElem_of_mem hy
          have := (one i _ (List.getElem?_eq_getElem hi2)).2.2
          rw [List.all_eq_true] at this
          exact this v hv
      · cases htr
    all_goals first | (cases htr; done) | (rename_i hu; rw [hu] at hp; cases hp)


theorem mapM_cong {α β : Type} {f g : α → Option β} : ∀ {l : List α} {r : List β}, l.mapM f = some r → (∀ (x : α) (y : β), x ∈ l → y ∈ r → f x = some y → g x = some y) → l.mapM g = some r := by
  intro l
  induction l with
  | nil => intro r h _; simpa using h
  | cons a l ih =>
    intro r h hfg
    simp only [List.mapM_cons, Option.pure_def, Option.bind_eq_bind, Option.bind_eq_some_iff, Option.some.injEq] at h ⊢
    obtain ⟨y, h1, ys, h2, rfl⟩ := h
    exact ⟨y, hfg a y (by simp) (by simp) h1, ys, ih h2 fun x z hx hz => hfg x z (by simp [hx]) (by simp [hz]), rfl⟩

/-- Spare places are looked at where what is read lies. -/
theorem trod_sp {sp : Nat → Bool} : ∀ (n : Nat) (t : TypeId) (cs : List Value) (x : DataW X × List MemPlace), plainT P n t = true →
    DataW.trod enc P w base (fun _ => true) held n t cs = some x → (∀ p ∈ x.2, sp p.block = true) → DataW.trod enc P w base sp held n t cs = some x := by
  intro n
  induction n with
  | zero => intro t cs x hp; simp [plainT] at hp
  | succ n ih =>
    intro t cs x hp htr hsp
    unfold DataW.trod at htr ⊢
    simp only [plainT] at hp
    split at htr
    case h_1 => exact htr
    case h_2 => exact htr
    case h_3 => exact htr
    case h_4 => exact htr
    case h_5 => exact htr
    case h_6 => rename_i hu; rw [hu] at hp; cases hp
    case h_7 => exact htr
    case h_8 e a len cap hu =>
      rw [hu] at hp
      simp only [Bool.and_eq_true, bne_iff_ne, ne_eq, beq_iff_eq, Bool.or_eq_true] at hp
      obtain ⟨⟨⟨hp1, hp2⟩, hp3⟩, hp4⟩ := hp
      simp only [if_true] at htr ⊢
      split at htr
      · rename_i hcond
        rw [if_pos hcond]
        simp only [Option.bind_eq_some_iff, Option.map_eq_some_iff] at htr ⊢
        obtain ⟨elems, he, rest, hr, rfl⟩ := htr
        have hel := mapM_some_length he
        have hrl := mapM_some_length hr
        simp only [List.length_range] at hel hrl
        have inner : ∀ (y : DataW X × List MemPlace), y ∈ elems ++ rest → ∀ p ∈ y.2, sp p.block = true := fun y hy p hpy =>
          hsp p (List.mem_append_right _ (List.mem_flatMap.2 ⟨y, hy, hpy⟩))
        refine ⟨elems, mapM_cong he fun i y hi hy h => ?_, rest, ?_, rfl⟩
        · simp only [Option.bind_eq_some_iff] at h ⊢
          obtain ⟨l, h1, h2⟩ := h
          exact ⟨l, h1, ih e l y hp2 h2 (inner y (List.mem_append_left _ hy))⟩
        · have hrest : (List.range (cap - len)).mapM (fun j => (w.cells? base (a.add ((len + j) * P.cellsOf e)) (P.cellsOf e)).bind (DataW.trod enc P w base sp held n e)) = some rest := mapM_cong hr fun i y hi hy h => by
            simp only [Option.bind_eq_some_iff] at h ⊢
            obtain ⟨l, h1, h2⟩ := h
            exact ⟨l, h1, ih e l y hp2 h2 (inner y (List.mem_append_right _ hy))⟩
          by_cases hz : elems.length + rest.length = 0
          · have : rest = [] := List.eq_nil_of_length_eq_zero (by omega)
            subst this
            split
            · exact hrest
            · rfl
          · have hm : MemPlace.cell a.block (a.off + 0) ∈ MemPlace.row a ((elems.length + rest.length) * P.cellsOf e) := by
              unfold MemPlace.row
              exact List.mem_map.2 ⟨0, List.mem_range.2 (Nat.mul_pos (by omega) (by omega)), rfl⟩
            have := hsp _ (List.mem_append_left _ hm)
            simp only [MemPlace.block] at this
            rw [this, if_pos rfl]
            exact hrest
      · cases htr
    case h_9 cs' _ _ fs hu =>
      rw [hu] at hp
      simp only [Bool.and_eq_true, beq_iff_eq, List.all_eq_true] at hp
      obtain ⟨⟨hp1, hp2⟩, hp3⟩ := hp
      split at htr
      · rename_i hlen
        rw [if_pos hlen]
        simp only [Option.map_eq_some_iff] at htr ⊢
        obtain ⟨xs, hxs, rfl⟩ := htr
        exact ⟨xs, mapM_cong hxs fun f y hf hy h => ih f.type _ y (hp1 f hf) h fun p hpy => hsp p (List.mem_flatMap.2 ⟨y, hy, hpy⟩), rfl⟩
      · cases htr
    case h_10 cs' _ _ m e hu =>
      rw [hu] at hp
      simp only [Bool.and_eq_true, beq_iff_eq] at hp
      obtain ⟨hp1, hp2⟩ := hp
      split at htr
      · rename_i hlen
        rw [if_pos hlen]
        simp only [Option.map_eq_some_iff] at htr ⊢
        obtain ⟨xs, hxs, rfl⟩ := htr
        exact ⟨xs, mapM_cong hxs fun f y hf hy h => ih e _ y hp1 h fun p hpy => hsp p (List.mem_flatMap.2 ⟨y, hy, hpy⟩), rfl⟩
      · cases htr
    all_goals first | (cases htr; done) | (rename_i hu; rw [hu] at hp; cases hp)

end
end Go.Proofs.VmX

/- Functions that are not walked: the model's entries, and those of the shelf. -/
set_option linter.unusedVariables false
set_option linter.unusedSimpArgs false
set_option linter.unusedSectionVars false
namespace Go.Proofs.VmX
open Go.RowKit

section
variable {P : Program} {H : Hints} {f : Nat} {fn : Func}

theorem idxByte_lib (c : UInt8) : ∀ (l : List UInt8) (n : Nat), idxByte c l n = if Lib.indexByte l c = -1 then -1 else Lib.indexByte l c + n := by
  intro l
  induction l with
  | nil => intro n; simp [idxByte, Lib.indexByte]
  | cons b l ih =>
    intro n
    simp only [idxByte, Lib.indexByte]
    by_cases hb : (b == c) = true
    · simp [hb]
    · simp only [hb, Bool.false_eq_true, if_false, ih (n + 1)]
      have := Lib.indexByte_ge l c
      by_cases h1 : Lib.indexByte l c = -1
      · simp [h1]
      · have h2 : (Lib.indexByte l c == -1) = false := by simpa using h1
        rw [if_neg h1]
        simp only [h2, Bool.false_eq_true, if_false]
        rw [if_neg (by omega)]
        omega
theorem cntByte_lib (c : UInt8) (l : List UInt8) : cntByte c l = Lib.countByte l c := by
  simp [cntByte, Lib.countByte, List.count, List.countP_eq_length_filter]
theorem isPre_lib : ∀ (a b : List UInt8), isPre a b = a.isPrefixOf b := by
  intro a
  induction a with
  | nil => intro b; simp [isPre]
  | cons x a ih =>
    intro b
    cases b with
    | nil => simp [isPre]
    | cons y b => simp [isPre, List.isPrefixOf, ih]
theorem idxStr_lib (sub : List UInt8) : ∀ (l : List UInt8) (n : Nat), idxStr sub l n = if Lib.index l sub = -1 then -1 else Lib.index l sub + n := by
  intro l
  induction l with
  | nil =>
    intro n
    simp only [idxStr, Lib.index]
    by_cases h : sub.isEmpty = true
    · simp [h]
    · simp [h]
  | cons b l ih =>
    intro n
    simp only [idxStr, Lib.index, isPre_lib]
    by_cases hb : sub.isPrefixOf (b :: l) = true
    · simp [hb]
    · simp only [hb, Bool.false_eq_true, if_false, ih (n + 1)]
      have := Lib.index_ge l sub
      by_cases h1 : Lib.index l sub = -1
      · simp [h1]
      · have h2 : (Lib.index l sub == -1) = false := by simpa using h1
        rw [if_neg h1]
        simp only [h2, Bool.false_eq_true, if_false]
        rw [if_neg (by omega)]
        omega

theorem value_ok {G : Nat → AV} {S : Nat → Nat → Prop} {B : Nat} {φ : Phi} {h : Heap} {w : World} {vs : Array Value} {v : Value} {r : AV} (hrel : Rel G S B φ h w) (hr : (callFunc f vs).run P w = .ok (.value v) w) (hv : VR S φ h w r v) : CallOK P G S B φ h w f vs h r :=
  .inl ⟨v, w, φ, hr, hrel, Ext.refl .., hv, Below.refl ..⟩

theorem extOK_none (k : Nat) (hk : ∀ args h, ext k args h = none) : ExtOK P H f k := by
  intro args h r h' he
  rw [hk] at he
  cases he

theorem extOK_1 (hf : P.funcs[f]? = some fn) (hb : fn.body.isNone = true) (hn : (fn.name == "runtime.NumGoroutine") = false) (h1 : Extern.findNext fn = none) (h2 : Extern.find fn = some Extern.BytealgIndexByte.indexByte) : ExtOK P H f 1 := by
  intro args h r h' he S B φ w vs hrel hv
  simp only [ext] at he
  split at he <;> first | (cases he; done) | skip
  all_goals (rename_i heq; try (cases heq; done))
  rename_i s c
  injection he with he
  simp only [Prod.mk.injEq] at he
  obtain ⟨rfl, rfl⟩ := he
  cases hv with | cons _ v _ vs g1 g2 =>
  cases g2 with | cons _ u _ vs g3 g4 =>
  cases g4
  cases g1
  cases g3
  refine value_ok hrel (v := .int .i64 (idxByte (UInt8.ofNat c.toNat) s 0)) ?_ (.int _ _)
  rw [run_callFunc_extern hf hn hb h1 h2]
  have := Lib.run_indexByteString (P := P) ⟨s.toArray⟩ c w
  have e : Extern.BytealgIndexByte.indexByte [Value.string ⟨s.toArray⟩, Value.int .u8 c].toArray = Extern.BytealgIndexByte.indexByte #[.string ⟨s.toArray⟩, .int .u8 c] := rfl
  rw [e, this, Result.andThen_ok, idxByte_lib]
  simp only [Nat.toUInt8_eq]
  split
  · rename_i h; simp [h]
  · simp

theorem extOK_2 (hf : P.funcs[f]? = some fn) (hb : fn.body.isNone = true) (hn : (fn.name == "runtime.NumGoroutine") = false) (h1 : Extern.findNext fn = none) (h2 : Extern.find fn = some Extern.BytealgCount.count) : ExtOK P H f 2 := by
  intro args h r h' he S B φ w vs hrel hv
  simp only [ext] at he
  split at he <;> first | (cases he; done) | skip
  all_goals (rename_i heq; try (cases heq; done))
  rename_i s c
  injection he with he
  simp only [Prod.mk.injEq] at he
  obtain ⟨rfl, rfl⟩ := he
  cases hv with | cons _ v _ vs g1 g2 =>
  cases g2 with | cons _ u _ vs g3 g4 =>
  cases g4
  cases g1
  cases g3
  refine value_ok hrel (v := .int .i64 (cntByte (UInt8.ofNat c.toNat) s : Nat)) ?_ (.int _ _)
  rw [run_callFunc_extern hf hn hb h1 h2]
  have := Lib.run_countString (P := P) ⟨s.toArray⟩ c w
  have e : Extern.BytealgCount.count [Value.string ⟨s.toArray⟩, Value.int .u8 c].toArray = Extern.BytealgCount.count #[.string ⟨s.toArray⟩, .int .u8 c] := rfl
  rw [e, this, Result.andThen_ok, cntByte_lib]
  try simp only [Nat.toUInt8_eq]

theorem extOK_4 (hf : P.funcs[f]? = some fn) (hb : fn.body.isNone = true) (hn : (fn.name == "runtime.NumGoroutine") = false) (h1 : Extern.findNext fn = none) (h2 : Extern.find fn = some Extern.AbiNoEscape.same) : ExtOK P H f 4 := by
  intro args h r h' he S B φ w vs hrel hv
  simp only [ext] at he
  split at he <;> first | (cases he; done) | skip
  all_goals (rename_i heq; try (cases heq; done))
  rename_i x
  injection he with he
  simp only [Prod.mk.injEq] at he
  obtain ⟨rfl, rfl⟩ := he
  cases hv with | cons _ v _ vs g1 g2 =>
  cases g2
  refine value_ok hrel (v := v) ?_ g1
  rw [run_callFunc_extern hf hn hb h1 h2]
  rfl

theorem extOK_10 {g : Nat} {m : Int} (hG : H.glob g = .vptr (.int .i64 m) 0) (hen : ∀ (vs : Array Value) (w : World), (callFunc f vs).run P w = .ok (.enter f vs) w)
    (hc : ∀ (s sub : ByteArray) (w : World), s.size < 4294967281 → w.cell? ⟨g, 0, none⟩ = some (.int .i64 m) →
      Calls P f #[.string s, .string sub] w fun e w' => e = .returned (.int .i64 (Lib.index s.data.toList sub.data.toList)) ∧ w' = w) : ExtOK P H f 10 := by
  intro args h r h' he S B φ w vs hrel hv
  simp only [ext] at he
  split at he <;> first | (cases he; done) | skip
  all_goals (rename_i heq; try (cases heq; done))
  rename_i s t
  split at he
  · rename_i hs
    injection he with he
    simp only [Prod.mk.injEq] at he
    obtain ⟨rfl, rfl⟩ := he
    cases hv with | cons _ v _ vs g1 g2 =>
    cases g2 with | cons _ u _ vs g3 g4 =>
    cases g4
    cases g1
    cases g3
    have hgl := hrel.glob g
    rw [hG] at hgl
    have hcell : w.cell? ⟨g, 0, none⟩ = some (.int .i64 m) := by
      generalize ha : Value.pointer (some ⟨g, 0, none⟩) = pv at hgl
      cases hgl with | vptr e off b o hc =>
      simp only [Value.pointer.injEq, Option.some.injEq, Addr.mk.injEq] at ha
      obtain ⟨rfl, ho, _⟩ := ha
      have : o = 0 := by omega
      subst this
      cases hc with | cons _ _ _ _ v h1 h2 h3 h4 h5 =>
      cases h1
      exact h3
    refine .inr ⟨hen _ w, (hc ⟨s.toArray⟩ ⟨t.toArray⟩ w hs.1 hcell).mono fun e w' ⟨h1, h2⟩ => ?_⟩
    subst h2
    refine ⟨_, φ, h1, hrel, Ext.refl .., ?_, Below.refl ..⟩
    rw [idxStr_lib]
    have e : (if Lib.index s t = -1 then -1 else Lib.index s t + ((0 : Nat) : Int)) = Lib.index s t := by split <;> simp_all
    rw [e]
    exact .int _ _
  · cases he

end
end Go.Proofs.VmX

/- For reading the small machine's code: frames, numbers, slices. -/
set_option linter.unusedVariables false
set_option linter.unusedSimpArgs false
set_option linter.unusedSectionVars false
namespace Go.Proofs.VmX

theorem b_t (b : Bool) : (b == true) = b := by cases b <;> rfl
theorem b_f (b : Bool) : (b == false) = !b := by cases b <;> rfl
theorem get_cons_zero (a : AV) (l : List AV) : get (a :: l) 0 = a := rfl
theorem get_cons_succ (a : AV) (l : List AV) (n : Nat) : get (a :: l) (n + 1) = get l n := rfl
theorem get_nil (n : Nat) : get [] n = .tup [] := rfl
theorem get_put_if (t : List AV) (i : Nat) (v : AV) (j : Nat) : get (put t i v) j = if i = j then v else get t j := get_put t i v j

theorem wr64 {n : Int} (h1 : -9223372036854775808 ≤ n) (h2 : n ≤ 9223372036854775807) : IntKind.i64.wrap n = n := by
  have e1 : ((2 : Int) ^ IntKind.i64.bits) = 18446744073709551616 := by decide
  have e2 : ((2 : Int) ^ (IntKind.i64.bits - 1)) = 9223372036854775808 := by decide
  simp only [IntKind.wrap, e1, e2, IntKind.signed, Bool.true_and, decide_eq_true_eq, ge_iff_le]
  split <;> omega
theorem wr32 {n : Int} (h1 : -2147483648 ≤ n) (h2 : n ≤ 2147483647) : IntKind.i32.wrap n = n := by
  have e1 : ((2 : Int) ^ IntKind.i32.bits) = 4294967296 := by decide
  have e2 : ((2 : Int) ^ (IntKind.i32.bits - 1)) = 2147483648 := by decide
  simp only [IntKind.wrap, e1, e2, IntKind.signed, Bool.true_and, decide_eq_true_eq, ge_iff_le]
  split <;> omega
theorem wru8 {n : Int} (h1 : 0 ≤ n) (h2 : n ≤ 255) : IntKind.u8.wrap n = n := by
  have e1 : ((2 : Int) ^ IntKind.u8.bits) = 256 := by decide
  simp only [IntKind.wrap, e1, IntKind.signed, Bool.false_and, Bool.false_eq_true, if_false]
  omega

theorem asNat_cast (k : IntKind) (n : Nat) : asNat (.int k (n : Int)) = some n := by simp [asNat]
theorem asNat_zero (k : IntKind) : asNat (.int k 0) = some 0 := by simp [asNat]
theorem asNat_one (k : IntKind) : asNat (.int k 1) = some 1 := by simp [asNat]
theorem asNat_of {k : IntKind} {n : Int} (h : 0 ≤ n) : asNat (.int k n) = some n.toNat := by simp [asNat, h]

/-! Objects. -/
theorem getA_def (h : Heap) (id : Nat) (o : Arr) (hi : h[id]? = some (.arr o)) : getA h id o.gen = some o := by simp [getA, hi]
theorem getA_lt {h : Heap} {id gen : Nat} {o : Arr} (hg : getA h id gen = some o) : id < h.length := by
  unfold getA at hg
  split at hg
  · rename_i x hx; exact (List.getElem?_eq_some_iff.1 hx).1
  · cases hg
theorem getA_app {h : Heap} {id gen : Nat} {o : Arr} (l : Heap) (hg : getA h id gen = some o) : getA (h ++ l) id gen = some o := by
  have := getA_lt hg
  unfold getA at hg ⊢
  rw [List.getElem?_append_left this]
  exact hg
theorem getA_new (h : Heap) (o : Arr) (n g : Nat) (hn : n = h.length) (hg : o.gen = g) : getA (h ++ [.arr o]) n g = some o := by
  subst hn hg
  simp [getA]
theorem getA_set_ne {h : Heap} {id id' gen : Nat} {x : Obj} (hne : id' ≠ id) : getA (h.set id' x) id gen = getA h id gen := by
  simp [getA, List.getElem?_set, hne]
theorem getA_set {h : Heap} {id : Nat} {o : Arr} (hl : id < h.length) : getA (h.set id (.arr o)) id o.gen = some o := by
  simp [getA, hl]

theorem snap_rf {h : Heap} {n : Nat} {r : AV} (hr : rf r = true) : snap h (n + 1) r = some r := by unfold snap; rw [if_pos hr]
theorem snap_deep_rf {h : Heap} {r : AV} (hr : rf r = true) : snap h deep r = some r := snap_rf hr

theorem cons_beq_nil {α : Type} [BEq α] (a : α) (l : List α) : (a :: l == []) = false := rfl
theorem nil_beq_cons {α : Type} [BEq α] (a : α) (l : List α) : ([] == a :: l) = false := rfl
theorem minMax_nil (m : Bool) (a : Int) (k : IntKind) : minMax m a [] k = some a := rfl
theorem min_le {a b : Int} (h : a ≤ b) (k : IntKind) : minMax false a [.int k b] k = some a := by simp only [minMax, if_true, Bool.false_eq_true, if_false]; rw [if_neg (by omega)]
theorem min_gt {a b : Int} (h : b < a) (k : IntKind) : minMax false a [.int k b] k = some b := by simp only [minMax, if_true, Bool.false_eq_true, if_false]; rw [if_pos h]

theorem castS (a : Nat) : ((a : Int) + 1) = ((a + 1 : Nat) : Int) := by simp
theorem castA (a b : Nat) : ((a : Int) + (b : Int)) = ((a + b : Nat) : Int) := by simp
theorem castP {a : Nat} (h : 1 ≤ a) : ((a : Int) - 1) = ((a - 1 : Nat) : Int) := by omega
theorem castM {a b : Nat} (h : b ≤ a) : ((a : Int) - (b : Int)) = ((a - b : Nat) : Int) := by omega
theorem ite_some {α : Type} {c : Prop} [Decidable c] (a : α) (h : c) : (if c then some a else none) = some a := if_pos h
theorem at_app {α : Type} (l : List α) (x : α) (r : List α) : (l ++ x :: r)[l.length]? = some x := by simp
theorem set_app {α : Type} (l : List α) (x y : α) (r : List α) : (l ++ x :: r).set l.length y = l ++ y :: r := by simp

theorem getA_zero (o : Arr) (l : Heap) (g : Nat) : getA (.arr o :: l) 0 g = if o.gen = g then some o else none := rfl
theorem getA_succ (x : Obj) (l : Heap) (n g : Nat) : getA (x :: l) (n + 1) g = getA l n g := rfl
theorem set_zero {α : Type} (x y : α) (l : List α) : (x :: l).set 0 y = y :: l := rfl
theorem set_succ {α : Type} (x y : α) (l : List α) (n : Nat) : (x :: l).set (n + 1) y = x :: l.set n y := rfl

theorem at_map_app {α β : Type} (f : α → β) (l : List α) (x : β) (r : List β) : (l.map f ++ x :: r)[l.length]? = some x := by simp
theorem set_map_app {α β : Type} (f : α → β) (l : List α) (x y : β) (r : List β) : (l.map f ++ x :: r).set l.length y = l.map f ++ y :: r := by simp

theorem sliceV_osl {sz id gen s i len l h : Nat} (hp : Heap) (h1 : l ≤ h) (h2 : h ≤ len) (h3 : l < h ∨ l = 0) : sliceV sz (.osl id gen s i len) l h hp = some (.osl id gen s (i + l) (h - l)) := by
  simp only [sliceV]; rw [if_pos ⟨h1, h2⟩, if_pos h3]
theorem sliceV_osl_nil {sz id gen s i len l h : Nat} (hp : Heap) (h1 : l = h) (h2 : h ≤ len) (h3 : 0 < l) : sliceV sz (.osl id gen s i len) l h hp = some (.sl false s []) := by
  simp only [sliceV]; rw [if_pos ⟨by omega, h2⟩, if_neg (by omega)]
theorem sliceV_sl {sz s l h : Nat} {e : Bool} {xs : List AV} (hp : Heap) (h1 : l ≤ h) (h2 : h ≤ xs.length) : sliceV sz (.sl e s xs) l h hp = some (.sl (e && h == xs.length) s ((xs.take h).drop l)) := by
  simp only [sliceV]; rw [if_pos ⟨h1, h2⟩]

theorem seqO_rf {h : Heap} {n : Nat} : ∀ {l : List AV}, rfs l = true → seqO (snap h (n + 1)) l = some l := by
  intro l
  induction l with
  | nil => intro _; rfl
  | cons a l ih =>
    intro hr
    simp only [rfs, Bool.and_eq_true] at hr
    simp only [seqO, snap_rf hr.1, ih hr.2, Option.bind_some, Option.map_some]
theorem snap_osl {h : Heap} {n id gen sz i len : Nat} {o : Arr} {ys : List AV} (hg : getA h id gen = some o) (hz : sz ≠ 0) (hl : i + len ≤ o.els.length) (hy : (o.els.drop i).take len = ys) (hr : rfs ys = true) :
    snap h (n + 2) (.osl id gen sz i len) = some (.sl false sz ys) := by
  unfold snap
  rw [if_neg (by simp [rf])]
  simp only [hg, Option.bind_some, if_pos (And.intro hz hl), hy, seqO_rf hr, Option.map_some]
theorem snapd_osl {h : Heap} {id gen sz i len : Nat} {o : Arr} {ys : List AV} (hg : getA h id gen = some o) (hz : sz ≠ 0) (hl : i + len ≤ o.els.length) (hy : (o.els.drop i).take len = ys) (hr : rfs ys = true) :
    snap h deep (.osl id gen sz i len) = some (.sl false sz ys) := snap_osl hg hz hl hy hr
theorem rfs_map {α : Type} {f : α → AV} (hf : ∀ a, rf (f a) = true) (l : List α) : rfs (l.map f) = true := by
  induction l with
  | nil => rfl
  | cons a l ih => simp only [List.map_cons, rfs, hf, ih, Bool.and_self]
theorem rfs_str (l : List (List UInt8)) : rfs (l.map .str) = true := rfs_map (fun _ => rfl) l

theorem ext10 (s t : List UInt8) (h : Heap) (hs : s.length < 4294967281) (ht : t.length < 4294967281) : ext 10 [.str s, .str t] h = some (.int .i64 (idxStr t s 0), h) := by
  simp only [ext]
  rw [if_pos ⟨hs, ht⟩]

theorem snap_bool {h : Heap} {n : Nat} {r : AV} {b : Bool} (hs : snap h n r = some (.bool b)) : r = .bool b := by
  cases n with
  | zero => simp [snap] at hs
  | succ n =>
    unfold snap at hs
    split at hs
    · injection hs
    · split at hs <;> simp_all [Option.bind_eq_some_iff, Option.map_eq_some_iff]

/-! Appends. -/
theorem appendV_nil {el sz bytes s0 : Nat} {ys : List AV} (h : Heap) (hne : ys ≠ []) (hr : roomOk ys.length bytes = true) :
    appendV el sz bytes (.sl true s0 []) ys h = some (.osl h.length 0 sz 0 ys.length, h ++ [.arr { gen := 0, els := ys, sz, el, lock := 0, cap := none }]) := by
  simp only [appendV, if_neg hne, Bool.true_and, List.isEmpty_nil, Bool.or_true, List.length_nil, Nat.zero_add, hr, List.nil_append, Bool.and_self, if_true]
theorem appendV_full {el sz bytes id gen lock : Nat} {xs ys : List AV} {cap : Option Nat} {h : Heap} (hg : getA h id gen = some ⟨gen, xs, sz, el, lock, cap⟩) (hne : ys ≠ []) (hr : roomOk (xs.length + ys.length) bytes = true) (hl : lock ≤ xs.length) :
    appendV el sz bytes (.osl id gen sz 0 xs.length) ys h =
      some (.osl id (gen + 1) sz 0 (xs.length + ys.length), h.set id (.arr { gen := gen + 1, els := xs ++ ys, sz, el, lock, cap := cap.bind fun c => if xs.length + ys.length ≤ c then some c else none })) := by
  simp only [appendV, hg, Option.bind_some, ne_eq, not_true_eq_false, or_self, if_false, Nat.zero_add, if_true, if_neg hne, hr, hl, and_self]
theorem appendV_room {el sz bytes id gen lock : Nat} {xs ys rest : List AV} {cap : Option Nat} {h : Heap} (hg : getA h id gen = some ⟨gen, xs ++ rest, sz, el, lock, cap⟩) (hrest : rest ≠ []) (hle : ys.length ≤ rest.length) (hl : lock ≤ xs.length) :
    appendV el sz bytes (.osl id gen sz 0 xs.length) ys h =
      some (.osl id gen sz 0 (xs.length + ys.length), h.set id (.arr { gen, els := xs ++ ys ++ rest.drop ys.length, sz, el, lock, cap })) := by
  have h1 : ¬ (0 + xs.length = (xs ++ rest).length) := by
    have : 0 < rest.length := List.length_pos_iff.2 hrest
    simp only [List.length_append]; omega
  have h2 : 0 + xs.length + ys.length ≤ (xs ++ rest).length ∧ lock ≤ 0 + xs.length := by simp only [List.length_append]; omega
  have h3 : List.drop (xs.length + ys.length) (xs ++ rest) = rest.drop ys.length := by rw [← List.drop_drop, List.drop_left]
  simp only [appendV, hg, Option.bind_some, ne_eq, not_true_eq_false, or_self, if_false, if_neg h1, if_pos h2]
  simp only [Nat.zero_add, List.take_left, h3]
theorem roomOk_of {n b : Nat} (hn : n ≤ 2097152) (hb : b ≤ 4096) : roomOk n b = true := by
  simp only [roomOk, decide_eq_true_eq]
  refine ⟨by omega, ?_⟩
  have : (2 * n + 192) * b ≤ 4194496 * 4096 := Nat.mul_le_mul (by omega) hb
  omega

theorem un_not (b : Bool) : un .not (.bool b) = some (.bool (!b)) := rfl
theorem un_neg (k : IntKind) (n : Int) : un .neg (.int k n) = some (.int k (k.wrap (0 - n))) := rfl

/-- A struct is built: part by part. -/
def fillB (t : List AV) : List AV → List (Nat × Nat × Opd) → Option (List AV)
  | cs, [] => some cs
  | cs, (off, n, x) :: l => if (opd t x).cells.length = n ∧ off + n ≤ cs.length ∧ (opd t x).cells.all AV.one = true then fillB t (cs.take off ++ (opd t x).cells ++ cs.drop (off + n)) l else none
theorem fillB_eq (t : List AV) : ∀ (l : List (Nat × Nat × Opd)) (cs : List AV), fillB t cs l = if (l.all fun p => (opd t p.2.2).cells.all AV.one) then fillParts cs (l.map fun p => (p.1, p.2.1, opd t p.2.2)) else none := by
  intro l
  induction l with
  | nil => intro cs; rfl
  | cons p l ih =>
    intro cs
    obtain ⟨off, n, x⟩ := p
    simp only [fillB, List.all_cons, List.map_cons, fillParts, ih]
    by_cases h1 : (opd t x).cells.all AV.one = true
    · simp only [h1, and_true, Bool.true_and]
      by_cases h2 : (opd t x).cells.length = n ∧ off + n ≤ cs.length
      · rw [if_pos h2]
        simp only [if_pos h2]
      · rw [if_neg h2]
        simp only [if_neg h2]
        split <;> rfl
    · simp only [Bool.not_eq_true] at h1
      simp only [h1, and_false, Bool.false_eq_true, if_false, Bool.false_and]

theorem getA_last (l : Heap) (o : Arr) (g : Nat) : getA (l ++ [.arr o]) l.length g = if o.gen = g then some o else none := by simp [getA]
theorem set_last {α : Type} (l : List α) (x y : α) : (l ++ [x]).set l.length y = l ++ [y] := by simp

theorem conv_int (k k' : IntKind) (n : Int) (h : Heap) : conv (.int k) (.int k' n) h = some (.int k (k.wrap n)) := rfl
theorem conv_same (s : List UInt8) (h : Heap) : conv .same (.str s) h = some (.str s) := rfl
theorem conv_intStr (k : IntKind) (n : Int) (h : Heap) : conv .intStr (.int k n) h = some (.str (Go.Utf8.encode n).data.toList) := rfl
theorem conv_strBytes (s : List UInt8) (h : Heap) : conv .strBytes (.str s) h = some (.sl false 1 (s.map byteAV)) := rfl
theorem conv_bytesStr (x : Bool) (z : Nat) (l : List AV) (h : Heap) : conv .bytesStr (.sl x z l) h = (seqO toByte l).map .str := rfl
theorem conv_runesStr (x : Bool) (z : Nat) (l : List AV) (h : Heap) : conv .runesStr (.sl x z l) h = (seqO toRune l).map fun m => .str m.flatten := rfl
theorem elsOf_sl (x : Bool) (z : Nat) (l : List AV) (h : Heap) : elsOf (.sl x z l) h = some l := rfl
theorem elsOf_str (s : List UInt8) (h : Heap) : elsOf (.str s) h = some (s.map byteAV) := rfl

end Go.Proofs.VmX

/- From a law's function of the small machine to its row: variables, arguments, what is left behind. -/
set_option linter.unusedVariables false
set_option linter.unusedSimpArgs false
set_option linter.unusedSectionVars false
namespace Go.Proofs.VmX
open Go.RowKit Go.ChangeShapes

section
variable {X : Type} {enc : TypeId × Value → X} {P : Program} {w : World} {held : Bool}

theorem plainT_le : ∀ (n : Nat) (t : TypeId), plainT P n t = true → ∀ m, n ≤ m → plainT P m t = true := by
  intro n
  induction n with
  | zero => intro t h; simp [plainT] at h
  | succ n ih =>
    intro t h m hm
    obtain ⟨m, rfl⟩ : ∃ k, m = k + 1 := ⟨m - 1, by omega⟩
    simp only [plainT] at h ⊢
    split at h <;> simp_all

theorem avs_le : ∀ (n : Nat) (t : TypeId), plainT P n t = true → ∀ (m : Nat) (d : DataW X), n ≤ m → avs P m t d = avs P n t d := by
  intro n
  induction n with
  | zero => intro t h; simp [plainT] at h
  | succ n ih =>
    intro t h m d hm
    obtain ⟨m, rfl⟩ : ∃ k, m = k + 1 := ⟨m - 1, by omega⟩
    have hm' : n ≤ m := by omega
    simp only [plainT] at h
    simp only [avs]
    split at h
    · rename_i hu; rw [hu]; cases d <;> first | rfl | (rename_i l; cases l <;> rfl)
    · rename_i hu; rw [hu]; cases d <;> first | rfl | (rename_i l; cases l <;> rfl)
    · rename_i hu; rw [hu]; cases d <;> first | rfl | (rename_i l; cases l <;> rfl)
    · rename_i e hu
      rw [hu]
      simp only [Bool.and_eq_true] at h
      cases d <;> first | rfl | (rename_i l; cases l <;> rfl) | skip
      have : (fun x : DataW X => mkEl (tagg P e) (avs P m e x)) = fun x => mkEl (tagg P e) (avs P n e x) := by
        funext x
        rw [ih e h.1.1.2 m x hm']
      simp only [this]
    · rename_i fs hu
      rw [hu]
      simp only [Bool.and_eq_true, List.all_eq_true] at h
      cases d <;> first | rfl | (rename_i l; cases l <;> rfl) | skip
      simp only
      congr 1
      refine List.map_congr_left fun x hx => ?_
      have := List.of_mem_zip hx
      exact ih _ (h.1.1 _ this.1) m _ hm'
    · rename_i k e hu
      rw [hu]
      simp only [Bool.and_eq_true] at h
      cases d <;> first | rfl | (rename_i l; cases l <;> rfl) | skip
      simp only
      congr 1
      exact List.map_congr_left fun x hx => ih _ h.1 m _ hm'
    · cases h

theorem trod_avs' {n N : Nat} {t : TypeId} {cs : List Value} {d : DataW X} {ps : List MemPlace} {base : Nat} (hp : plainT P N t = true) (h : DataW.trod enc P w base (fun _ => true) held n t cs = some (d, ps)) :
    VRs0 w (avs P N t d) cs ∧ (avs P N t d).length = P.cellsOf t ∧ (avs P N t d).all AV.one = true := by
  have h2 := DataW.trod_le (Nat.le_max_left n N) h
  have := trod_avs (max n N) t cs d ps (plainT_le N t hp _ (Nat.le_max_right n N)) h2
  rwa [avs_le N t hp _ d (Nat.le_max_right n N)] at this

/-- A variable of plain data. -/
theorem glob_plain {n : String} {g N fuel : Nat} {t : TypeId} {cs : Array Value} {d : DataW X} {p : List MemPlace} {xs : List AV} (hg : P.globalNamed n = some g) (hv : w.var? P n = some cs)
    (htr : DataW.trod enc P w 0 (fun _ => true) held fuel t cs.toList = some (d, p)) (hp : plainT P N t = true) (has : avs P N t d = xs) : VR0 w (.vptr (.agg xs) 0) (.pointer (some ⟨g, 0, none⟩)) := by
  obtain ⟨h1, h2, h3⟩ := trod_avs' hp htr
  rw [has] at h1 h2 h3
  have hc : ∀ (i : Nat) (v : Value), cs.toList[i]? = some v → w.cell? ⟨g, 0 + i, none⟩ = some v := by
    intro i v hi
    simp only [World.var?, hg, Option.bind_some] at hv
    split at hv
    · rename_i c t' fr hb
      injection hv with hv
      subst hv
      simp only [World.cell?, hb, Nat.zero_add]
      simpa using hi
    · cases hv
  exact .vptr (.agg xs) 0 g 0 (VC_of0 h1 h3 hc)

def litAV : Lit → AV
  | .string s => .str s
  | .int k n => .int k n
  | _ => .junk

theorem insert_perm (x : Lit × DataW X) : ∀ (l : List (Lit × DataW X)), (DataW.insert x l).Perm (x :: l) := by
  intro l
  induction l with
  | nil => exact List.Perm.refl _
  | cons y r ih =>
    unfold DataW.insert
    split
    · exact List.Perm.refl _
    · exact ((List.perm_cons y).2 ih).trans (List.Perm.swap x y r)
theorem foldr_perm (l : List (Lit × DataW X)) : (l.foldr DataW.insert []).Perm l := by
  induction l with
  | nil => exact List.Perm.refl _
  | cons x l ih => exact (insert_perm x _).trans ((List.perm_cons x).2 ih)

theorem perm_map_inv {α β : Type} {f : α → β} : ∀ {l : List α} {m : List β}, m.Perm (l.map f) → ∃ l' : List α, l'.Perm l ∧ l'.map f = m := by
  intro l m h
  generalize hm : l.map f = k at h
  induction h generalizing l with
  | nil => exact ⟨l, List.Perm.refl _, hm⟩
  | cons x h ih =>
    cases l with
    | nil => simp at hm
    | cons a l =>
      simp only [List.map_cons, List.cons.injEq] at hm
      obtain ⟨l', h1, h2⟩ := ih hm.2
      exact ⟨a :: l', (List.perm_cons a).2 h1, by simp [h2, hm.1]⟩
  | swap x y k =>
    match l, hm with
    | a :: b :: l, hm =>
      simp only [List.map_cons, List.cons.injEq] at hm
      exact ⟨b :: a :: l, List.Perm.swap a b l, by simp [hm]⟩
  | trans h1 h2 ih1 ih2 =>
    obtain ⟨l1, g1, g2⟩ := ih2 hm
    obtain ⟨l2, g3, g4⟩ := ih1 g2
    exact ⟨l2, g3.trans g1, g4⟩

theorem VRs_map0 {α : Type} {f : α → AV} {g : α → Value} : ∀ {l : List α}, (∀ x ∈ l, VR0 w (f x) (g x)) → VRs0 w (l.map f) (l.map g) := by
  intro l
  induction l with
  | nil => intro _; exact .nil
  | cons a l ih => intro h; exact .cons _ _ _ _ (h a (by simp)) (ih fun x hx => h x (by simp [hx]))

/-- A variable that holds a map from texts to numbers. -/
theorem glob_map {n : String} {g fuel : Nat} {t kt et : TypeId} {kk : IntKind} {cs : Array Value} {ents : List (Lit × DataW X)} {p : List MemPlace} (hg : P.globalNamed n = some g) (hv : w.var? P n = some cs)
    (ht : P.underlying t = some (.map kt et)) (hk : P.underlying kt = some .string) (he : P.underlying et = some (.int kk))
    (htr : DataW.trod enc P w 0 (fun _ => true) held fuel t cs.toList = some (.map ents, p)) (ks vs : List AV) (hks : ents.map (fun x => litAV x.1) = ks) (hvs : ents.map (fun x => match x.2 with | .lit (.int _ m) => AV.int kk m | _ => .junk) = vs)
    (hap : keysApart ks = true) : VR0 w (.vptr (.mp ks vs) 0) (.pointer (some ⟨g, 0, none⟩)) := by
  rcases open_anymap ht htr with ⟨_, hx⟩ | ⟨b, es, clock, _, hcs, hb, _, _, _⟩
  · simp at hx
  rw [hcs] at htr
  cases fuel with
  | zero => simp [DataW.trod] at htr
  | succ fuel =>
  unfold DataW.trod at htr
  simp only [ht, hb] at htr
  split at htr
  · rename_i hcond
    simp only [Option.bind_eq_some_iff] at htr
    obtain ⟨entries, hen, htr⟩ := htr
    split at htr
    · injection htr with htr
      simp only [Prod.mk.injEq, DataW.map.injEq] at htr
      obtain ⟨rfl, rfl⟩ := htr
      have hlen := mapM_some_length hen
      have hpt : ∀ q ∈ es.toList.zip entries, ∃ s : ByteArray, ∃ m : Int, q.1.key = .string s ∧ q.2.1.1 = .string s.data.toList ∧ q.1.val = .int kk m ∧ q.2.1.2 = .lit (.int kk m) := by
        intro q hq
        obtain ⟨i, hi, rfl⟩ := List.getElem_of_mem hq
        have hi1 : i < es.toList.length := by simp only [List.length_zip] at hi; omega
        have hi2 : i < entries.length := by omega
        have := mapM_some_get hen i _ (List.getElem?_eq_getElem hi1)
        rw [List.getElem?_eq_getElem hi2] at this
        simp only [List.getElem_zip]
        generalize es.toList[i] = x at *
        generalize entries[i] = y at *
        simp only [Option.bind_eq_some_iff] at this
        obtain ⟨key, h1, h2⟩ := this
        split at h2
        · rename_i hform
          simp only [Option.map_eq_some_iff] at h2
          obtain ⟨z, h3, rfl⟩ := h2
          obtain ⟨m, h4, h5, _⟩ := DataW.trod_int he h3
          cases hkey : x.key with
          | string s =>
            simp only [keyOf, hk, mapKey, hkey] at h1
            split at h1
            · injection h1 with h1
              refine ⟨s, m, rfl, h1.symm, ?_, by rw [h5]⟩
              cases hval : x.val with
              | agg c =>
                rw [hval] at hform
                simp [Value.formed, he] at hform
              | _ => rw [hval] at h4; first | (simp [Value.cells] at h4; done) | (simpa [Value.cells] using h4)
            · cases h1
          | _ => simp [keyOf, hk, mapKey, hkey] at h1
        · cases h2
      have hm1 : (es.toList.zip entries).map (·.1) = es.toList := by rw [List.map_fst_zip]; omega
      have hm2 : (es.toList.zip entries).map (fun q => q.2.1) = entries.map (·.1) := by
        rw [show (fun q : MapEntry × ((Lit × DataW X) × List MemPlace) => q.2.1) = (fun y : (Lit × DataW X) × List MemPlace => y.1) ∘ (fun q : MapEntry × ((Lit × DataW X) × List MemPlace) => q.2) from rfl, ← List.map_map, List.map_snd_zip]
        omega
      have hperm := foldr_perm (entries.map (·.1))
      rw [← hm2] at hperm
      obtain ⟨L, hL1, hL2⟩ := perm_map_inv hperm
      rw [hm2] at hL2
      have hLm : ∀ q ∈ L, q ∈ es.toList.zip entries := fun q hq => hL1.mem_iff.1 hq
      have hcell : w.cell? ⟨g, 0, none⟩ = some (.map (some b)) := by
        simp only [World.var?, hg, Option.bind_some] at hv
        split at hv
        · rename_i c t' fr hb2
          injection hv with hv
          subst hv
          simp only [World.cell?, hb2]
          have hh : c.toList = [.map (some b)] := hcs
          have : c[0]? = some (Value.map (some b)) := by rw [← Array.getElem?_toList, hh]; rfl
          simpa using this
        · cases hv
      subst hks hvs
      rw [← hL2, List.map_map, List.map_map]
      rw [← hL2, List.map_map] at hap
      have v1 : VRs0 w (L.map ((fun x : Lit × DataW X => litAV x.1) ∘ fun q => q.2.1)) ((L.map (·.1)).map (·.key)) := by
        rw [List.map_map]
        refine VRs_map0 fun q hq => ?_
        obtain ⟨s, m, h1, h2, h3, h4⟩ := hpt q (hLm q hq)
        simp only [Function.comp, h1, h2, litAV]
        exact .str _
      have v2 : VRs0 w (L.map ((fun x : Lit × DataW X => match x.2 with | .lit (.int _ m) => AV.int kk m | _ => .junk) ∘ fun q => q.2.1)) ((L.map (·.1)).map (·.val)) := by
        rw [List.map_map]
        refine VRs_map0 fun q hq => ?_
        obtain ⟨s, m, h1, h2, h3, h4⟩ := hpt q (hLm q hq)
        simp only [Function.comp, h3, h4]
        exact .int _ _
      have hper : (L.map (·.1)).Perm es.toList := by
        have := hL1.map (·.1)
        rwa [hm1] at this
      refine .vptr (.mp _ _) 0 g 0 (.cons _ _ _ _ (.map (some b)) (.mp _ _ b (L.map (·.1)) es.toList clock (by simpa using hb) hper hap v1 v2) rfl hcell (safe0 _ _) (.nil _ _))
    · cases htr
  · cases htr

/-- Of the listed variables. -/
theorem laid_one {P : Program} {w : World} : ∀ {l : List (String × DataW Unit)} {ps : List MemPlace}, DataW.LaidVars P w l ps → ∀ x ∈ l, ∃ g t cs fuel p, P.globalNamed x.1 = some g ∧ (P.globals[g]?).map (·.type) = some t ∧ w.var? P x.1 = some cs ∧
    DataW.trod (fun _ => ()) P w 0 (fun _ => true) false fuel t cs.toList = some (x.2, p) := by
  intro l
  induction l with
  | nil => intro ps _ x hx; cases hx
  | cons y l ih =>
    intro ps h x hx
    obtain ⟨n, d⟩ := y
    obtain ⟨g, t, cs, fuel, p, q, h1, h2, h3, h4, h5, _⟩ := h
    rcases List.mem_cons.1 hx with rfl | hx
    · exact ⟨g, t, cs, fuel, p, h1, h2, h3, h4⟩
    · exact ih h5 x hx


/-- What a law's call leaves behind. -/
theorem same_below {w w' : World} (hb : Below w.heap.size w w') {p : MemPlace} (hp : p.block < w.heap.size) : w.sameAt w' p := by
  cases p with
  | cell b off => simp only [World.sameAt, World.cell?]; rw [hb.block b hp]
  | map b => exact hb.block b hp

theorem trodAll_keep {N : Nat} {w w' : World} {sp : Nat → Bool} : ∀ {ts : List TypeId} {vs : List Value} {ds : List (DataW X)} {ps : List MemPlace}, (∀ t ∈ ts, plainT P N t = true) → DataW.TrodAll enc P w 0 (fun _ => true) true ts vs ds ps →
    (∀ p ∈ ps, w.sameAt w' p) → (∀ p ∈ ps, sp p.block = true) → DataW.TrodAll enc P w' 0 sp true ts vs ds ps
  | [], [], [], ps, _, h, _, _ => h
  | t :: ts, v :: vs, d :: ds, ps, hp, ⟨p, q, ⟨n, h1⟩, h2, e⟩, hs, hsp => by
    subst e
    have a := DataW.trod_le (Nat.le_max_left n N) h1
    have b := trod_sp (sp := sp) (max n N) t _ _ (plainT_le N t (hp t (by simp)) _ (Nat.le_max_right n N)) a (fun x hx => hsp x (List.mem_append_left _ hx))
    have c := DataW.trod_carry (w' := w') _ _ _ _ b (fun x hx => hs x (List.mem_append_left _ hx))
    exact ⟨p, q, ⟨_, c⟩, trodAll_keep (fun t ht => hp t (by simp [ht])) h2 (fun x hx => hs x (List.mem_append_right _ hx)) (fun x hx => hsp x (List.mem_append_right _ hx)), rfl⟩
  | [], _ :: _, _, _, _, h, _, _ => h.elim
  | [], [], _ :: _, _, _, h, _, _ => h.elim
  | _ :: _, [], _, _, _, h, _, _ => h.elim
  | _ :: _, _ :: _, [], _, _, h, _, _ => h.elim

theorem law_post {N : Nat} {fn : Func} {s : ChangeSpec} {apart fresh handsOn again : Bool} {W W' : World} {args : Array Value} {ds gs : List (DataW X)} {before : List MemPlace} {tb : TypeId}
    (hW : DataW.Whole enc P fn.params.toList s.vars apart W args.toList ds gs before) (hvars : s.vars = []) (hfn : s.fn X (ds ++ gs) = { results := [.lit (.bool true)], args := ds })
    (hp : ∀ t ∈ fn.params.toList, plainT P N t = true) (hr : fn.resultTypes = #[tb]) (htb : P.underlying tb = some .bool) (hb : Below W.heap.size W W') :
    s.post enc P fn apart fresh handsOn again W args (.bool true) W' := by
  have hlt := hW.lt
  have hW2 := hW
  obtain ⟨p, q, hA, hV, rfl, hfz, hnd⟩ := hW2
  rw [hvars] at hV
  have hVn : gs = [] ∧ q = [] := by
    cases gs with
    | nil => exact ⟨rfl, hV⟩
    | cons _ _ => exact hV.elim
  obtain ⟨rfl, rfl⟩ := hVn
  simp only [List.append_nil] at hlt hfz hnd hfn hW
  have hsame : ∀ x ∈ p, W.sameAt W' x := fun x hx => same_below hb (hlt x hx)
  have hres : ∀ (b : Nat) (sp : Nat → Bool) (hd : Bool), DataW.TrodAll enc P W' b sp hd fn.resultTypes.toList ((Value.bool true).resultList fn.resultTypes.size) [.lit (.bool true)] [] := by
    intro b sp hd
    rw [hr]
    exact trodAll_cons_mk (shut_bool htb true) trodAll_mk0
  have hargs : ∀ sp : Nat → Bool, (∀ x ∈ p, sp x.block = true) → DataW.TrodAll enc P W' 0 sp true fn.params.toList args.toList ds p := fun sp hsp => trodAll_keep hp hA hsame hsp
  refine ⟨ds, [], p, [], p, [], by simpa using hW, ?_, ?_, ?_, ?_, fun _ => ⟨?_, .lit (.bool true) :: ds, [], p, ⟨p, [], ?_, ?_, by simp, ?_, ?_⟩, ?_⟩⟩
  · rw [List.append_nil, hfn]; exact hres _ _ _
  · rw [List.append_nil, hfn]; exact hargs _ fun x hx => by simpa using hlt x hx
  · rw [List.append_nil, hfn, hvars]; rfl
  · exact hb.frame _
  · exact ok_one hr rfl (okWide_bool_mk htb true)
  · exact trodAll_append (hargs _ (fun _ _ => rfl)) (hres _ _ _)
  · rw [hvars]; rfl
  · intro b off hx
    have := hfz b off hx
    have hbk := hb.block b (hlt _ hx)
    simp only [World.frozen?] at this ⊢
    rw [hbk]
    exact this
  · exact hnd
  · intro x hx _; exact hx

end
end Go.Proofs.VmX

/- One equation an operation: MADE BY PROGRAM (mkops.py). -/
set_option linter.unusedVariables false
set_option linter.unusedSectionVars false
namespace Go.Proofs.VmX
section
variable {E : Env} {res : List CRes} {R : AV → Heap → Prop} {K : List CIt} {t : List AV} {h : Heap} {hs : List Heap} {dst : Option Nat} {l : List CI} {eff : Bool} {dl : List DI} {ck : List CK}
theorem EOp_mv (a0 : Opd) : EOp E res R (.mv a0) dst l K t h = EBnd E res R (evOp E noCall t h (.mv a0)) dst l K t := EOp_plain rfl
theorem DOp_mv (a0 : Opd) : DOp E res R h (.mv a0) dst eff ck dl K t hs = DBnd E res R (evOp E noCall t h (.mv a0)) dst eff ck dl K t hs := DOp_plain rfl
theorem EOp_nilCheck (a0 : Opd) : EOp E res R (.nilCheck a0) dst l K t h = EBnd E res R (evOp E noCall t h (.nilCheck a0)) dst l K t := EOp_plain rfl
theorem DOp_nilCheck (a0 : Opd) : DOp E res R h (.nilCheck a0) dst eff ck dl K t hs = DBnd E res R (evOp E noCall t h (.nilCheck a0)) dst eff ck dl K t hs := DOp_plain rfl
theorem EOp_pick (a0 : Opd) (a1 : Opd) (a2 : Opd) : EOp E res R (.pick a0 a1 a2) dst l K t h = EBnd E res R (evOp E noCall t h (.pick a0 a1 a2)) dst l K t := EOp_plain rfl
theorem DOp_pick (a0 : Opd) (a1 : Opd) (a2 : Opd) : DOp E res R h (.pick a0 a1 a2) dst eff ck dl K t hs = DBnd E res R (evOp E noCall t h (.pick a0 a1 a2)) dst eff ck dl K t hs := DOp_plain rfl
theorem EOp_alloc (a0 : AV) (a1 : Nat) (a2 : Nat) : EOp E res R (.alloc a0 a1 a2) dst l K t h = EBnd E res R (evOp E noCall t h (.alloc a0 a1 a2)) dst l K t := EOp_plain rfl
theorem DOp_alloc (a0 : AV) (a1 : Nat) (a2 : Nat) : DOp E res R h (.alloc a0 a1 a2) dst eff ck dl K t hs = DBnd E res R (evOp E noCall t h (.alloc a0 a1 a2)) dst eff ck dl K t hs := DOp_plain rfl
theorem EOp_box (a0 : Nat) (a1 : Nat) (a2 : Opd) : EOp E res R (.box a0 a1 a2) dst l K t h = EBnd E res R (evOp E noCall t h (.box a0 a1 a2)) dst l K t := EOp_plain rfl
theorem DOp_box (a0 : Nat) (a1 : Nat) (a2 : Opd) : DOp E res R h (.box a0 a1 a2) dst eff ck dl K t hs = DBnd E res R (evOp E noCall t h (.box a0 a1 a2)) dst eff ck dl K t hs := DOp_plain rfl
theorem EOp_build (a0 : List AV) (a1 : List (Nat × Nat × Opd)) : EOp E res R (.build a0 a1) dst l K t h = EBnd E res R (evOp E noCall t h (.build a0 a1)) dst l K t := EOp_plain rfl
theorem DOp_build (a0 : List AV) (a1 : List (Nat × Nat × Opd)) : DOp E res R h (.build a0 a1) dst eff ck dl K t hs = DBnd E res R (evOp E noCall t h (.build a0 a1)) dst eff ck dl K t hs := DOp_plain rfl
theorem EOp_bsl (a0 : Nat) (a1 : List Opd) : EOp E res R (.bsl a0 a1) dst l K t h = EBnd E res R (evOp E noCall t h (.bsl a0 a1)) dst l K t := EOp_plain rfl
theorem DOp_bsl (a0 : Nat) (a1 : List Opd) : DOp E res R h (.bsl a0 a1) dst eff ck dl K t hs = DBnd E res R (evOp E noCall t h (.bsl a0 a1)) dst eff ck dl K t hs := DOp_plain rfl
theorem EOp_load (a0 : Bool) (a1 : Nat) (a2 : Opd) : EOp E res R (.load a0 a1 a2) dst l K t h = EBnd E res R (evOp E noCall t h (.load a0 a1 a2)) dst l K t := EOp_plain rfl
theorem DOp_load (a0 : Bool) (a1 : Nat) (a2 : Opd) : DOp E res R h (.load a0 a1 a2) dst eff ck dl K t hs = DBnd E res R (evOp E noCall t h (.load a0 a1 a2)) dst eff ck dl K t hs := DOp_plain rfl
theorem EOp_store (a0 : Nat) (a1 : Opd) (a2 : Opd) : EOp E res R (.store a0 a1 a2) dst l K t h = EBnd E res R (evOp E noCall t h (.store a0 a1 a2)) dst l K t := EOp_plain rfl
theorem DOp_store (a0 : Nat) (a1 : Opd) (a2 : Opd) : DOp E res R h (.store a0 a1 a2) dst eff ck dl K t hs = DBnd E res R (evOp E noCall t h (.store a0 a1 a2)) dst eff ck dl K t hs := DOp_plain rfl
theorem EOp_bin (a0 : Nat) (a1 : BinOp) (a2 : Opd) (a3 : Opd) : EOp E res R (.bin a0 a1 a2 a3) dst l K t h = EBnd E res R (evOp E noCall t h (.bin a0 a1 a2 a3)) dst l K t := EOp_plain rfl
theorem DOp_bin (a0 : Nat) (a1 : BinOp) (a2 : Opd) (a3 : Opd) : DOp E res R h (.bin a0 a1 a2 a3) dst eff ck dl K t hs = DBnd E res R (evOp E noCall t h (.bin a0 a1 a2 a3)) dst eff ck dl K t hs := DOp_plain rfl
theorem EOp_eqs (a0 : Bool) (a1 : List Nat) (a2 : Opd) (a3 : Opd) : EOp E res R (.eqs a0 a1 a2 a3) dst l K t h = EBnd E res R (evOp E noCall t h (.eqs a0 a1 a2 a3)) dst l K t := EOp_plain rfl
theorem DOp_eqs (a0 : Bool) (a1 : List Nat) (a2 : Opd) (a3 : Opd) : DOp E res R h (.eqs a0 a1 a2 a3) dst eff ck dl K t hs = DBnd E res R (evOp E noCall t h (.eqs a0 a1 a2 a3)) dst eff ck dl K t hs := DOp_plain rfl
theorem EOp_un (a0 : UnOp) (a1 : Opd) : EOp E res R (.un a0 a1) dst l K t h = EBnd E res R (evOp E noCall t h (.un a0 a1)) dst l K t := EOp_plain rfl
theorem DOp_un (a0 : UnOp) (a1 : Opd) : DOp E res R h (.un a0 a1) dst eff ck dl K t hs = DBnd E res R (evOp E noCall t h (.un a0 a1)) dst eff ck dl K t hs := DOp_plain rfl
theorem EOp_conv (a0 : Cv) (a1 : Opd) : EOp E res R (.conv a0 a1) dst l K t h = EBnd E res R (evOp E noCall t h (.conv a0 a1)) dst l K t := EOp_plain rfl
theorem DOp_conv (a0 : Cv) (a1 : Opd) : DOp E res R h (.conv a0 a1) dst eff ck dl K t hs = DBnd E res R (evOp E noCall t h (.conv a0 a1)) dst eff ck dl K t hs := DOp_plain rfl
theorem EOp_fld (a0 : Nat) (a1 : Opd) : EOp E res R (.fld a0 a1) dst l K t h = EBnd E res R (evOp E noCall t h (.fld a0 a1)) dst l K t := EOp_plain rfl
theorem DOp_fld (a0 : Nat) (a1 : Opd) : DOp E res R h (.fld a0 a1) dst eff ck dl K t hs = DBnd E res R (evOp E noCall t h (.fld a0 a1)) dst eff ck dl K t hs := DOp_plain rfl
theorem EOp_part (a0 : Bool) (a1 : Nat) (a2 : Nat) (a3 : Opd) : EOp E res R (.part a0 a1 a2 a3) dst l K t h = EBnd E res R (evOp E noCall t h (.part a0 a1 a2 a3)) dst l K t := EOp_plain rfl
theorem DOp_part (a0 : Bool) (a1 : Nat) (a2 : Nat) (a3 : Opd) : DOp E res R h (.part a0 a1 a2 a3) dst eff ck dl K t hs = DBnd E res R (evOp E noCall t h (.part a0 a1 a2 a3)) dst eff ck dl K t hs := DOp_plain rfl
theorem EOp_idxS (a0 : Nat) (a1 : Opd) (a2 : Opd) : EOp E res R (.idxS a0 a1 a2) dst l K t h = EBnd E res R (evOp E noCall t h (.idxS a0 a1 a2)) dst l K t := EOp_plain rfl
theorem DOp_idxS (a0 : Nat) (a1 : Opd) (a2 : Opd) : DOp E res R h (.idxS a0 a1 a2) dst eff ck dl K t hs = DBnd E res R (evOp E noCall t h (.idxS a0 a1 a2)) dst eff ck dl K t hs := DOp_plain rfl
theorem EOp_idxA (a0 : Nat) (a1 : Nat) (a2 : Opd) (a3 : Opd) : EOp E res R (.idxA a0 a1 a2 a3) dst l K t h = EBnd E res R (evOp E noCall t h (.idxA a0 a1 a2 a3)) dst l K t := EOp_plain rfl
theorem DOp_idxA (a0 : Nat) (a1 : Nat) (a2 : Opd) (a3 : Opd) : DOp E res R h (.idxA a0 a1 a2 a3) dst eff ck dl K t hs = DBnd E res R (evOp E noCall t h (.idxA a0 a1 a2 a3)) dst eff ck dl K t hs := DOp_plain rfl
theorem EOp_idxStr (a0 : Opd) (a1 : Opd) : EOp E res R (.idxStr a0 a1) dst l K t h = EBnd E res R (evOp E noCall t h (.idxStr a0 a1)) dst l K t := EOp_plain rfl
theorem DOp_idxStr (a0 : Opd) (a1 : Opd) : DOp E res R h (.idxStr a0 a1) dst eff ck dl K t hs = DBnd E res R (evOp E noCall t h (.idxStr a0 a1)) dst eff ck dl K t hs := DOp_plain rfl
theorem EOp_idxAgg (a0 : Bool) (a1 : Nat) (a2 : Nat) (a3 : Opd) (a4 : Opd) : EOp E res R (.idxAgg a0 a1 a2 a3 a4) dst l K t h = EBnd E res R (evOp E noCall t h (.idxAgg a0 a1 a2 a3 a4)) dst l K t := EOp_plain rfl
theorem DOp_idxAgg (a0 : Bool) (a1 : Nat) (a2 : Nat) (a3 : Opd) (a4 : Opd) : DOp E res R h (.idxAgg a0 a1 a2 a3 a4) dst eff ck dl K t hs = DBnd E res R (evOp E noCall t h (.idxAgg a0 a1 a2 a3 a4)) dst eff ck dl K t hs := DOp_plain rfl
theorem EOp_sliceStr (a0 : Opd) (a1 : Option Opd) (a2 : Option Opd) : EOp E res R (.sliceStr a0 a1 a2) dst l K t h = EBnd E res R (evOp E noCall t h (.sliceStr a0 a1 a2)) dst l K t := EOp_plain rfl
theorem DOp_sliceStr (a0 : Opd) (a1 : Option Opd) (a2 : Option Opd) : DOp E res R h (.sliceStr a0 a1 a2) dst eff ck dl K t hs = DBnd E res R (evOp E noCall t h (.sliceStr a0 a1 a2)) dst eff ck dl K t hs := DOp_plain rfl
theorem EOp_slice (a0 : Nat) (a1 : Opd) (a2 : Option Opd) (a3 : Option Opd) (a4 : Option Opd) : EOp E res R (.slice a0 a1 a2 a3 a4) dst l K t h = EBnd E res R (evOp E noCall t h (.slice a0 a1 a2 a3 a4)) dst l K t := EOp_plain rfl
theorem DOp_slice (a0 : Nat) (a1 : Opd) (a2 : Option Opd) (a3 : Option Opd) (a4 : Option Opd) : DOp E res R h (.slice a0 a1 a2 a3 a4) dst eff ck dl K t hs = DBnd E res R (evOp E noCall t h (.slice a0 a1 a2 a3 a4)) dst eff ck dl K t hs := DOp_plain rfl
theorem EOp_sliceArr (a0 : Nat) (a1 : Nat) (a2 : Opd) (a3 : Option Opd) (a4 : Option Opd) : EOp E res R (.sliceArr a0 a1 a2 a3 a4) dst l K t h = EBnd E res R (evOp E noCall t h (.sliceArr a0 a1 a2 a3 a4)) dst l K t := EOp_plain rfl
theorem DOp_sliceArr (a0 : Nat) (a1 : Nat) (a2 : Opd) (a3 : Option Opd) (a4 : Option Opd) : DOp E res R h (.sliceArr a0 a1 a2 a3 a4) dst eff ck dl K t hs = DBnd E res R (evOp E noCall t h (.sliceArr a0 a1 a2 a3 a4)) dst eff ck dl K t hs := DOp_plain rfl
theorem EOp_extract (a0 : Opd) (a1 : Nat) : EOp E res R (.extract a0 a1) dst l K t h = EBnd E res R (evOp E noCall t h (.extract a0 a1)) dst l K t := EOp_plain rfl
theorem DOp_extract (a0 : Opd) (a1 : Nat) : DOp E res R h (.extract a0 a1) dst eff ck dl K t hs = DBnd E res R (evOp E noCall t h (.extract a0 a1)) dst eff ck dl K t hs := DOp_plain rfl
theorem EOp_len (a0 : Bool) (a1 : Opd) : EOp E res R (.len a0 a1) dst l K t h = EBnd E res R (evOp E noCall t h (.len a0 a1)) dst l K t := EOp_plain rfl
theorem DOp_len (a0 : Bool) (a1 : Opd) : DOp E res R h (.len a0 a1) dst eff ck dl K t hs = DBnd E res R (evOp E noCall t h (.len a0 a1)) dst eff ck dl K t hs := DOp_plain rfl
theorem EOp_cap (a0 : Opd) : EOp E res R (.cap a0) dst l K t h = EBnd E res R (evOp E noCall t h (.cap a0)) dst l K t := EOp_plain rfl
theorem DOp_cap (a0 : Opd) : DOp E res R h (.cap a0) dst eff ck dl K t hs = DBnd E res R (evOp E noCall t h (.cap a0)) dst eff ck dl K t hs := DOp_plain rfl
theorem EOp_append (a0 : Nat) (a1 : Nat) (a2 : Nat) (a3 : Opd) (a4 : Opd) : EOp E res R (.append a0 a1 a2 a3 a4) dst l K t h = EBnd E res R (evOp E noCall t h (.append a0 a1 a2 a3 a4)) dst l K t := EOp_plain rfl
theorem DOp_append (a0 : Nat) (a1 : Nat) (a2 : Nat) (a3 : Opd) (a4 : Opd) : DOp E res R h (.append a0 a1 a2 a3 a4) dst eff ck dl K t hs = DBnd E res R (evOp E noCall t h (.append a0 a1 a2 a3 a4)) dst eff ck dl K t hs := DOp_plain rfl
theorem EOp_appendZ (a0 : Nat) (a1 : Nat) (a2 : Nat) (a3 : AV) (a4 : Opd) (a5 : Opd) : EOp E res R (.appendZ a0 a1 a2 a3 a4 a5) dst l K t h = EBnd E res R (evOp E noCall t h (.appendZ a0 a1 a2 a3 a4 a5)) dst l K t := EOp_plain rfl
theorem DOp_appendZ (a0 : Nat) (a1 : Nat) (a2 : Nat) (a3 : AV) (a4 : Opd) (a5 : Opd) : DOp E res R h (.appendZ a0 a1 a2 a3 a4 a5) dst eff ck dl K t hs = DBnd E res R (evOp E noCall t h (.appendZ a0 a1 a2 a3 a4 a5)) dst eff ck dl K t hs := DOp_plain rfl
theorem EOp_copy (a0 : Nat) (a1 : Opd) (a2 : Opd) : EOp E res R (.copy a0 a1 a2) dst l K t h = EBnd E res R (evOp E noCall t h (.copy a0 a1 a2)) dst l K t := EOp_plain rfl
theorem DOp_copy (a0 : Nat) (a1 : Opd) (a2 : Opd) : DOp E res R h (.copy a0 a1 a2) dst eff ck dl K t hs = DBnd E res R (evOp E noCall t h (.copy a0 a1 a2)) dst eff ck dl K t hs := DOp_plain rfl
theorem EOp_mm (a0 : Bool) (a1 : Opd) (a2 : List Opd) : EOp E res R (.mm a0 a1 a2) dst l K t h = EBnd E res R (evOp E noCall t h (.mm a0 a1 a2)) dst l K t := EOp_plain rfl
theorem DOp_mm (a0 : Bool) (a1 : Opd) (a2 : List Opd) : DOp E res R h (.mm a0 a1 a2) dst eff ck dl K t hs = DBnd E res R (evOp E noCall t h (.mm a0 a1 a2)) dst eff ck dl K t hs := DOp_plain rfl
theorem EOp_mkSlice (a0 : Nat) (a1 : Nat) (a2 : Nat) (a3 : AV) (a4 : Opd) (a5 : Opd) : EOp E res R (.mkSlice a0 a1 a2 a3 a4 a5) dst l K t h = EBnd E res R (evOp E noCall t h (.mkSlice a0 a1 a2 a3 a4 a5)) dst l K t := EOp_plain rfl
theorem DOp_mkSlice (a0 : Nat) (a1 : Nat) (a2 : Nat) (a3 : AV) (a4 : Opd) (a5 : Opd) : DOp E res R h (.mkSlice a0 a1 a2 a3 a4 a5) dst eff ck dl K t hs = DBnd E res R (evOp E noCall t h (.mkSlice a0 a1 a2 a3 a4 a5)) dst eff ck dl K t hs := DOp_plain rfl
theorem EOp_mkFn (a0 : Nat) (a1 : List Opd) (a2 : List Opd) : EOp E res R (.mkFn a0 a1 a2) dst l K t h = EBnd E res R (evOp E noCall t h (.mkFn a0 a1 a2)) dst l K t := EOp_plain rfl
theorem DOp_mkFn (a0 : Nat) (a1 : List Opd) (a2 : List Opd) : DOp E res R h (.mkFn a0 a1 a2) dst eff ck dl K t hs = DBnd E res R (evOp E noCall t h (.mkFn a0 a1 a2)) dst eff ck dl K t hs := DOp_plain rfl
theorem EOp_lookup (a0 : Nat) (a1 : AV) (a2 : Bool) (a3 : Opd) (a4 : Opd) : EOp E res R (.lookup a0 a1 a2 a3 a4) dst l K t h = EBnd E res R (evOp E noCall t h (.lookup a0 a1 a2 a3 a4)) dst l K t := EOp_plain rfl
theorem DOp_lookup (a0 : Nat) (a1 : AV) (a2 : Bool) (a3 : Opd) (a4 : Opd) : DOp E res R h (.lookup a0 a1 a2 a3 a4) dst eff ck dl K t hs = DBnd E res R (evOp E noCall t h (.lookup a0 a1 a2 a3 a4)) dst eff ck dl K t hs := DOp_plain rfl
theorem EOp_rangeS (a0 : Opd) : EOp E res R (.rangeS a0) dst l K t h = EBnd E res R (evOp E noCall t h (.rangeS a0)) dst l K t := EOp_plain rfl
theorem DOp_rangeS (a0 : Opd) : DOp E res R h (.rangeS a0) dst eff ck dl K t hs = DBnd E res R (evOp E noCall t h (.rangeS a0)) dst eff ck dl K t hs := DOp_plain rfl
theorem EOp_nextS (a0 : Opd) : EOp E res R (.nextS a0) dst l K t h = EBnd E res R (evOp E noCall t h (.nextS a0)) dst l K t := EOp_plain rfl
theorem DOp_nextS (a0 : Opd) : DOp E res R h (.nextS a0) dst eff ck dl K t hs = DBnd E res R (evOp E noCall t h (.nextS a0)) dst eff ck dl K t hs := DOp_plain rfl
theorem EOp_iface  : EOp E res R .iface dst l K t h = EBnd E res R (evOp E noCall t h .iface) dst l K t := EOp_plain rfl
theorem DOp_iface  : DOp E res R h .iface dst eff ck dl K t hs = DBnd E res R (evOp E noCall t h .iface) dst eff ck dl K t hs := DOp_plain rfl
theorem EOp_build2 (z : List AV) (p : List (Nat × Nat × Opd)) : EOp E res R (.build z p) dst l K t h = EBnd E res R ((fillB t z p).map fun cs => (.agg cs, h)) dst l K t := by
  rw [EOp_build, fillB_eq]
  simp only [evOp]
  split <;> rfl
theorem DOp_build2 (z : List AV) (p : List (Nat × Nat × Opd)) : DOp E res R h (.build z p) dst eff ck dl K t hs = DBnd E res R ((fillB t z p).map fun cs => (.agg cs, h)) dst eff ck dl K t hs := by
  rw [DOp_build, fillB_eq]
  simp only [evOp]
  split <;> rfl
end
end Go.Proofs.VmX

/- Slices that a function makes itself, by appends. -/
set_option linter.unusedVariables false
set_option linter.unusedSimpArgs false
namespace Go.Proofs.VmX

def AV.oid : AV → Option Nat
  | .osl id .. => some id
  | _ => none

/-- A slice of so many elements, that may be appended to. -/
def Own (h : Heap) (v : AV) (sz el : Nat) (xs : List AV) : Prop :=
  (xs = [] ∧ v = .sl true 0 []) ∨ ∃ id g lock c, xs ≠ [] ∧ v = .osl id g sz 0 xs.length ∧ getA h id g = some ⟨g, xs, sz, el, lock, c⟩ ∧ lock ≤ xs.length

theorem Own.nil (h : Heap) (sz el : Nat) : Own h (.sl true 0 []) sz el [] := .inl ⟨rfl, rfl⟩

/-- What stays of a heap, but for one object. -/
def Kept (v : Option Nat) (h h' : Heap) : Prop := h.length ≤ h'.length ∧ ∀ id, id < h.length → v ≠ some id → h'[id]? = h[id]?
theorem Kept.refl (v : Option Nat) (h : Heap) : Kept v h h := ⟨Nat.le_refl _, fun _ _ _ => rfl⟩
theorem Kept.more (v : Option Nat) (h l : Heap) : Kept v h (h ++ l) := ⟨by simp, fun id hi _ => List.getElem?_append_left hi⟩
theorem Kept.getA {v : Option Nat} {h h' : Heap} (k : Kept v h h') {id g : Nat} {o : Arr} (hg : getA h id g = some o) (hn : v ≠ some id) : getA h' id g = some o := by
  have := getA_lt hg
  unfold VmX.getA at hg ⊢
  rw [k.2 id this hn]
  exact hg

theorem Own.app {h : Heap} {v : AV} {sz el bytes : Nat} {xs : List AV} (o : Own h v sz el xs) (ys : List AV) (hne : ys ≠ []) (hl : xs.length + ys.length ≤ 2097152) (hb : bytes ≤ 4096) :
    ∃ v' h', appendV el sz bytes v ys h = some (v', h') ∧ Own h' v' sz el (xs ++ ys) ∧ Kept v.oid h h' ∧ (v'.oid = v.oid ∨ v'.oid = some h.length) := by
  rcases o with ⟨rfl, rfl⟩ | ⟨id, g, lock, c, hxs, rfl, hg, hlk⟩
  · simp only [List.length_nil, Nat.zero_add] at hl
    refine ⟨_, _, appendV_nil h hne (roomOk_of hl hb), .inr ⟨h.length, 0, 0, none, by simpa using hne, by simp, ?_, by simp⟩, Kept.more _ _ _, .inr rfl⟩
    exact getA_new h ⟨0, ys, sz, el, 0, none⟩ h.length 0 rfl rfl
  · have hid := getA_lt hg
    have hs := getA_set (h := h) (id := id) (o := ⟨g + 1, xs ++ ys, sz, el, lock, c.bind fun c => if xs.length + ys.length ≤ c then some c else none⟩) hid
    refine ⟨_, _, appendV_full hg hne (roomOk_of hl hb) hlk, .inr ⟨id, g + 1, lock, _, by simp [hne], by simp, hs, by simp; omega⟩, ⟨by simp, fun i hi hn => ?_⟩, .inl rfl⟩
    · have : id ≠ i := fun e => hn (by rw [e]; rfl)
      rw [List.getElem?_set_ne this]

theorem Own.keep {h h' : Heap} {w : AV} {v : Option Nat} {sz el : Nat} {xs : List AV} (o : Own h w sz el xs) (k : Kept v h h') (hn : ∀ id, w.oid = some id → v ≠ some id) : Own h' w sz el xs := by
  rcases o with h1 | ⟨id, g, lock, c, hxs, rfl, hg, hlk⟩
  · exact .inl h1
  · exact .inr ⟨id, g, lock, c, hxs, rfl, k.getA hg (hn id rfl), hlk⟩
theorem Own.more {h : Heap} {w : AV} {sz el : Nat} {xs : List AV} (o : Own h w sz el xs) (l : Heap) : Own (h ++ l) w sz el xs := o.keep (Kept.more none h l) (fun _ _ => by simp)
theorem Own.oid_lt {h : Heap} {w : AV} {sz el : Nat} {xs : List AV} (o : Own h w sz el xs) {id : Nat} (hi : w.oid = some id) : id < h.length := by
  rcases o with ⟨_, rfl⟩ | ⟨id', g, lock, c, hxs, rfl, hg, hlk⟩
  · cases hi
  · cases hi; exact getA_lt hg

/-- What is handed out. -/
def accV (sz : Nat) (xs : List AV) : AV := if xs = [] then .sl true 0 [] else .sl false sz xs
theorem Own.snap {h : Heap} {v : AV} {sz el : Nat} {xs : List AV} (o : Own h v sz el xs) (hz : sz ≠ 0) (hr : rfs xs = true) (n : Nat) : VmX.snap h (n + 2) v = some (accV sz xs) := by
  rcases o with ⟨rfl, rfl⟩ | ⟨id, g, lock, c, hxs, rfl, hg, hlk⟩
  · exact snap_rf rfl
  · rw [snap_osl hg hz (by simp) (ys := xs) (by simp) hr, accV, if_neg hxs]
theorem Own.len {h : Heap} {v : AV} {sz el : Nat} {xs : List AV} (o : Own h v sz el xs) : (∃ x s, v = .sl x s [] ∧ xs = []) ∨ ∃ id g, v = .osl id g sz 0 xs.length := by
  rcases o with ⟨rfl, rfl⟩ | ⟨id, g, lock, c, hxs, rfl, hg, hlk⟩
  · exact .inl ⟨_, _, rfl, rfl⟩
  · exact .inr ⟨_, _, rfl⟩
theorem Own.els {h : Heap} {v : AV} {sz el : Nat} {xs : List AV} (o : Own h v sz el xs) : elsOf v h = some xs := by
  rcases o with ⟨rfl, rfl⟩ | ⟨id, g, lock, c, hxs, rfl, hg, hlk⟩
  · rfl
  · simp only [elsOf, hg, Option.bind_some, Nat.zero_add, Nat.le_refl, if_true, List.drop_zero, List.take_length]
theorem Own.conv {h : Heap} {v : AV} {sz el : Nat} {xs : List AV} (o : Own h v sz el xs) : VmX.conv .bytesStr v h = (seqO toByte xs).map .str := by
  have := o.els
  rcases o with ⟨rfl, rfl⟩ | ⟨id, g, lock, c, hxs, rfl, hg, hlk⟩
  · rfl
  · simp only [VmX.conv, this, Option.bind_some]
theorem Own.snapd {h : Heap} {v : AV} {sz el : Nat} {xs : List AV} (o : Own h v sz el xs) (hz : sz ≠ 0) (hr : rfs xs = true) : VmX.snap h deep v = some (accV sz xs) := o.snap hz hr 62
end Go.Proofs.VmX

/- The walk's rules as one: MADE BY PROGRAM (mkset.py). -/
set_option linter.unusedVariables false
namespace Go.Proofs.VmX
theorem ww : type_of% (And.intro (And.intro (And.intro (And.intro (And.intro (And.intro (And.intro @Ends_nil (And.intro @Ends_ret @Ends_skip)) (And.intro @Ends_label (And.intro @Ends_inBlock @Ends_seq))) (And.intro (And.intro @Ends_block (And.intro @Ends_exit @EExit_some)) (And.intro @Ends_cond (And.intro @ECond_true @ECond_false)))) (And.intro (And.intro (And.intro @Ends_reg (And.intro @EndsR_nil @EndsR_cons)) (And.intro @EG_true (And.intro @EG_false @EBnd_some))) (And.intro (And.intro @EOp_callF (And.intro @EOp_callP0 @EOp_callP)) (And.intro @EOp_callV (And.intro @Ends_dreg_nil @EndsD_nil))))) (And.intro (And.intro (And.intro (And.intro @EndsD_cons (And.intro @DG_true @DG_false)) (And.intro @DBnd_some (And.intro @DOp_callF @DOp_callP0))) (And.intro (And.intro @DOp_callP (And.intro @ERes_some @EOp_mv)) (And.intro @DOp_mv (And.intro @EOp_nilCheck @DOp_nilCheck)))) (And.intro (And.intro (And.intro @EOp_pick (And.intro @DOp_pick @EOp_alloc)) (And.intro @DOp_alloc (And.intro @EOp_box @DOp_box))) (And.intro (And.intro @EOp_build2 (And.intro @DOp_build2 @EOp_bsl)) (And.intro (And.intro @DOp_bsl @EOp_load) (And.intro @DOp_load @EOp_store)))))) (And.intro (And.intro (And.intro (And.intro (And.intro @DOp_store (And.intro @EOp_bin @DOp_bin)) (And.intro @EOp_eqs (And.intro @DOp_eqs @EOp_un))) (And.intro (And.intro @DOp_un (And.intro @EOp_conv @DOp_conv)) (And.intro @EOp_fld (And.intro @DOp_fld @EOp_part)))) (And.intro (And.intro (And.intro @DOp_part (And.intro @EOp_idxS @DOp_idxS)) (And.intro @EOp_idxA (And.intro @DOp_idxA @EOp_idxStr))) (And.intro (And.intro @DOp_idxStr (And.intro @EOp_idxAgg @DOp_idxAgg)) (And.intro (And.intro @EOp_sliceStr @DOp_sliceStr) (And.intro @EOp_slice @DOp_slice))))) (And.intro (And.intro (And.intro (And.intro @EOp_sliceArr (And.intro @DOp_sliceArr @EOp_extract)) (And.intro @DOp_extract (And.intro @EOp_len @DOp_len))) (And.intro (And.intro @EOp_cap (And.intro @DOp_cap @EOp_append)) (And.intro @DOp_append (And.intro @EOp_appendZ @DOp_appendZ)))) (And.intro (And.intro (And.intro @EOp_copy (And.intro @DOp_copy @EOp_mm)) (And.intro @DOp_mm (And.intro @EOp_mkSlice @DOp_mkSlice))) (And.intro (And.intro @EOp_mkFn (And.intro @DOp_mkFn @EOp_lookup)) (And.intro (And.intro @DOp_lookup @EOp_rangeS) (And.intro @DOp_rangeS @EOp_nextS))))))) (And.intro (And.intro (And.intro (And.intro (And.intro (And.intro @DOp_nextS (And.intro @EOp_iface @DOp_iface)) (And.intro @get_put_if (And.intro @get_cons_zero @get_cons_succ))) (And.intro (And.intro @get_nil (And.intro @List.all_nil.{0} @List.getLastD_cons.{0})) (And.intro @List.getLastD_nil.{0} (And.intro @List.map_cons.{0, 0} @List.map_nil.{0, 0})))) (And.intro (And.intro (And.intro @Option.map_some.{0, 0} (And.intro @Option.bind_some.{0, 0} @Option.map_none.{0, 0})) (And.intro @Option.bind_none.{0, 0} (And.intro @un_not @un_neg))) (And.intro (And.intro @conv_int (And.intro @conv_same @conv_intStr)) (And.intro @conv_strBytes (And.intro @conv_bytesStr @conv_runesStr))))) (And.intro (And.intro (And.intro (And.intro @Nat.add_sub_cancel (And.intro @Int.add_zero @Int.zero_add)) (And.intro @Nat.zero_add (And.intro @Nat.add_zero @List.drop_zero.{0}))) (And.intro (And.intro @List.take_zero.{0} (And.intro @List.take_succ_cons.{0} @List.drop_succ_cons.{0})) (And.intro @List.take_nil.{0} (And.intro @List.drop_nil.{0} @Nat.zero_le)))) (And.intro (And.intro (And.intro @Int.natCast_zero (And.intro @Int.natCast_one @b_t)) (And.intro @b_f (And.intro @Bool.not_true @Bool.not_false))) (And.intro (And.intro @Bool.true_and (And.intro @Bool.and_true @Bool.false_and)) (And.intro (And.intro @Bool.and_false @decide_true) (And.intro @decide_false @wr64)))))) (And.intro (And.intro (And.intro (And.intro (And.intro @asNat_cast (And.intro @asNat_zero @asNat_one)) (And.intro @asNat_of (And.intro @Int.toNat_natCast @and_true))) (And.intro (And.intro @true_and (And.intro @List.cons_append.{0} @List.nil_append.{0})) (And.intro @List.getElem?_cons_zero.{0} (And.intro @List.getElem?_cons_succ.{0} @List.getElem?_nil.{0})))) (And.intro (And.intro (And.intro @getA_app (And.intro @Option.some.injEq.{0} @Bool.false_eq_true)) (And.intro @Bool.true_eq_false (And.intro @if_false.{0} @if_true.{0}))) (And.intro (And.intro @List.append_nil.{0} (And.intro @castS @castA)) (And.intro (And.intro @castP @castM) (And.intro @ite_some @at_app))))) (And.intro (And.intro (And.intro (And.intro @set_app (And.intro @at_map_app @set_map_app)) (And.intro @getA_zero (And.intro @getA_succ @getA_last))) (And.intro (And.intro @set_last (And.intro @set_zero @set_succ)) (And.intro @sliceV_osl (And.intro @sliceV_sl @List.take_length.{0})))) (And.intro (And.intro (And.intro @or_true (And.intro @true_or @Nat.sub_zero)) (And.intro @elsOf_sl (And.intro @elsOf_str @List.all_cons.{0}))) (And.intro (And.intro @cons_beq_nil (And.intro @nil_beq_cons @BEq.rfl.{0})) (And.intro (And.intro @and_self @Nat.le_refl) (And.intro @List.length_cons.{0} @List.length_nil.{0})))))))) :=
  (And.intro (And.intro (And.intro (And.intro (And.intro (And.intro (And.intro @Ends_nil (And.intro @Ends_ret @Ends_skip)) (And.intro @Ends_label (And.intro @Ends_inBlock @Ends_seq))) (And.intro (And.intro @Ends_block (And.intro @Ends_exit @EExit_some)) (And.intro @Ends_cond (And.intro @ECond_true @ECond_false)))) (And.intro (And.intro (And.intro @Ends_reg (And.intro @EndsR_nil @EndsR_cons)) (And.intro @EG_true (And.intro @EG_false @EBnd_some))) (And.intro (And.intro @EOp_callF (And.intro @EOp_callP0 @EOp_callP)) (And.intro @EOp_callV (And.intro @Ends_dreg_nil @EndsD_nil))))) (And.intro (And.intro (And.intro (And.intro @EndsD_cons (And.intro @DG_true @DG_false)) (And.intro @DBnd_some (And.intro @DOp_callF @DOp_callP0))) (And.intro (And.intro @DOp_callP (And.intro @ERes_some @EOp_mv)) (And.intro @DOp_mv (And.intro @EOp_nilCheck @DOp_nilCheck)))) (And.intro (And.intro (And.intro @EOp_pick (And.intro @DOp_pick @EOp_alloc)) (And.intro @DOp_alloc (And.intro @EOp_box @DOp_box))) (And.intro (And.intro @EOp_build2 (And.intro @DOp_build2 @EOp_bsl)) (And.intro (And.intro @DOp_bsl @EOp_load) (And.intro @DOp_load @EOp_store)))))) (And.intro (And.intro (And.intro (And.intro (And.intro @DOp_store (And.intro @EOp_bin @DOp_bin)) (And.intro @EOp_eqs (And.intro @DOp_eqs @EOp_un))) (And.intro (And.intro @DOp_un (And.intro @EOp_conv @DOp_conv)) (And.intro @EOp_fld (And.intro @DOp_fld @EOp_part)))) (And.intro (And.intro (And.intro @DOp_part (And.intro @EOp_idxS @DOp_idxS)) (And.intro @EOp_idxA (And.intro @DOp_idxA @EOp_idxStr))) (And.intro (And.intro @DOp_idxStr (And.intro @EOp_idxAgg @DOp_idxAgg)) (And.intro (And.intro @EOp_sliceStr @DOp_sliceStr) (And.intro @EOp_slice @DOp_slice))))) (And.intro (And.intro (And.intro (And.intro @EOp_sliceArr (And.intro @DOp_sliceArr @EOp_extract)) (And.intro @DOp_extract (And.intro @EOp_len @DOp_len))) (And.intro (And.intro @EOp_cap (And.intro @DOp_cap @EOp_append)) (And.intro @DOp_append (And.intro @EOp_appendZ @DOp_appendZ)))) (And.intro (And.intro (And.intro @EOp_copy (And.intro @DOp_copy @EOp_mm)) (And.intro @DOp_mm (And.intro @EOp_mkSlice @DOp_mkSlice))) (And.intro (And.intro @EOp_mkFn (And.intro @DOp_mkFn @EOp_lookup)) (And.intro (And.intro @DOp_lookup @EOp_rangeS) (And.intro @DOp_rangeS @EOp_nextS))))))) (And.intro (And.intro (And.intro (And.intro (And.intro (And.intro @DOp_nextS (And.intro @EOp_iface @DOp_iface)) (And.intro @get_put_if (And.intro @get_cons_zero @get_cons_succ))) (And.intro (And.intro @get_nil (And.intro @List.all_nil.{0} @List.getLastD_cons.{0})) (And.intro @List.getLastD_nil.{0} (And.intro @List.map_cons.{0, 0} @List.map_nil.{0, 0})))) (And.intro (And.intro (And.intro @Option.map_some.{0, 0} (And.intro @Option.bind_some.{0, 0} @Option.map_none.{0, 0})) (And.intro @Option.bind_none.{0, 0} (And.intro @un_not @un_neg))) (And.intro (And.intro @conv_int (And.intro @conv_same @conv_intStr)) (And.intro @conv_strBytes (And.intro @conv_bytesStr @conv_runesStr))))) (And.intro (And.intro (And.intro (And.intro @Nat.add_sub_cancel (And.intro @Int.add_zero @Int.zero_add)) (And.intro @Nat.zero_add (And.intro @Nat.add_zero @List.drop_zero.{0}))) (And.intro (And.intro @List.take_zero.{0} (And.intro @List.take_succ_cons.{0} @List.drop_succ_cons.{0})) (And.intro @List.take_nil.{0} (And.intro @List.drop_nil.{0} @Nat.zero_le)))) (And.intro (And.intro (And.intro @Int.natCast_zero (And.intro @Int.natCast_one @b_t)) (And.intro @b_f (And.intro @Bool.not_true @Bool.not_false))) (And.intro (And.intro @Bool.true_and (And.intro @Bool.and_true @Bool.false_and)) (And.intro (And.intro @Bool.and_false @decide_true) (And.intro @decide_false @wr64)))))) (And.intro (And.intro (And.intro (And.intro (And.intro @asNat_cast (And.intro @asNat_zero @asNat_one)) (And.intro @asNat_of (And.intro @Int.toNat_natCast @and_true))) (And.intro (And.intro @true_and (And.intro @List.cons_append.{0} @List.nil_append.{0})) (And.intro @List.getElem?_cons_zero.{0} (And.intro @List.getElem?_cons_succ.{0} @List.getElem?_nil.{0})))) (And.intro (And.intro (And.intro @getA_app (And.intro @Option.some.injEq.{0} @Bool.false_eq_true)) (And.intro @Bool.true_eq_false (And.intro @if_false.{0} @if_true.{0}))) (And.intro (And.intro @List.append_nil.{0} (And.intro @castS @castA)) (And.intro (And.intro @castP @castM) (And.intro @ite_some @at_app))))) (And.intro (And.intro (And.intro (And.intro @set_app (And.intro @at_map_app @set_map_app)) (And.intro @getA_zero (And.intro @getA_succ @getA_last))) (And.intro (And.intro @set_last (And.intro @set_zero @set_succ)) (And.intro @sliceV_osl (And.intro @sliceV_sl @List.take_length.{0})))) (And.intro (And.intro (And.intro @or_true (And.intro @true_or @Nat.sub_zero)) (And.intro @elsOf_sl (And.intro @elsOf_str @List.all_cons.{0}))) (And.intro (And.intro @cons_beq_nil (And.intro @nil_beq_cons @BEq.rfl.{0})) (And.intro (And.intro @and_self @Nat.le_refl) (And.intro @List.length_cons.{0} @List.length_nil.{0}))))))))
end Go.Proofs.VmX

/- Texts cut at a byte: plain facts. -/
set_option linter.unusedVariables false
set_option linter.unusedSimpArgs false
namespace Go.Proofs.VmX

/-- A text, cut at a byte. -/
def splitB (c : UInt8) : List UInt8 → List (List UInt8)
  | [] => [[]]
  | b :: l => if b = c then [] :: splitB c l else match splitB c l with
    | [] => [[b]]
    | w :: r => (b :: w) :: r

theorem splitB_ne (c : UInt8) (l : List UInt8) : splitB c l ≠ [] := by
  cases l with
  | nil => simp [splitB]
  | cons b l => simp only [splitB]; split
                · simp
                · split <;> simp

theorem splitB_pre {c : UInt8} : ∀ {p : List UInt8} (hp : c ∉ p) (q : List UInt8), splitB c (p ++ c :: q) = p :: splitB c q := by
  intro p
  induction p with
  | nil => intro _ q; simp [splitB]
  | cons b p ih =>
    intro hp q
    simp only [List.mem_cons, not_or] at hp
    have hb : ¬ b = c := fun h => hp.1 h.symm
    simp only [List.cons_append, splitB, if_neg hb, ih hp.2]
theorem splitB_none {c : UInt8} : ∀ {p : List UInt8} (hp : c ∉ p), splitB c p = [p] := by
  intro p
  induction p with
  | nil => intro _; simp [splitB]
  | cons b p ih =>
    intro hp
    simp only [List.mem_cons, not_or] at hp
    have hb : ¬ b = c := fun h => hp.1 h.symm
    simp only [splitB, if_neg hb, ih hp.2]

theorem idx_split (c : UInt8) : ∀ (l : List UInt8) (n : Nat), (c ∉ l ∧ idxByte c l n = -1 ∧ cntByte c l = 0) ∨
    ∃ p q, l = p ++ c :: q ∧ c ∉ p ∧ idxByte c l n = ((n + p.length : Nat) : Int) ∧ cntByte c l = cntByte c q + 1 := by
  intro l
  induction l with
  | nil => intro n; exact .inl ⟨by simp, rfl, rfl⟩
  | cons b l ih =>
    intro n
    by_cases hb : b = c
    · subst hb
      exact .inr ⟨[], l, rfl, by simp, by simp [idxByte], by simp [cntByte]⟩
    · have hb' : (b == c) = false := by simpa using hb
      rcases ih (n + 1) with ⟨h1, h2, h3⟩ | ⟨p, q, h1, h2, h3, h4⟩
      · refine .inl ⟨by simp [h1, Ne.symm hb], by simp [idxByte, hb', h2], ?_⟩
        simpa [cntByte, List.filter_cons, hb'] using h3
      · refine .inr ⟨b :: p, q, by simp [h1], by simp [h2, Ne.symm hb], ?_, ?_⟩
        · simp only [idxByte, hb', Bool.false_eq_true, if_false, h3, List.length_cons]
          congr 1; omega
        · simpa [cntByte, List.filter_cons, hb'] using h4

theorem splitB_len (c : UInt8) (l : List UInt8) : (splitB c l).length = cntByte c l + 1 := by
  induction l with
  | nil => rfl
  | cons b l ih =>
    by_cases hb : b = c
    · subst hb
      simp [splitB, ih, cntByte]
    · have hb' : (b == c) = false := by simpa using hb
      have e : cntByte c (b :: l) = cntByte c l := by simp [cntByte, List.filter_cons, hb']
      rw [e, ← ih]
      simp only [splitB, if_neg hb]
      split
      · rename_i h; exact absurd h (splitB_ne c l)
      · simp [*]
theorem cnt_le (c : UInt8) (l : List UInt8) : cntByte c l ≤ l.length := List.length_filter_le _ _

/-- Joined again. -/
def jn (c : UInt8) : List (List UInt8) → List UInt8
  | [] => []
  | w :: r => if r = [] then w else w ++ c :: jn c r
theorem jn_one (c : UInt8) (w : List UInt8) : jn c [w] = w := by simp [jn]
theorem jn_snoc (c : UInt8) (x : List UInt8) : ∀ {l : List (List UInt8)}, l ≠ [] → jn c (l ++ [x]) = jn c l ++ c :: x := by
  intro l
  induction l with
  | nil => intro h; exact absurd rfl h
  | cons w r ih =>
    intro _
    by_cases hr : r = []
    · subst hr; simp [jn]
    · have : r ++ [x] ≠ [] := by simp
      simp only [List.cons_append, jn, if_neg hr, if_neg this, ih hr, List.append_assoc]
theorem jn_split (c : UInt8) (s : List UInt8) : jn c (splitB c s) = s := by
  induction s with
  | nil => simp [splitB, jn]
  | cons b l ih =>
    by_cases hb : b = c
    · subst hb
      simp only [splitB, if_true, jn, if_neg (splitB_ne b l), ih, List.nil_append]
    · simp only [splitB, if_neg hb]
      split
      · rename_i h; exact absurd h (splitB_ne c l)
      · rename_i w r h
        rw [h] at ih
        simp only [jn] at ih ⊢
        split <;> simp_all
theorem jn_len (c : UInt8) : ∀ (a b : List (List UInt8)), (jn c a).length ≤ (jn c (a ++ b)).length := by
  intro a
  induction a with
  | nil => intro b; simp [jn]
  | cons w r ih =>
    intro b
    by_cases hr : r = []
    · subst hr
      simp only [List.cons_append, List.nil_append, jn, if_true]
      split
      · exact Nat.le_refl _
      · simp
    · have : r ++ b ≠ [] := by simp [hr]
      have := ih b
      simp only [List.cons_append, jn, if_neg hr, if_neg ‹r ++ b ≠ []›, List.length_append, List.length_cons]
      omega
theorem cnt_snoc (c b : UInt8) (l : List UInt8) : cntByte c (l ++ [b]) = cntByte c l + if b = c then 1 else 0 := by
  simp only [cntByte, List.filter_append, List.length_append]
  by_cases h : b = c <;> simp [h]
theorem toNat_beq (b c : UInt8) : ((b.toNat : Int) == (c.toNat : Int)) = (b == c) := by
  rw [Bool.eq_iff_iff]
  simp only [beq_iff_eq]
  constructor
  · intro h; exact UInt8.toNat_inj.1 (by omega)
  · intro h; rw [h]

theorem idxStr_byte (b : UInt8) : ∀ (l : List UInt8) (n : Nat), idxStr [b] l n = idxByte b l n := by
  intro l
  induction l with
  | nil => intro n; rfl
  | cons a l ih =>
    intro n
    have e : isPre [b] (a :: l) = (a == b) := by
      simp only [isPre, Bool.and_true]
      by_cases h : b = a
      · subst h; simp
      · have h2 : ¬ a = b := fun e => h e.symm
        have e1 : (b == a) = false := by simpa using h
        have e2 : (a == b) = false := by simpa using h2
        rw [e1, e2]
    simp only [idxStr, idxByte, e, ih]

/-- Cut, the first piece begun. -/
def spl (c : UInt8) : List UInt8 → List UInt8 → List (List UInt8)
  | cur, [] => [cur]
  | cur, b :: l => if b = c then cur :: spl c [] l else spl c (cur ++ [b]) l
theorem spl_eq (c : UInt8) : ∀ (l cur : List UInt8), ∃ w r, splitB c l = w :: r ∧ spl c cur l = (cur ++ w) :: r := by
  intro l
  induction l with
  | nil => intro cur; exact ⟨[], [], rfl, by simp [spl]⟩
  | cons b l ih =>
    intro cur
    by_cases hb : b = c
    · obtain ⟨w, r, h1, h2⟩ := ih []
      exact ⟨[], splitB c l, by simp [splitB, hb], by simp [spl, hb, h2, h1]⟩
    · obtain ⟨w, r, h1, h2⟩ := ih (cur ++ [b])
      exact ⟨b :: w, r, by simp [splitB, hb, h1], by simp [spl, hb, h2]⟩
theorem spl_split (c : UInt8) (l : List UInt8) : spl c [] l = splitB c l := by
  obtain ⟨w, r, h1, h2⟩ := spl_eq c l []
  rw [h2, h1]; simp
theorem spl_cons {s : List UInt8} {p : Nat} (hp : p < s.length) (c : UInt8) (cur : List UInt8) : spl c cur (s.drop p) = if s[p] = c then cur :: spl c [] (s.drop (p + 1)) else spl c (cur ++ [s[p]]) (s.drop (p + 1)) := by
  rw [List.drop_eq_getElem_cons hp]
  simp only [spl]

end Go.Proofs.VmX

/- strings.Count, Index, Split at one byte, tbl.Cut: what they give. -/
set_option linter.unusedVariables false
set_option linter.unusedSimpArgs false
namespace Go.Proofs.VmX
set_option maxRecDepth 100000

theorem p78 (s : List UInt8) (b : UInt8) : PureTo EC 78 [.str s, byteAV b] (.int .i64 (cntByte b s)) := pure_rf (h' := []) (fn_ext k78 rfl (by simp [ext, byteAV, c78])) rfl
theorem p61 (s : List UInt8) (b : UInt8) : PureTo EC 61 [.str s, byteAV b] (.int .i64 (idxByte b s 0)) := pure_rf (h' := []) (fn_ext k61 rfl (by simp [ext, byteAV, c61])) rfl
theorem rf_byte (b : UInt8) : rf (byteAV b) = true := rfl
theorem p44 (s : List UInt8) (b : UInt8) : PureTo EC 44 [.str s, byteAV b] (.int .i64 (idxByte b s 0)) := by
  refine pure_go1 (res := [(.tmp 4)]) k44 rfl rfl ?_
  simp (disch := first | assumption | omega) only [ww, exitC, fillB, wantedA, evOp, opd, putO, bnd, ↓reduceIte, ckPlain, evC, binE, bin, sBin, iBin, eqB, bBin, Nat.reduceEqDiff, Nat.reduceAdd, Nat.reduceBEq, Nat.reduceLeDiff, Nat.reduceLT, Int.reduceBEq, Int.reduceBNe, Int.reduceLT, Int.reduceLE, Int.reduceGT, Int.reduceGE, Int.reduceAdd, Int.reduceSub, Int.reduceToNat, resOf, seqO, resOne, reduceCtorEq, okEl, AV.cells, AV.one, stE, stA, ld, ldE, snaps, rfs, rf, rf_byte]
  refine ECallP.some (p61 s b) ?_
  simp (disch := first | assumption | omega) only [ww, exitC, fillB, wantedA, evOp, opd, putO, bnd, ↓reduceIte, ckPlain, evC, binE, bin, sBin, iBin, eqB, bBin, Nat.reduceEqDiff, Nat.reduceAdd, Nat.reduceBEq, Nat.reduceLeDiff, Nat.reduceLT, Int.reduceBEq, Int.reduceBNe, Int.reduceLT, Int.reduceLE, Int.reduceGT, Int.reduceGE, Int.reduceAdd, Int.reduceSub, Int.reduceToNat, resOf, seqO, resOne, reduceCtorEq, okEl, AV.cells, AV.one, stE, stA, ld, ldE, snaps, rfs, rf]
  exact snap_deep_rf rfl

theorem p63 (s : List UInt8) (b : UInt8) : PureTo EC 63 [.str s, .str [b]] (.int .i64 (cntByte b s)) := by
  refine pure_go1 (res := [(.tmp 4)]) k63 rfl rfl ?_
  simp (disch := first | assumption | omega) only [ww, exitC, fillB, wantedA, evOp, opd, putO, bnd, ↓reduceIte, ckPlain, evC, binE, bin, sBin, iBin, eqB, bBin, Nat.reduceEqDiff, Nat.reduceAdd, Nat.reduceBEq, Nat.reduceLeDiff, Nat.reduceLT, Int.reduceBEq, Int.reduceBNe, Int.reduceLT, Int.reduceLE, Int.reduceGT, Int.reduceGE, Int.reduceAdd, Int.reduceSub, Int.reduceToNat, resOf, seqO, resOne, reduceCtorEq, okEl, AV.cells, AV.one, stE, stA, ld, ldE, snaps, rfs, rf, rf_byte]
  refine ECallP.some (p78 s b) ?_
  simp (disch := first | assumption | omega) only [ww, exitC, fillB, wantedA, evOp, opd, putO, bnd, ↓reduceIte, ckPlain, evC, binE, bin, sBin, iBin, eqB, bBin, Nat.reduceEqDiff, Nat.reduceAdd, Nat.reduceBEq, Nat.reduceLeDiff, Nat.reduceLT, Int.reduceBEq, Int.reduceBNe, Int.reduceLT, Int.reduceLE, Int.reduceGT, Int.reduceGE, Int.reduceAdd, Int.reduceSub, Int.reduceToNat, resOf, seqO, resOne, reduceCtorEq, okEl, AV.cells, AV.one, stE, stA, ld, ldE, snaps, rfs, rf]
  exact snap_deep_rf rfl


theorem p79 (s : List UInt8) (b : UInt8) (hs : s.length ≤ 1073741824) : PureTo EC 79 [.str s, .str [b]] (.int .i64 (idxByte b s 0)) :=
  by
  have := ext10 s [b] [] (by omega) (by simp)
  rw [idxStr_byte] at this
  exact pure_rf (h' := []) (fn_ext k79 rfl this) rfl

theorem p64 (s : List UInt8) (b : UInt8) (hs : s.length ≤ 1073741824) : PureTo EC 64 [.str s, .str [b]] (.int .i64 (idxByte b s 0)) := by
  refine pure_go1 (res := [(.tmp 4)]) k64 rfl rfl ?_
  simp (disch := first | assumption | omega) only [ww, exitC, fillB, wantedA, evOp, opd, putO, bnd, ↓reduceIte, ckPlain, evC, binE, bin, sBin, iBin, eqB, bBin, Nat.reduceEqDiff, Nat.reduceAdd, Nat.reduceBEq, Nat.reduceLeDiff, Nat.reduceLT, Int.reduceBEq, Int.reduceBNe, Int.reduceLT, Int.reduceLE, Int.reduceGT, Int.reduceGE, Int.reduceAdd, Int.reduceSub, Int.reduceToNat, resOf, seqO, resOne, reduceCtorEq, okEl, AV.cells, AV.one, stE, stA, ld, ldE, snaps, rfs, rf]
  refine ECallP.some (p79 s b hs) ?_
  simp (disch := first | assumption | omega) only [ww, exitC, fillB, wantedA, evOp, opd, putO, bnd, ↓reduceIte, ckPlain, evC, binE, bin, sBin, iBin, eqB, bBin, Nat.reduceEqDiff, Nat.reduceAdd, Nat.reduceBEq, Nat.reduceLeDiff, Nat.reduceLT, Int.reduceBEq, Int.reduceBNe, Int.reduceLT, Int.reduceLE, Int.reduceGT, Int.reduceGE, Int.reduceAdd, Int.reduceSub, Int.reduceToNat, resOf, seqO, resOne, reduceCtorEq, okEl, AV.cells, AV.one, stE, stA, ld, ldE, snaps, rfs, rf]
  exact snap_deep_rf rfl

theorem p45 (s : List UInt8) (b : UInt8) (hs : s.length ≤ 1073741824) : ∃ r, PureTo EC 45 [.str s, .str [b], .int .i64 0, .int .i64 (-1)] r ∧ r = .sl false 1 ((splitB b s).map .str) := by
  have hc := cnt_le b s
  refine pure_go (res := [(.tmp 8)]) k45 rfl rfl ?_
  simp (disch := first | assumption | omega) only [ww, exitC, fillB, wantedA, evOp, opd, putO, bnd, ↓reduceIte, ckPlain, evC, binE, bin, sBin, iBin, eqB, bBin, Nat.reduceEqDiff, Nat.reduceAdd, Nat.reduceBEq, Nat.reduceLeDiff, Nat.reduceLT, Int.reduceBEq, Int.reduceBNe, Int.reduceLT, Int.reduceLE, Int.reduceGT, Int.reduceGE, Int.reduceAdd, Int.reduceSub, Int.reduceToNat, resOf, seqO, resOne, reduceCtorEq, okEl, AV.cells, AV.one, stE, stA, ld, ldE, snaps, rfs, rf]
  refine ECallP.some (p63 s b) ?_
  simp (disch := first | assumption | omega) only [ww, exitC, fillB, wantedA, evOp, opd, putO, bnd, ↓reduceIte, ckPlain, evC, binE, bin, sBin, iBin, eqB, bBin, Nat.reduceEqDiff, Nat.reduceAdd, Nat.reduceBEq, Nat.reduceLeDiff, Nat.reduceLT, Int.reduceBEq, Int.reduceBNe, Int.reduceLT, Int.reduceLE, Int.reduceGT, Int.reduceGE, Int.reduceAdd, Int.reduceSub, Int.reduceToNat, resOf, seqO, resOne, reduceCtorEq, okEl, AV.cells, AV.one, stE, stA, ld, ldE, snaps, rfs, rf, min_le]
  refine Ends.loop (fun m t h => ∃ done s', get t 0 = .str s' ∧ get t 1 = .str [b] ∧ get t 2 = .int .i64 0 ∧ get t 3 = .int .i64 (cntByte b s : Nat) ∧ get t 9 = .osl 0 0 1 0 (cntByte b s + 1) ∧
    get t 10 = .int .i64 (done.length : Nat) ∧ h = [.arr { gen := 0, els := done.map .str ++ .str [] :: List.replicate (cntByte b s - done.length) (.str []), sz := 1, el := 9, lock := 0, cap := some (cntByte b s + 1) }] ∧
    splitB b s = done ++ splitB b s' ∧ s'.length ≤ s.length ∧ done.length + m = cntByte b s ∧ m = cntByte b s') (cntByte b s) ?_ ?_
  · exact ⟨[], s, by (try simp only [get_put_if, ↓reduceIte, Nat.reduceEqDiff, get_cons_zero, get_cons_succ, get_nil, reduceCtorEq]), by (try simp only [get_put_if, ↓reduceIte, Nat.reduceEqDiff, get_cons_zero, get_cons_succ, get_nil, reduceCtorEq]), by (try simp only [get_put_if, ↓reduceIte, Nat.reduceEqDiff, get_cons_zero, get_cons_succ, get_nil, reduceCtorEq]), by (try simp only [get_put_if, ↓reduceIte, Nat.reduceEqDiff, get_cons_zero, get_cons_succ, get_nil, reduceCtorEq]), by (try simp only [get_put_if, ↓reduceIte, Nat.reduceEqDiff, get_cons_zero, get_cons_succ, get_nil, reduceCtorEq]), by (try simp only [get_put_if, ↓reduceIte, Nat.reduceEqDiff, get_cons_zero, get_cons_succ, get_nil, reduceCtorEq]); rfl, rfl, rfl, Nat.le_refl _, by simp, rfl⟩
  rintro m t h ⟨done, s', g0, g1, g2, g3, g9, g10, rfl, hsp, hsl, hm, hcm⟩ again
  simp (disch := first | assumption | omega) only [ww, exitC, fillB, wantedA, evOp, opd, putO, bnd, ↓reduceIte, ckPlain, evC, binE, bin, sBin, iBin, eqB, bBin, Nat.reduceEqDiff, Nat.reduceAdd, Nat.reduceBEq, Nat.reduceLeDiff, Nat.reduceLT, Int.reduceBEq, Int.reduceBNe, Int.reduceLT, Int.reduceLE, Int.reduceGT, Int.reduceGE, Int.reduceAdd, Int.reduceSub, Int.reduceToNat, resOf, seqO, resOne, reduceCtorEq, okEl, AV.cells, AV.one, stE, stA, ld, ldE, snaps, rfs, rf, g0, g1, g2, g3, g9, g10]
  refine ECond.mk (fun hb => ?_) (fun hb => ?_)
  · rw [decide_eq_true_eq] at hb
    rcases idx_split b s' 0 with ⟨h1, h2, h3⟩ | ⟨p, q, h1, h2, h3, h4⟩
    · omega
    have hpl : s'.length = p.length + (q.length + 1) := by rw [h1]; simp
    simp (disch := first | assumption | omega) only [ww, exitC, fillB, wantedA, evOp, opd, putO, bnd, ↓reduceIte, ckPlain, evC, binE, bin, sBin, iBin, eqB, bBin, Nat.reduceEqDiff, Nat.reduceAdd, Nat.reduceBEq, Nat.reduceLeDiff, Nat.reduceLT, Int.reduceBEq, Int.reduceBNe, Int.reduceLT, Int.reduceLE, Int.reduceGT, Int.reduceGE, Int.reduceAdd, Int.reduceSub, Int.reduceToNat, resOf, seqO, resOne, reduceCtorEq, okEl, AV.cells, AV.one, stE, stA, ld, ldE, snaps, rfs, rf, g0, g1, g2, g3, g9, g10]
    refine ECallP.some (p64 s' b (by omega)) ?_
    simp (disch := first | assumption | omega) only [ww, exitC, fillB, wantedA, evOp, opd, putO, bnd, ↓reduceIte, ckPlain, evC, binE, bin, sBin, iBin, eqB, bBin, Nat.reduceEqDiff, Nat.reduceAdd, Nat.reduceBEq, Nat.reduceLeDiff, Nat.reduceLT, Int.reduceBEq, Int.reduceBNe, Int.reduceLT, Int.reduceLE, Int.reduceGT, Int.reduceGE, Int.reduceAdd, Int.reduceSub, Int.reduceToNat, resOf, seqO, resOne, reduceCtorEq, okEl, AV.cells, AV.one, stE, stA, ld, ldE, snaps, rfs, rf, g0, g1, g2, g3, g9, g10, h3]
    refine ECond.mk (fun hb => ?_) (fun hb => ?_)
    · rw [decide_eq_true_eq] at hb; omega
    simp (disch := first | assumption | omega) only [ww, exitC, fillB, wantedA, evOp, opd, putO, bnd, ↓reduceIte, ckPlain, evC, binE, bin, sBin, iBin, eqB, bBin, Nat.reduceEqDiff, Nat.reduceAdd, Nat.reduceBEq, Nat.reduceLeDiff, Nat.reduceLT, Int.reduceBEq, Int.reduceBNe, Int.reduceLT, Int.reduceLE, Int.reduceGT, Int.reduceGE, Int.reduceAdd, Int.reduceSub, Int.reduceToNat, resOf, seqO, resOne, reduceCtorEq, okEl, AV.cells, AV.one, stE, stA, ld, ldE, snaps, rfs, rf, g0, g1, g2, g3, g9, g10, h3]
    refine again (m - 1) _ _ (by omega) ⟨done ++ [p], q, ?_, ?_, ?_, ?_, ?_, ?_, ?_, ?_, ?_, ?_, ?_⟩
    all_goals (try ((try simp only [get_put_if, ↓reduceIte, Nat.reduceEqDiff, get_cons_zero, get_cons_succ, get_nil, reduceCtorEq]); try assumption))
    · rw [h1]; simp [← List.append_assoc]
    · simp
    · obtain ⟨k, hk⟩ : ∃ k, cntByte b s - done.length = k + 1 := ⟨cntByte b s - done.length - 1, by omega⟩
      have e : List.take p.length s' = p := by rw [h1]; simp
      have : cntByte b s - (done.length + 1) = k := by omega
      simp [hk, List.replicate_succ, e, this]
    · rw [hsp, h1, splitB_pre h2]; simp
    · omega
    · simp; omega
    · omega
  · rw [decide_eq_false_iff_not] at hb
    have hd : done.length = cntByte b s := by omega
    have hq : splitB b s' = [s'] := by
      rcases idx_split b s' 0 with ⟨h1, h2, h3⟩ | ⟨p, q, h1, h2, h3, h4⟩
      · exact splitB_none h1
      · omega
    simp (disch := first | assumption | omega) only [ww, exitC, fillB, wantedA, evOp, opd, putO, bnd, ↓reduceIte, ckPlain, evC, binE, bin, sBin, iBin, eqB, bBin, Nat.reduceEqDiff, Nat.reduceAdd, Nat.reduceBEq, Nat.reduceLeDiff, Nat.reduceLT, Int.reduceBEq, Int.reduceBNe, Int.reduceLT, Int.reduceLE, Int.reduceGT, Int.reduceGE, Int.reduceAdd, Int.reduceSub, Int.reduceToNat, resOf, seqO, resOne, reduceCtorEq, okEl, AV.cells, AV.one, stE, stA, ld, ldE, snaps, rfs, rf, g0, g1, g2, g3, g9, g10]
    rw [hsp, hq]
    refine ⟨_, snapd_osl rfl (by decide) ?_ ?_ ?_, rfl⟩
    · simp
    · have e : (List.map AV.str done ++ [AV.str s']).length = done.length + 1 := by simp
      simp only [List.drop_zero, ← hd, Nat.sub_self, List.replicate_zero]
      rw [← e, List.take_length]; simp
    · exact rfs_str _
theorem p29 (s : List UInt8) (b : UInt8) (hs : s.length ≤ 1073741824) : PureTo EC 29 [.str s, .str [b]] (.sl false 1 ((splitB b s).map .str)) := by
  refine pure_go1 (res := [(.tmp 4)]) k29 rfl rfl ?_
  obtain ⟨r, h1, rfl⟩ := p45 s b hs
  simp (disch := first | assumption | omega) only [ww, exitC, fillB, wantedA, evOp, opd, putO, bnd, ↓reduceIte, ckPlain, evC, binE, bin, sBin, iBin, eqB, bBin, Nat.reduceEqDiff, Nat.reduceAdd, Nat.reduceBEq, Nat.reduceLeDiff, Nat.reduceLT, Int.reduceBEq, Int.reduceBNe, Int.reduceLT, Int.reduceLE, Int.reduceGT, Int.reduceGE, Int.reduceAdd, Int.reduceSub, Int.reduceToNat, resOf, seqO, resOne, reduceCtorEq, okEl, AV.cells, AV.one, stE, stA, ld, ldE, snaps, rfs, rf]
  refine ECallP.some h1 ?_
  simp (disch := first | assumption | omega) only [ww, exitC, fillB, wantedA, evOp, opd, putO, bnd, ↓reduceIte, ckPlain, evC, binE, bin, sBin, iBin, eqB, bBin, Nat.reduceEqDiff, Nat.reduceAdd, Nat.reduceBEq, Nat.reduceLeDiff, Nat.reduceLT, Int.reduceBEq, Int.reduceBNe, Int.reduceLT, Int.reduceLE, Int.reduceGT, Int.reduceGE, Int.reduceAdd, Int.reduceSub, Int.reduceToNat, resOf, seqO, resOne, reduceCtorEq, okEl, AV.cells, AV.one, stE, stA, ld, ldE, snaps, rfs, rf]
  exact snap_deep_rf (by simp only [rf]; exact rfs_str _)
theorem p13 (s : List UInt8) (hs : s.length ≤ 1073741824) : PureTo EC 13 [.str s] (.sl false 1 ((splitB 9 s).map .str)) := by
  refine pure_go1 (res := [(.tmp 2)]) k13 rfl rfl ?_
  simp (disch := first | assumption | omega) only [ww, exitC, fillB, wantedA, evOp, opd, putO, bnd, ↓reduceIte, ckPlain, evC, binE, bin, sBin, iBin, eqB, bBin, Nat.reduceEqDiff, Nat.reduceAdd, Nat.reduceBEq, Nat.reduceLeDiff, Nat.reduceLT, Int.reduceBEq, Int.reduceBNe, Int.reduceLT, Int.reduceLE, Int.reduceGT, Int.reduceGE, Int.reduceAdd, Int.reduceSub, Int.reduceToNat, resOf, seqO, resOne, reduceCtorEq, okEl, AV.cells, AV.one, stE, stA, ld, ldE, snaps, rfs, rf]
  refine ECallP.some (p29 s 9 hs) ?_
  simp (disch := first | assumption | omega) only [ww, exitC, fillB, wantedA, evOp, opd, putO, bnd, ↓reduceIte, ckPlain, evC, binE, bin, sBin, iBin, eqB, bBin, Nat.reduceEqDiff, Nat.reduceAdd, Nat.reduceBEq, Nat.reduceLeDiff, Nat.reduceLT, Int.reduceBEq, Int.reduceBNe, Int.reduceLT, Int.reduceLE, Int.reduceGT, Int.reduceGE, Int.reduceAdd, Int.reduceSub, Int.reduceToNat, resOf, seqO, resOne, reduceCtorEq, okEl, AV.cells, AV.one, stE, stA, ld, ldE, snaps, rfs, rf]
  exact snap_deep_rf (by simp only [rf]; exact rfs_str _)

theorem p5 (s : List UInt8) (hk : PureTo EC 7 [] (.bool true)) : PureTo EC 5 [.str s] (.bool true) := by
  have hsl := splitB_len 9 s
  have hcl := cnt_le 9 s
  refine pure_go1 (res := [(.tmp 2)]) k5 rfl rfl ?_
  simp (disch := first | assumption | omega) only [ww, exitC, fillB, wantedA, evOp, opd, putO, bnd, ↓reduceIte, ckPlain, evC, binE, bin, sBin, iBin, eqB, bBin, Nat.reduceEqDiff, Nat.reduceAdd, Nat.reduceBEq, Nat.reduceLeDiff, Nat.reduceLT, Int.reduceBEq, Int.reduceBNe, Int.reduceLT, Int.reduceLE, Int.reduceGT, Int.reduceGE, Int.reduceAdd, Int.reduceSub, Int.reduceToNat, resOf, seqO, resOne, reduceCtorEq, okEl, AV.cells, AV.one, stE, stA, ld, ldE, snaps, rfs, rf]
  refine ECond.mk (fun hb => ?_) (fun hb => ?_)
  · simp (disch := first | assumption | omega) only [ww, exitC, fillB, wantedA, evOp, opd, putO, bnd, ↓reduceIte, ckPlain, evC, binE, bin, sBin, iBin, eqB, bBin, Nat.reduceEqDiff, Nat.reduceAdd, Nat.reduceBEq, Nat.reduceLeDiff, Nat.reduceLT, Int.reduceBEq, Int.reduceBNe, Int.reduceLT, Int.reduceLE, Int.reduceGT, Int.reduceGE, Int.reduceAdd, Int.reduceSub, Int.reduceToNat, resOf, seqO, resOne, reduceCtorEq, okEl, AV.cells, AV.one, stE, stA, ld, ldE, snaps, rfs, rf]
    refine ECallP.some hk ?_
    simp (disch := first | assumption | omega) only [ww, exitC, fillB, wantedA, evOp, opd, putO, bnd, ↓reduceIte, ckPlain, evC, binE, bin, sBin, iBin, eqB, bBin, Nat.reduceEqDiff, Nat.reduceAdd, Nat.reduceBEq, Nat.reduceLeDiff, Nat.reduceLT, Int.reduceBEq, Int.reduceBNe, Int.reduceLT, Int.reduceLE, Int.reduceGT, Int.reduceGE, Int.reduceAdd, Int.reduceSub, Int.reduceToNat, resOf, seqO, resOne, reduceCtorEq, okEl, AV.cells, AV.one, stE, stA, ld, ldE, snaps, rfs, rf]
    exact snap_deep_rf rfl
  rw [decide_eq_false_iff_not] at hb
  simp (disch := first | assumption | omega) only [ww, exitC, fillB, wantedA, evOp, opd, putO, bnd, ↓reduceIte, ckPlain, evC, binE, bin, sBin, iBin, eqB, bBin, Nat.reduceEqDiff, Nat.reduceAdd, Nat.reduceBEq, Nat.reduceLeDiff, Nat.reduceLT, Int.reduceBEq, Int.reduceBNe, Int.reduceLT, Int.reduceLE, Int.reduceGT, Int.reduceGE, Int.reduceAdd, Int.reduceSub, Int.reduceToNat, resOf, seqO, resOne, reduceCtorEq, okEl, AV.cells, AV.one, stE, stA, ld, ldE, snaps, rfs, rf]
  refine ECallP.some (p13 s (by omega)) ?_
  simp (disch := first | assumption | omega) only [ww, exitC, fillB, wantedA, evOp, opd, putO, bnd, ↓reduceIte, ckPlain, evC, binE, bin, sBin, iBin, eqB, bBin, Nat.reduceEqDiff, Nat.reduceAdd, Nat.reduceBEq, Nat.reduceLeDiff, Nat.reduceLT, Int.reduceBEq, Int.reduceBNe, Int.reduceLT, Int.reduceLE, Int.reduceGT, Int.reduceGE, Int.reduceAdd, Int.reduceSub, Int.reduceToNat, resOf, seqO, resOne, reduceCtorEq, okEl, AV.cells, AV.one, stE, stA, ld, ldE, snaps, rfs, rf]
  refine Ends.cutB (fun t h => get t 0 = .str s ∧ get t 3 = .sl false 1 ((splitB 9 s).map .str) ∧ get t 4 = .str s ∧ get t 5 = .int .i64 1) ?_ ?_
  · rintro t h ⟨g0, g3, g4, g5⟩
    simp (disch := first | assumption | omega) only [ww, exitC, fillB, wantedA, evOp, opd, putO, bnd, ↓reduceIte, ckPlain, evC, binE, bin, sBin, iBin, eqB, bBin, Nat.reduceEqDiff, Nat.reduceAdd, Nat.reduceBEq, Nat.reduceLeDiff, Nat.reduceLT, Int.reduceBEq, Int.reduceBNe, Int.reduceLT, Int.reduceLE, Int.reduceGT, Int.reduceGE, Int.reduceAdd, Int.reduceSub, Int.reduceToNat, resOf, seqO, resOne, reduceCtorEq, okEl, AV.cells, AV.one, stE, stA, ld, ldE, snaps, rfs, rf, g0, g3, g4, g5]
    refine Ends.loop (fun m t h => ∃ k, k + m = s.length ∧ get t 0 = .str s ∧ get t 3 = .sl false 1 ((splitB 9 s).map .str) ∧ get t 4 = .str s ∧ get t 5 = .int .i64 ((cntByte 9 (s.take k) + 1 : Nat)) ∧ get t 7 = .int .i64 (k : Nat)) s.length ?_ ?_
    · refine ⟨0, by omega, ?_, ?_, ?_, ?_, ?_⟩ <;> (try simp only [get_put_if, ↓reduceIte, Nat.reduceEqDiff, get_cons_zero, get_cons_succ, get_nil, reduceCtorEq]) <;> first | assumption | simp [cntByte, g5]
    rintro m t h ⟨k, hm, g0, g3, g4, g5, g7⟩ again
    simp (disch := first | assumption | omega) only [ww, exitC, fillB, wantedA, evOp, opd, putO, bnd, ↓reduceIte, ckPlain, evC, binE, bin, sBin, iBin, eqB, bBin, Nat.reduceEqDiff, Nat.reduceAdd, Nat.reduceBEq, Nat.reduceLeDiff, Nat.reduceLT, Int.reduceBEq, Int.reduceBNe, Int.reduceLT, Int.reduceLE, Int.reduceGT, Int.reduceGE, Int.reduceAdd, Int.reduceSub, Int.reduceToNat, resOf, seqO, resOne, reduceCtorEq, okEl, AV.cells, AV.one, stE, stA, ld, ldE, snaps, rfs, rf, g0, g3, g4, g5, g7]
    refine ECond.mk (fun hb => ?_) (fun hb => ?_)
    · rw [decide_eq_true_eq] at hb
      have hk' : k < s.length := by omega
      have hkk : s[k]? = some s[k] := List.getElem?_eq_getElem hk'
      have hct : cntByte 9 (s.take (k + 1)) = cntByte 9 (s.take k) + if s[k] = 9 then 1 else 0 := by rw [List.take_succ_eq_append_getElem hk', cnt_snoc]
      have hc1 := cnt_le 9 (s.take k)
      have hc2 : (s.take k).length = k := by simp; omega
      simp (disch := first | assumption | omega) only [ww, exitC, fillB, wantedA, evOp, opd, putO, bnd, ↓reduceIte, ckPlain, evC, binE, bin, sBin, iBin, eqB, bBin, Nat.reduceEqDiff, Nat.reduceAdd, Nat.reduceBEq, Nat.reduceLeDiff, Nat.reduceLT, Int.reduceBEq, Int.reduceBNe, Int.reduceLT, Int.reduceLE, Int.reduceGT, Int.reduceGE, Int.reduceAdd, Int.reduceSub, Int.reduceToNat, resOf, seqO, resOne, reduceCtorEq, okEl, AV.cells, AV.one, stE, stA, ld, ldE, snaps, rfs, rf, g0, g3, g4, g5, g7, hkk, byteAV]
      rw [show ((s[k].toNat : Int) == 9) = (s[k] == 9) from toNat_beq s[k] 9]
      refine ECond.mk (fun hb => ?_) (fun hb => ?_)
      · have : s[k] = 9 := by simpa using hb
        simp (disch := first | assumption | omega) only [ww, exitC, fillB, wantedA, evOp, opd, putO, bnd, ↓reduceIte, ckPlain, evC, binE, bin, sBin, iBin, eqB, bBin, Nat.reduceEqDiff, Nat.reduceAdd, Nat.reduceBEq, Nat.reduceLeDiff, Nat.reduceLT, Int.reduceBEq, Int.reduceBNe, Int.reduceLT, Int.reduceLE, Int.reduceGT, Int.reduceGE, Int.reduceAdd, Int.reduceSub, Int.reduceToNat, resOf, seqO, resOne, reduceCtorEq, okEl, AV.cells, AV.one, stE, stA, ld, ldE, snaps, rfs, rf, g0, g3, g4, g5, g7]
        refine again (m - 1) _ _ (by omega) ⟨k + 1, by omega, ?_, ?_, ?_, ?_, ?_⟩ <;> (try simp only [get_put_if, ↓reduceIte, Nat.reduceEqDiff, get_cons_zero, get_cons_succ, get_nil, reduceCtorEq]) <;> first | assumption | simp [hct, this]
      · have : ¬ s[k] = 9 := by simpa using hb
        simp (disch := first | assumption | omega) only [ww, exitC, fillB, wantedA, evOp, opd, putO, bnd, ↓reduceIte, ckPlain, evC, binE, bin, sBin, iBin, eqB, bBin, Nat.reduceEqDiff, Nat.reduceAdd, Nat.reduceBEq, Nat.reduceLeDiff, Nat.reduceLT, Int.reduceBEq, Int.reduceBNe, Int.reduceLT, Int.reduceLE, Int.reduceGT, Int.reduceGE, Int.reduceAdd, Int.reduceSub, Int.reduceToNat, resOf, seqO, resOne, reduceCtorEq, okEl, AV.cells, AV.one, stE, stA, ld, ldE, snaps, rfs, rf, g0, g3, g4, g5, g7]
        refine again (m - 1) _ _ (by omega) ⟨k + 1, by omega, ?_, ?_, ?_, ?_, ?_⟩ <;> (try simp only [get_put_if, ↓reduceIte, Nat.reduceEqDiff, get_cons_zero, get_cons_succ, get_nil, reduceCtorEq]) <;> first | assumption | simp [hct, this, g5]
    · rw [decide_eq_false_iff_not] at hb
      have hk' : k = s.length := by omega
      subst hk'
      simp (disch := first | assumption | omega) only [ww, exitC, fillB, wantedA, evOp, opd, putO, bnd, ↓reduceIte, ckPlain, evC, binE, bin, sBin, iBin, eqB, bBin, Nat.reduceEqDiff, Nat.reduceAdd, Nat.reduceBEq, Nat.reduceLeDiff, Nat.reduceLT, Int.reduceBEq, Int.reduceBNe, Int.reduceLT, Int.reduceLE, Int.reduceGT, Int.reduceGE, Int.reduceAdd, Int.reduceSub, Int.reduceToNat, resOf, seqO, resOne, reduceCtorEq, okEl, AV.cells, AV.one, stE, stA, ld, ldE, snaps, rfs, rf, g0, g3, g4, g5, g7, List.length_map, hsl]
      refine ECallP.some hk ?_
      simp (disch := first | assumption | omega) only [ww, exitC, fillB, wantedA, evOp, opd, putO, bnd, ↓reduceIte, ckPlain, evC, binE, bin, sBin, iBin, eqB, bBin, Nat.reduceEqDiff, Nat.reduceAdd, Nat.reduceBEq, Nat.reduceLeDiff, Nat.reduceLT, Int.reduceBEq, Int.reduceBNe, Int.reduceLT, Int.reduceLE, Int.reduceGT, Int.reduceGE, Int.reduceAdd, Int.reduceSub, Int.reduceToNat, resOf, seqO, resOne, reduceCtorEq, okEl, AV.cells, AV.one, stE, stA, ld, ldE, snaps, rfs, rf]
      exact snap_deep_rf rfl
  intro b' cont
  refine Ends.loop (fun m t h => ∃ done todo, done ++ todo = splitB 9 s ∧ m = todo.length ∧ get t 0 = .str s ∧ get t 3 = .sl false 1 ((splitB 9 s).map .str) ∧ get t 4 = .str (jn 9 done) ∧ get t 5 = .int .i64 1 ∧ get t 6 = .int .i64 (done.length : Nat)) (splitB 9 s).length ?_ ?_
  · refine ⟨[], splitB 9 s, rfl, rfl, ?_, ?_, ?_, ?_, ?_⟩ <;> (try simp only [get_put_if, ↓reduceIte, Nat.reduceEqDiff, get_cons_zero, get_cons_succ, get_nil, reduceCtorEq]) <;> rfl
  rintro m t h ⟨done, todo, hd, hm, g0, g3, g4, g5, g6⟩ again
  have hdl : done.length + todo.length = (splitB 9 s).length := by rw [← hd]; simp
  simp (disch := first | assumption | omega) only [ww, exitC, fillB, wantedA, evOp, opd, putO, bnd, ↓reduceIte, ckPlain, evC, binE, bin, sBin, iBin, eqB, bBin, Nat.reduceEqDiff, Nat.reduceAdd, Nat.reduceBEq, Nat.reduceLeDiff, Nat.reduceLT, Int.reduceBEq, Int.reduceBNe, Int.reduceLT, Int.reduceLE, Int.reduceGT, Int.reduceGE, Int.reduceAdd, Int.reduceSub, Int.reduceToNat, resOf, seqO, resOne, reduceCtorEq, okEl, AV.cells, AV.one, stE, stA, ld, ldE, snaps, rfs, rf, g0, g3, g4, g5, g6, List.length_map]
  refine ECond.mk (fun hb => ?_) (fun hb => ?_)
  · rw [decide_eq_true_eq] at hb
    cases todo with
    | nil => simp at hdl; omega
    | cons x todo =>
      have hx : (splitB 9 s)[done.length]? = some x := by rw [← hd]; simp
      have hj := jn_len 9 (done ++ [x]) todo
      rw [List.append_assoc, List.singleton_append, hd, jn_split] at hj
      simp (disch := first | assumption | omega) only [ww, exitC, fillB, wantedA, evOp, opd, putO, bnd, ↓reduceIte, ckPlain, evC, binE, bin, sBin, iBin, eqB, bBin, Nat.reduceEqDiff, Nat.reduceAdd, Nat.reduceBEq, Nat.reduceLeDiff, Nat.reduceLT, Int.reduceBEq, Int.reduceBNe, Int.reduceLT, Int.reduceLE, Int.reduceGT, Int.reduceGE, Int.reduceAdd, Int.reduceSub, Int.reduceToNat, resOf, seqO, resOne, reduceCtorEq, okEl, AV.cells, AV.one, stE, stA, ld, ldE, snaps, rfs, rf, g0, g3, g4, g5, g6, hx, List.getElem?_map]
      refine ECond.mk (fun hb => ?_) (fun hb => ?_)
      · rw [decide_eq_true_eq] at hb
        have hne : done ≠ [] := by intro h; subst h; simp at hb
        have hjs := jn_snoc 9 x hne
        rw [hjs] at hj
        simp only [List.length_append, List.length_cons] at hj
        simp (disch := first | assumption | omega) only [ww, exitC, fillB, wantedA, evOp, opd, putO, bnd, ↓reduceIte, ckPlain, evC, binE, bin, sBin, iBin, eqB, bBin, Nat.reduceEqDiff, Nat.reduceAdd, Nat.reduceBEq, Nat.reduceLeDiff, Nat.reduceLT, Int.reduceBEq, Int.reduceBNe, Int.reduceLT, Int.reduceLE, Int.reduceGT, Int.reduceGE, Int.reduceAdd, Int.reduceSub, Int.reduceToNat, resOf, seqO, resOne, reduceCtorEq, okEl, AV.cells, AV.one, stE, stA, ld, ldE, snaps, rfs, rf, g0, g3, g4, g5, g6, hx, List.getElem?_map, List.length_append]
        refine again todo.length _ _ (by simp [hm]) ⟨done ++ [x], todo, ?_, rfl, ?_, ?_, ?_, ?_, ?_⟩ <;> (try simp only [get_put_if, ↓reduceIte, Nat.reduceEqDiff, get_cons_zero, get_cons_succ, get_nil, reduceCtorEq]) <;> first | assumption | simp [hd, hjs]
      · rw [decide_eq_false_iff_not] at hb
        obtain rfl : done = [] := List.eq_nil_of_length_eq_zero (by omega)
        simp only [List.length_nil] at hx
        simp only [List.nil_append, jn, if_true] at hj g4
        simp (disch := first | assumption | omega) only [ww, exitC, fillB, wantedA, evOp, opd, putO, bnd, ↓reduceIte, ckPlain, evC, binE, bin, sBin, iBin, eqB, bBin, Nat.reduceEqDiff, Nat.reduceAdd, Nat.reduceBEq, Nat.reduceLeDiff, Nat.reduceLT, Int.reduceBEq, Int.reduceBNe, Int.reduceLT, Int.reduceLE, Int.reduceGT, Int.reduceGE, Int.reduceAdd, Int.reduceSub, Int.reduceToNat, resOf, seqO, resOne, reduceCtorEq, okEl, AV.cells, AV.one, stE, stA, ld, ldE, snaps, rfs, rf, g0, g3, g4, g5, g6, hx, List.getElem?_map]
        refine again todo.length _ _ (by simp [hm]) ⟨[x], todo, ?_, rfl, ?_, ?_, ?_, ?_, ?_⟩ <;> (try simp only [get_put_if, ↓reduceIte, Nat.reduceEqDiff, get_cons_zero, get_cons_succ, get_nil, reduceCtorEq]) <;> first | assumption | simp [hd, jn]
  · rw [decide_eq_false_iff_not] at hb
    obtain rfl : todo = [] := List.eq_nil_of_length_eq_zero (by omega)
    simp (disch := first | assumption | omega) only [ww, exitC, fillB, wantedA, evOp, opd, putO, bnd, ↓reduceIte, ckPlain, evC, binE, bin, sBin, iBin, eqB, bBin, Nat.reduceEqDiff, Nat.reduceAdd, Nat.reduceBEq, Nat.reduceLeDiff, Nat.reduceLT, Int.reduceBEq, Int.reduceBNe, Int.reduceLT, Int.reduceLE, Int.reduceGT, Int.reduceGE, Int.reduceAdd, Int.reduceSub, Int.reduceToNat, resOf, seqO, resOne, reduceCtorEq, okEl, AV.cells, AV.one, stE, stA, ld, ldE, snaps, rfs, rf, g0, g3, g4, g5, g6]
    simp only [List.append_nil] at hd
    refine cont _ _ ⟨?_, ?_, ?_, ?_⟩ <;> (try simp only [get_put_if, ↓reduceIte, Nat.reduceEqDiff, get_cons_zero, get_cons_succ, get_nil, reduceCtorEq]) <;> first | assumption | simp [g4, hd, jn_split]
end Go.Proofs.VmX

/- Runes of a text: plain facts; words between blanks, and commas. -/
set_option linter.unusedVariables false
set_option linter.unusedSimpArgs false
namespace Go.Proofs.VmX
open Go

theorem bget (s : List UInt8) (i : Nat) : (ByteArray.mk s.toArray).get! i = (s[i]?).getD 0 := by
  simp only [ByteArray.get!, List.getElem!_toArray]
  rw [List.getElem!_eq_getElem?_getD]
  rfl

theorem decode_spec (s : List UInt8) (p : Nat) (hp : p < s.length) : 1 ≤ (Utf8.decode ⟨s.toArray⟩ p).2 ∧ p + (Utf8.decode ⟨s.toArray⟩ p).2 ≤ s.length ∧
    ((s[p].toNat < 128 ∧ Utf8.decode ⟨s.toArray⟩ p = (s[p].toNat, 1)) ∨
     (128 ≤ (Utf8.decode ⟨s.toArray⟩ p).1 ∧ ∀ (i : Nat) (h : i < s.length), p ≤ i → i < p + (Utf8.decode ⟨s.toArray⟩ p).2 → 128 ≤ s[i].toNat)) := by
  have hsz : (ByteArray.mk s.toArray).size = s.length := rfl
  have h0 : (s[p]?).getD 0 = s[p] := by rw [List.getElem?_eq_getElem hp]; rfl
  have e : Utf8.decode ⟨s.toArray⟩ p = (let at' (k : Nat) : Nat := ((s[p + k]?).getD 0).toNat
      let cont (k : Nat) : Bool := p + k < s.length && at' k / 64 == 2
      let b0 := at' 0
      if b0 < 0x80 then (b0, 1)
      else if b0 / 32 == 6 && cont 1 then
        let c := (b0 % 32) * 64 + at' 1 % 64
        if c ≥ 0x80 then (c, 2) else (Utf8.runeError, 1)
      else if b0 / 16 == 14 && cont 1 && cont 2 then
        let c := (b0 % 16) * 4096 + (at' 1 % 64) * 64 + at' 2 % 64
        if c ≥ 0x800 && Utf8.valid c then (c, 3) else (Utf8.runeError, 1)
      else if b0 / 8 == 30 && cont 1 && cont 2 && cont 3 then
        let c := (b0 % 8) * 262144 + (at' 1 % 64) * 4096 + (at' 2 % 64) * 64 + at' 3 % 64
        if c ≥ 0x10000 && Utf8.valid c then (c, 4) else (Utf8.runeError, 1)
      else (Utf8.runeError, 1)) := by
    unfold Utf8.decode
    simp only [bget, hsz]
  rw [e]
  clear e
  simp only [Nat.add_zero, h0]
  have c1 : ∀ k, (decide (p + k < s.length) && ((s[p + k]?).getD 0).toNat / 64 == 2) = true → ∃ h : p + k < s.length, 128 ≤ s[p + k].toNat := by
    intro k h
    simp only [Bool.and_eq_true, decide_eq_true_eq, beq_iff_eq] at h
    refine ⟨h.1, ?_⟩
    have h2 := h.2
    rw [List.getElem?_eq_getElem h.1] at h2
    simp only [Option.getD_some] at h2
    omega
  have bad : ¬ s[p].toNat < 128 → 1 ≤ (Utf8.runeError, 1).2 ∧ p + (Utf8.runeError, 1).2 ≤ s.length ∧ ((s[p].toNat < 128 ∧ (Utf8.runeError, 1) = (s[p].toNat, 1)) ∨ (128 ≤ (Utf8.runeError, 1).1 ∧ ∀ (i : Nat) (h : i < s.length), p ≤ i → i < p + (Utf8.runeError, 1).2 → 128 ≤ s[i].toNat)) := by
    intro hb
    refine ⟨Nat.le_refl _, by simp; omega, .inr ⟨by simp [Utf8.runeError], fun i h h1 h2 => ?_⟩⟩
    simp only at h2
    obtain rfl : i = p := by omega
    omega
  split
  · rename_i hb
    exact ⟨Nat.le_refl _, by simp; omega, .inl ⟨hb, rfl⟩⟩
  · rename_i hb
    split
    · rename_i hc
      simp only [Bool.and_eq_true] at hc
      obtain ⟨l1, g1⟩ := c1 1 (by simpa using hc.2)
      split
      · rename_i hd
        refine ⟨by simp, by simp; omega, .inr ⟨hd, fun i h h1 h2 => ?_⟩⟩
        simp only at h2
        rcases (by omega : i = p ∨ i = p + 1) with rfl | rfl
        · omega
        · exact g1
      · exact bad hb
    · split
      · rename_i hc
        simp only [Bool.and_eq_true] at hc
        obtain ⟨l1, g1⟩ := c1 1 (by simpa using hc.1.2)
        obtain ⟨l2, g2⟩ := c1 2 (by simpa using hc.2)
        split
        · rename_i hd
          simp only [Bool.and_eq_true, decide_eq_true_eq] at hd
          refine ⟨by simp, by simp; omega, .inr ⟨by have := hd.1; simp only [ge_iff_le] at this ⊢; omega, fun i h h1 h2 => ?_⟩⟩
          simp only at h2
          rcases (by omega : i = p ∨ i = p + 1 ∨ i = p + 2) with rfl | rfl | rfl
          · omega
          · exact g1
          · exact g2
        · exact bad hb
      · split
        · rename_i hc
          simp only [Bool.and_eq_true] at hc
          obtain ⟨l1, g1⟩ := c1 1 (by simpa using hc.1.1.2)
          obtain ⟨l2, g2⟩ := c1 2 (by simpa using hc.1.2)
          obtain ⟨l3, g3⟩ := c1 3 (by simpa using hc.2)
          split
          · rename_i hd
            simp only [Bool.and_eq_true, decide_eq_true_eq] at hd
            refine ⟨by simp, by simp; omega, .inr ⟨by have := hd.1; simp only [ge_iff_le] at this ⊢; omega, fun i h h1 h2 => ?_⟩⟩
            simp only at h2
            rcases (by omega : i = p ∨ i = p + 1 ∨ i = p + 2 ∨ i = p + 3) with rfl | rfl | rfl | rfl
            · omega
            · exact g1
            · exact g2
            · exact g3
          · exact bad hb
        · exact bad hb

/-- A blank, or a comma? -/
def sepB (c : UInt8) : Bool := c == 32 || c == 44

/-- Words, the first one begun. -/
def wds : List UInt8 → List UInt8 → List (List UInt8)
  | cur, [] => if cur = [] then [] else [cur]
  | cur, c :: l => if sepB c then (if cur = [] then wds [] l else cur :: wds [] l) else wds (cur ++ [c]) l

theorem wds_more : ∀ (a cur l : List UInt8), (∀ c ∈ a, sepB c = false) → wds cur (a ++ l) = wds (cur ++ a) l := by
  intro a
  induction a with
  | nil => intro cur l _; simp
  | cons x a ih =>
    intro cur l h
    have hx := h x (by simp)
    simp only [List.cons_append, wds, hx, Bool.false_eq_true, if_false]
    rw [ih _ _ (fun c hc => h c (by simp [hc]))]
    simp
theorem wds_ne : ∀ (l cur : List UInt8), ∀ w ∈ wds cur l, w ≠ [] := by
  intro l
  induction l with
  | nil => intro cur w hw; simp only [wds] at hw; split at hw <;> simp_all
  | cons c l ih =>
    intro cur w hw
    simp only [wds] at hw
    split at hw
    · split at hw
      · exact ih _ w hw
      · rcases List.mem_cons.1 hw with rfl | hw
        · assumption
        · exact ih _ w hw
    · exact ih _ w hw
theorem wds_len : ∀ (l cur : List UInt8), (wds cur l).length ≤ l.length + 1 := by
  intro l
  induction l with
  | nil => intro cur; simp only [wds]; split <;> simp
  | cons c l ih =>
    intro cur
    simp only [wds]
    have h1 := ih []
    split
    · split
      · simp only [List.length_cons]; omega
      · simp only [List.length_cons]; omega
    · have := ih (cur ++ [c]); simp only [List.length_cons]; omega

/-- A piece of a text. -/
def piece (s : List UInt8) (a : Nat × Nat) : List UInt8 := (s.take a.2).drop a.1

theorem xor_neg {n : Int} (h0 : 0 ≤ n) (h1 : n ≤ 4611686018427387904) : IntKind.i64.wrap ((BitVec.ofInt IntKind.i64.bits (-1) ^^^ BitVec.ofInt IntKind.i64.bits n).toNat : Nat) = -n - 1 := by
  have hb : IntKind.i64.bits = 64 := rfl
  rw [hb]
  have e1 : BitVec.ofInt 64 (-1) = BitVec.allOnes 64 := by decide
  have e2 : (BitVec.ofInt 64 n).toNat = n.toNat := by
    rw [BitVec.toNat_ofInt]
    have : n % ((2 ^ 64 : Nat) : Int) = n := Int.emod_eq_of_lt h0 (by simp; omega)
    rw [this]
  have e3 : (BitVec.ofInt 64 (-1) ^^^ BitVec.ofInt 64 n).toNat = 18446744073709551615 - n.toNat := by
    rw [e1, BitVec.allOnes_xor, BitVec.toNat_not, e2]
  rw [e3]
  have e4 : ((2 : Int) ^ IntKind.i64.bits) = 18446744073709551616 := by decide
  have e5 : ((2 : Int) ^ (IntKind.i64.bits - 1)) = 9223372036854775808 := by decide
  simp only [IntKind.wrap, e4, e5, IntKind.signed, Bool.true_and, decide_eq_true_eq, ge_iff_le]
  have h2 : n.toNat ≤ 4611686018427387904 := by omega
  have h3 : ((18446744073709551615 - n.toNat : Nat) : Int) = 18446744073709551615 - n := by omega
  rw [h3]
  split <;> omega

theorem wds_sep {s : List UInt8} {p : Nat} (hp : p < s.length) (cur : List UInt8) (h : sepB s[p] = true) : wds cur (s.drop p) = if cur = [] then wds [] (s.drop (p + 1)) else cur :: wds [] (s.drop (p + 1)) := by
  rw [List.drop_eq_getElem_cons hp]
  simp only [wds, h, if_true]
theorem wds_non {s : List UInt8} {p n : Nat} (hp : p + n ≤ s.length) (cur : List UInt8) (h : ∀ (i : Nat) (hi : i < s.length), p ≤ i → i < p + n → sepB s[i] = false) : wds cur (s.drop p) = wds (cur ++ (s.take (p + n)).drop p) (s.drop (p + n)) := by
  have e : s.drop p = (s.take (p + n)).drop p ++ s.drop (p + n) := by
    rw [show s.drop (p + n) = (s.drop p).drop n by rw [List.drop_drop]]
    rw [show (s.take (p + n)).drop p = (s.drop p).take n by rw [List.drop_take]; congr 1; omega]
    exact (List.take_append_drop n (s.drop p)).symm
  rw [e, wds_more _ cur _ (fun c hc => ?_)]
  obtain ⟨i, hi, rfl⟩ := List.getElem_of_mem hc
  have hl : i < n := by simp only [List.length_drop, List.length_take] at hi; omega
  simp only [List.getElem_drop, List.getElem_take]
  exact h (p + i) (by omega) (by omega) (by omega)
theorem grow_piece {s : List UInt8} {a p n : Nat} (ha : a ≤ p) (hp : p + n ≤ s.length) : (s.take p).drop a ++ (s.take (p + n)).drop p = (s.take (p + n)).drop a := by
  have e1 : s.take p = (s.take (p + n)).take p := by rw [List.take_take, Nat.min_eq_left (by omega)]
  rw [e1]
  generalize hu : s.take (p + n) = u
  have hul : p ≤ u.length := by rw [← hu, List.length_take]; omega
  have := List.take_append_drop p u
  have h3 : u.drop a = (u.take p ++ u.drop p).drop a := by rw [this]
  rw [h3, List.drop_append_of_le_length (by rw [List.length_take]; omega)]
theorem piece_ne {s : List UInt8} {a p : Nat} (ha : a < p) (hp : p ≤ s.length) : (s.take p).drop a ≠ [] := by
  intro h
  have := congrArg List.length h
  simp only [List.length_drop, List.length_take, List.length_nil] at this
  omega

theorem un_xor {n : Int} (h0 : 0 ≤ n) (h1 : n ≤ 4611686018427387904) : un .xor (.int .i64 n) = some (.int .i64 (-n - 1)) := by
  have := xor_neg h0 h1
  have e : un .xor (.int .i64 n) = some (.int .i64 (IntKind.i64.wrap ((BitVec.ofInt IntKind.i64.bits (-1) ^^^ BitVec.ofInt IntKind.i64.bits n).toNat : Nat))) := rfl
  rw [e, this]

/-! A table's first lines. -/
def wBox : List UInt8 := [98, 111, 120]
def wAll : List UInt8 := [97, 108, 108, 98, 111, 120]
def lookF : Bool → Bool → List (List UInt8) → Bool × Bool × Bool
  | b, a, [] => (b, a, true)
  | b, a, w :: l => if w = wAll then lookF true true l else if w = wBox then lookF true a l else (false, false, false)

def colB (c : UInt8) : UInt8 × Bool :=
  if c = 108 ∨ c = 76 then (108, true) else if c = 99 ∨ c = 67 then (99, true) else if c = 114 ∨ c = 82 then (114, true) else (108, false)
def colsF (l : List (List UInt8)) : List UInt8 := l.map fun w => (colB (w.headD 0)).1
def colsOk (l : List (List UInt8)) : Bool := l.all fun w => (colB (w.headD 0)).2

theorem toByte_byte (b : UInt8) : toByte (byteAV b) = some b := by
  simp only [toByte, byteAV, Int.toNat_natCast, Option.some.injEq]
  exact UInt8.ofNat_toNat
theorem seq_bytes : ∀ (l : List UInt8), seqO toByte (l.map byteAV) = some l := by
  intro l
  induction l with
  | nil => rfl
  | cons b l ih => simp only [List.map_cons, seqO, toByte_byte, ih, Option.bind_some, Option.map_some]

end Go.Proofs.VmX

/- The small parts that read words, looks and columns. -/
set_option linter.unusedVariables false
set_option linter.unusedSimpArgs false
namespace Go.Proofs.VmX
set_option maxRecDepth 100000

/-- Does a text end so? -/
def endsW (s t : List UInt8) : Bool := decide (t.length ≤ s.length) && s.drop (s.length - t.length) == t
/-- Without that end. -/
def cutE (s t : List UInt8) : List UInt8 := if endsW s t then s.take (s.length - t.length) else s

theorem p_HasSuffix (s t : List UInt8) (hs : s.length ≤ 1073741824) (ht : t.length ≤ 1073741824) : PureTo EC 60 [.str s, .str t] (.bool (endsW s t)) := by
  refine pure_go1 (res := [(.tmp 4)]) k60 rfl rfl ?_
  by_cases h : t.length ≤ s.length
  · have hb : decide ((s.length : Int) ≥ (t.length : Int)) = true := by simpa using h
    simp (disch := first | assumption | omega) only [ww, exitC, fillB, wantedA, evOp, opd, putO, bnd, ↓reduceIte, ckPlain, evC, binE, bin, sBin, iBin, eqB, bBin, Nat.reduceEqDiff, Nat.reduceAdd, Nat.reduceBEq, Nat.reduceLeDiff, Nat.reduceLT, Int.reduceBEq, Int.reduceBNe, Int.reduceLT, Int.reduceLE, Int.reduceGT, Int.reduceGE, Int.reduceAdd, Int.reduceSub, Int.reduceToNat, resOf, seqO, resOne, reduceCtorEq, okEl, AV.cells, AV.one, stE, stA, ld, ldE, snaps, rfs, rf, hb]
    have e : endsW s t = (s.drop (s.length - t.length) == t) := by simp only [endsW, h, decide_true, Bool.true_and]
    rw [e]
    exact snap_deep_rf rfl
  · have hb : decide ((s.length : Int) ≥ (t.length : Int)) = false := by simpa using h
    simp (disch := first | assumption | omega) only [ww, exitC, fillB, wantedA, evOp, opd, putO, bnd, ↓reduceIte, ckPlain, evC, binE, bin, sBin, iBin, eqB, bBin, Nat.reduceEqDiff, Nat.reduceAdd, Nat.reduceBEq, Nat.reduceLeDiff, Nat.reduceLT, Int.reduceBEq, Int.reduceBNe, Int.reduceLT, Int.reduceLE, Int.reduceGT, Int.reduceGE, Int.reduceAdd, Int.reduceSub, Int.reduceToNat, resOf, seqO, resOne, reduceCtorEq, okEl, AV.cells, AV.one, stE, stA, ld, ldE, snaps, rfs, rf, hb]
    simp only [endsW, h]
    exact snap_deep_rf rfl
theorem p_CutSuffix0 (s t : List UInt8) (hs : s.length ≤ 1073741824) (ht : t.length ≤ 1073741824) : PureTo EC 40 [.str s, .str t] (.tup [.str (cutE s t), .bool (endsW s t)]) := by
  refine pure_go1 (res := [(.tmp 4), (.tmp 5)]) k40 rfl rfl ?_
  simp (disch := first | assumption | omega) only [ww, exitC, fillB, wantedA, evOp, opd, putO, bnd, ↓reduceIte, ckPlain, evC, binE, bin, sBin, iBin, eqB, bBin, Nat.reduceEqDiff, Nat.reduceAdd, Nat.reduceBEq, Nat.reduceLeDiff, Nat.reduceLT, Int.reduceBEq, Int.reduceBNe, Int.reduceLT, Int.reduceLE, Int.reduceGT, Int.reduceGE, Int.reduceAdd, Int.reduceSub, Int.reduceToNat, resOf, seqO, resOne, reduceCtorEq, okEl, AV.cells, AV.one, stE, stA, ld, ldE, snaps, rfs, rf]
  refine ECallP.some (p_HasSuffix s t hs ht) ?_
  cases hb : endsW s t
  · simp (disch := first | assumption | omega) only [ww, exitC, fillB, wantedA, evOp, opd, putO, bnd, ↓reduceIte, ckPlain, evC, binE, bin, sBin, iBin, eqB, bBin, Nat.reduceEqDiff, Nat.reduceAdd, Nat.reduceBEq, Nat.reduceLeDiff, Nat.reduceLT, Int.reduceBEq, Int.reduceBNe, Int.reduceLT, Int.reduceLE, Int.reduceGT, Int.reduceGE, Int.reduceAdd, Int.reduceSub, Int.reduceToNat, resOf, seqO, resOne, reduceCtorEq, okEl, AV.cells, AV.one, stE, stA, ld, ldE, snaps, rfs, rf]
    simp only [cutE, hb]
    exact snap_deep_rf rfl
  · have hle : t.length ≤ s.length := by simp only [endsW, Bool.and_eq_true, decide_eq_true_eq] at hb; exact hb.1
    simp (disch := first | assumption | omega) only [ww, exitC, fillB, wantedA, evOp, opd, putO, bnd, ↓reduceIte, ckPlain, evC, binE, bin, sBin, iBin, eqB, bBin, Nat.reduceEqDiff, Nat.reduceAdd, Nat.reduceBEq, Nat.reduceLeDiff, Nat.reduceLT, Int.reduceBEq, Int.reduceBNe, Int.reduceLT, Int.reduceLE, Int.reduceGT, Int.reduceGE, Int.reduceAdd, Int.reduceSub, Int.reduceToNat, resOf, seqO, resOne, reduceCtorEq, okEl, AV.cells, AV.one, stE, stA, ld, ldE, snaps, rfs, rf]
    simp only [cutE, hb]
    exact snap_deep_rf rfl
theorem p_CutSuffix (s t : List UInt8) (hs : s.length ≤ 1073741824) (ht : t.length ≤ 1073741824) : PureTo EC 23 [.str s, .str t] (.tup [.str (cutE s t), .bool (endsW s t)]) := by
  refine pure_go1 (res := [(.tmp 4), (.tmp 5)]) k23 rfl rfl ?_
  simp (disch := first | assumption | omega) only [ww, exitC, fillB, wantedA, evOp, opd, putO, bnd, ↓reduceIte, ckPlain, evC, binE, bin, sBin, iBin, eqB, bBin, Nat.reduceEqDiff, Nat.reduceAdd, Nat.reduceBEq, Nat.reduceLeDiff, Nat.reduceLT, Int.reduceBEq, Int.reduceBNe, Int.reduceLT, Int.reduceLE, Int.reduceGT, Int.reduceGE, Int.reduceAdd, Int.reduceSub, Int.reduceToNat, resOf, seqO, resOne, reduceCtorEq, okEl, AV.cells, AV.one, stE, stA, ld, ldE, snaps, rfs, rf]
  refine ECallP.some (p_CutSuffix0 s t hs ht) ?_
  simp (disch := first | assumption | omega) only [ww, exitC, fillB, wantedA, evOp, opd, putO, bnd, ↓reduceIte, ckPlain, evC, binE, bin, sBin, iBin, eqB, bBin, Nat.reduceEqDiff, Nat.reduceAdd, Nat.reduceBEq, Nat.reduceLeDiff, Nat.reduceLT, Int.reduceBEq, Int.reduceBNe, Int.reduceLT, Int.reduceLE, Int.reduceGT, Int.reduceGE, Int.reduceAdd, Int.reduceSub, Int.reduceToNat, resOf, seqO, resOne, reduceCtorEq, okEl, AV.cells, AV.one, stE, stA, ld, ldE, snaps, rfs, rf]
  exact snap_deep_rf rfl
theorem p_TrimSuffix0 (s t : List UInt8) (hs : s.length ≤ 1073741824) (ht : t.length ≤ 1073741824) : PureTo EC 43 [.str s, .str t] (.str (cutE s t)) := by
  refine pure_go1 (res := [(.tmp 4)]) k43 rfl rfl ?_
  simp (disch := first | assumption | omega) only [ww, exitC, fillB, wantedA, evOp, opd, putO, bnd, ↓reduceIte, ckPlain, evC, binE, bin, sBin, iBin, eqB, bBin, Nat.reduceEqDiff, Nat.reduceAdd, Nat.reduceBEq, Nat.reduceLeDiff, Nat.reduceLT, Int.reduceBEq, Int.reduceBNe, Int.reduceLT, Int.reduceLE, Int.reduceGT, Int.reduceGE, Int.reduceAdd, Int.reduceSub, Int.reduceToNat, resOf, seqO, resOne, reduceCtorEq, okEl, AV.cells, AV.one, stE, stA, ld, ldE, snaps, rfs, rf]
  refine ECallP.some (p_HasSuffix s t hs ht) ?_
  cases hb : endsW s t
  · simp (disch := first | assumption | omega) only [ww, exitC, fillB, wantedA, evOp, opd, putO, bnd, ↓reduceIte, ckPlain, evC, binE, bin, sBin, iBin, eqB, bBin, Nat.reduceEqDiff, Nat.reduceAdd, Nat.reduceBEq, Nat.reduceLeDiff, Nat.reduceLT, Int.reduceBEq, Int.reduceBNe, Int.reduceLT, Int.reduceLE, Int.reduceGT, Int.reduceGE, Int.reduceAdd, Int.reduceSub, Int.reduceToNat, resOf, seqO, resOne, reduceCtorEq, okEl, AV.cells, AV.one, stE, stA, ld, ldE, snaps, rfs, rf]
    simp only [cutE, hb]
    exact snap_deep_rf rfl
  · have hle : t.length ≤ s.length := by simp only [endsW, Bool.and_eq_true, decide_eq_true_eq] at hb; exact hb.1
    simp (disch := first | assumption | omega) only [ww, exitC, fillB, wantedA, evOp, opd, putO, bnd, ↓reduceIte, ckPlain, evC, binE, bin, sBin, iBin, eqB, bBin, Nat.reduceEqDiff, Nat.reduceAdd, Nat.reduceBEq, Nat.reduceLeDiff, Nat.reduceLT, Int.reduceBEq, Int.reduceBNe, Int.reduceLT, Int.reduceLE, Int.reduceGT, Int.reduceGE, Int.reduceAdd, Int.reduceSub, Int.reduceToNat, resOf, seqO, resOne, reduceCtorEq, okEl, AV.cells, AV.one, stE, stA, ld, ldE, snaps, rfs, rf]
    simp only [cutE, hb]
    exact snap_deep_rf rfl
theorem p_TrimSuffix (s t : List UInt8) (hs : s.length ≤ 1073741824) (ht : t.length ≤ 1073741824) : PureTo EC 27 [.str s, .str t] (.str (cutE s t)) := by
  refine pure_go1 (res := [(.tmp 4)]) k27 rfl rfl ?_
  simp (disch := first | assumption | omega) only [ww, exitC, fillB, wantedA, evOp, opd, putO, bnd, ↓reduceIte, ckPlain, evC, binE, bin, sBin, iBin, eqB, bBin, Nat.reduceEqDiff, Nat.reduceAdd, Nat.reduceBEq, Nat.reduceLeDiff, Nat.reduceLT, Int.reduceBEq, Int.reduceBNe, Int.reduceLT, Int.reduceLE, Int.reduceGT, Int.reduceGE, Int.reduceAdd, Int.reduceSub, Int.reduceToNat, resOf, seqO, resOne, reduceCtorEq, okEl, AV.cells, AV.one, stE, stA, ld, ldE, snaps, rfs, rf]
  refine ECallP.some (p_TrimSuffix0 s t hs ht) ?_
  simp (disch := first | assumption | omega) only [ww, exitC, fillB, wantedA, evOp, opd, putO, bnd, ↓reduceIte, ckPlain, evC, binE, bin, sBin, iBin, eqB, bBin, Nat.reduceEqDiff, Nat.reduceAdd, Nat.reduceBEq, Nat.reduceLeDiff, Nat.reduceLT, Int.reduceBEq, Int.reduceBNe, Int.reduceLT, Int.reduceLE, Int.reduceGT, Int.reduceGE, Int.reduceAdd, Int.reduceSub, Int.reduceToNat, resOf, seqO, resOne, reduceCtorEq, okEl, AV.cells, AV.one, stE, stA, ld, ldE, snaps, rfs, rf]
  exact snap_deep_rf rfl
theorem p_HasSuffix1 (s t : List UInt8) (hs : s.length ≤ 1073741824) (ht : t.length ≤ 1073741824) : PureTo EC 46 [.str s, .str t] (.bool (endsW s t)) := by
  refine pure_go1 (res := [(.tmp 4)]) k46 rfl rfl ?_
  simp (disch := first | assumption | omega) only [ww, exitC, fillB, wantedA, evOp, opd, putO, bnd, ↓reduceIte, ckPlain, evC, binE, bin, sBin, iBin, eqB, bBin, Nat.reduceEqDiff, Nat.reduceAdd, Nat.reduceBEq, Nat.reduceLeDiff, Nat.reduceLT, Int.reduceBEq, Int.reduceBNe, Int.reduceLT, Int.reduceLE, Int.reduceGT, Int.reduceGE, Int.reduceAdd, Int.reduceSub, Int.reduceToNat, resOf, seqO, resOne, reduceCtorEq, okEl, AV.cells, AV.one, stE, stA, ld, ldE, snaps, rfs, rf]
  refine ECallP.some (p_HasSuffix s t hs ht) ?_
  simp (disch := first | assumption | omega) only [ww, exitC, fillB, wantedA, evOp, opd, putO, bnd, ↓reduceIte, ckPlain, evC, binE, bin, sBin, iBin, eqB, bBin, Nat.reduceEqDiff, Nat.reduceAdd, Nat.reduceBEq, Nat.reduceLeDiff, Nat.reduceLT, Int.reduceBEq, Int.reduceBNe, Int.reduceLT, Int.reduceLE, Int.reduceGT, Int.reduceGE, Int.reduceAdd, Int.reduceSub, Int.reduceToNat, resOf, seqO, resOne, reduceCtorEq, okEl, AV.cells, AV.one, stE, stA, ld, ldE, snaps, rfs, rf]
  exact snap_deep_rf rfl
theorem p_IndexByte (s : List UInt8) (b : UInt8) : PureTo EC 28 [.str s, byteAV b] (.int .i64 (idxByte b s 0)) := by
  refine pure_go1 (res := [(.tmp 4)]) k28 rfl rfl ?_
  simp (disch := first | assumption | omega) only [ww, exitC, fillB, wantedA, evOp, opd, putO, bnd, ↓reduceIte, ckPlain, evC, binE, bin, sBin, iBin, eqB, bBin, Nat.reduceEqDiff, Nat.reduceAdd, Nat.reduceBEq, Nat.reduceLeDiff, Nat.reduceLT, Int.reduceBEq, Int.reduceBNe, Int.reduceLT, Int.reduceLE, Int.reduceGT, Int.reduceGE, Int.reduceAdd, Int.reduceSub, Int.reduceToNat, resOf, seqO, resOne, reduceCtorEq, okEl, AV.cells, AV.one, stE, stA, ld, ldE, snaps, rfs, rf, rf_byte]
  refine ECallP.some (p44 s b) ?_
  simp (disch := first | assumption | omega) only [ww, exitC, fillB, wantedA, evOp, opd, putO, bnd, ↓reduceIte, ckPlain, evC, binE, bin, sBin, iBin, eqB, bBin, Nat.reduceEqDiff, Nat.reduceAdd, Nat.reduceBEq, Nat.reduceLeDiff, Nat.reduceLT, Int.reduceBEq, Int.reduceBNe, Int.reduceLT, Int.reduceLE, Int.reduceGT, Int.reduceGE, Int.reduceAdd, Int.reduceSub, Int.reduceToNat, resOf, seqO, resOne, reduceCtorEq, okEl, AV.cells, AV.one, stE, stA, ld, ldE, snaps, rfs, rf]
  exact snap_deep_rf rfl
theorem p_sep (r : Int) : PureTo EC 42 [.int .i32 r] (.bool (r == 32 || r == 44)) := by
  refine pure_go1 (res := [(.tmp 2)]) k42 rfl rfl ?_
  cases h1 : (r == 32)
  · simp (disch := first | assumption | omega) only [ww, exitC, fillB, wantedA, evOp, opd, putO, bnd, ↓reduceIte, ckPlain, evC, binE, bin, sBin, iBin, eqB, bBin, Nat.reduceEqDiff, Nat.reduceAdd, Nat.reduceBEq, Nat.reduceLeDiff, Nat.reduceLT, Int.reduceBEq, Int.reduceBNe, Int.reduceLT, Int.reduceLE, Int.reduceGT, Int.reduceGE, Int.reduceAdd, Int.reduceSub, Int.reduceToNat, resOf, seqO, resOne, reduceCtorEq, okEl, AV.cells, AV.one, stE, stA, ld, ldE, snaps, rfs, rf, h1]
    simp only [Bool.false_or]
    exact snap_deep_rf rfl
  · simp (disch := first | assumption | omega) only [ww, exitC, fillB, wantedA, evOp, opd, putO, bnd, ↓reduceIte, ckPlain, evC, binE, bin, sBin, iBin, eqB, bBin, Nat.reduceEqDiff, Nat.reduceAdd, Nat.reduceBEq, Nat.reduceLeDiff, Nat.reduceLT, Int.reduceBEq, Int.reduceBNe, Int.reduceLT, Int.reduceLE, Int.reduceGT, Int.reduceGE, Int.reduceAdd, Int.reduceSub, Int.reduceToNat, resOf, seqO, resOne, reduceCtorEq, okEl, AV.cells, AV.one, stE, stA, ld, ldE, snaps, rfs, rf, h1]
    exact snap_deep_rf rfl

def spAV (a : Nat × Nat) : AV := .agg [.int .i64 (a.1 : Nat), .int .i64 (a.2 : Nat)]

theorem p_FieldsFunc (s : List UInt8) (hs : s.length ≤ 1048576) : ∃ r, PureTo EC 41 [.str s, .fn 42 [] []] r ∧ ∃ x z, r = .sl x z ((wds [] s).map .str) ∧ (z = 1 ∨ wds [] s = []) := by
  refine pure_go (res := [(.tmp 4)]) k41 rfl rfl ?_
  simp (disch := first | assumption | omega) only [ww, exitC, fillB, wantedA, evOp, opd, putO, bnd, ↓reduceIte, ckPlain, evC, binE, bin, sBin, iBin, eqB, bBin, Nat.reduceEqDiff, Nat.reduceAdd, Nat.reduceBEq, Nat.reduceLeDiff, Nat.reduceLT, Int.reduceBEq, Int.reduceBNe, Int.reduceLT, Int.reduceLE, Int.reduceGT, Int.reduceGE, Int.reduceAdd, Int.reduceSub, Int.reduceToNat, resOf, seqO, resOne, reduceCtorEq, okEl, AV.cells, AV.one, stE, stA, ld, ldE, snaps, rfs, rf]
  refine Ends.cutBS (fun t h => ∃ (done : List (Nat × Nat)) (rest : List AV) (g : Nat) (c : Option Nat) (p : Nat), get t 0 = .str s ∧ get t 5 = .osl 0 g 2 0 done.length ∧ h = [.arr ⟨g, done.map spAV ++ rest, 2, 98, 0, c⟩, .iter s p] ∧
    done.length ≤ s.length + 1 ∧ (∀ a ∈ done, a.1 ≤ a.2 ∧ a.2 ≤ s.length) ∧ wds [] s = done.map (piece s)) ?_ ?_
  · rintro t h ⟨done, rest, g, c, p, g0, g5, rfl, hdl, hdn, hw⟩
    simp (disch := first | assumption | omega) only [ww, exitC, fillB, wantedA, evOp, opd, putO, bnd, ↓reduceIte, ckPlain, evC, binE, bin, sBin, iBin, eqB, bBin, Nat.reduceEqDiff, Nat.reduceAdd, Nat.reduceBEq, Nat.reduceLeDiff, Nat.reduceLT, Int.reduceBEq, Int.reduceBNe, Int.reduceLT, Int.reduceLE, Int.reduceGT, Int.reduceGE, Int.reduceAdd, Int.reduceSub, Int.reduceToNat, resOf, seqO, resOne, reduceCtorEq, okEl, AV.cells, AV.one, stE, stA, ld, ldE, snaps, rfs, rf, g0, g5]
    refine Ends.loop (fun m t h => ∃ (k : Nat) (junk : Heap), k + m = done.length ∧ get t 0 = .str s ∧ get t 47 = .osl 0 g 2 0 done.length ∧ get t 48 = .int .i64 (done.length : Nat) ∧ get t 49 = .int .i64 (k : Nat) ∧ get t 9 = .osl 2 0 1 0 done.length ∧
      h = .arr ⟨g, done.map spAV ++ rest, 2, 98, 0, c⟩ :: .iter s p :: .arr ⟨0, (done.take k).map (fun a => .str (piece s a)) ++ List.replicate m (.str []), 1, 9, 0, some done.length⟩ :: junk) done.length ?_ ?_
    · refine ⟨0, [], by omega, ?_, ?_, ?_, ?_, ?_, ?_⟩
      all_goals first | rfl | ((try simp only [get_put_if, ↓reduceIte, Nat.reduceEqDiff, get_cons_zero, get_cons_succ, get_nil, reduceCtorEq]); assumption) | ((try simp only [get_put_if, ↓reduceIte, Nat.reduceEqDiff, get_cons_zero, get_cons_succ, get_nil, reduceCtorEq]); done) | ((try simp only [get_put_if, ↓reduceIte, Nat.reduceEqDiff, get_cons_zero, get_cons_succ, get_nil, reduceCtorEq]); rfl)
    rintro m t h ⟨k, junk, hm, g0, g47, g48, g49, g9, rfl⟩ again
    by_cases hk : k < done.length
    · have hb : decide (((k : Nat) : Int) < ((done.length : Nat) : Int)) = true := by simpa using hk
      obtain ⟨m, rfl⟩ : ∃ j, m = j + 1 := ⟨m - 1, by omega⟩
      obtain ⟨a, b, hab⟩ : ∃ a b, done[k] = (a, b) := ⟨_, _, rfl⟩
      have hx : done[k]? = some (a, b) := by rw [List.getElem?_eq_getElem hk, hab]
      have hx2 : (done.map spAV ++ rest)[k]? = some (.agg [.int .i64 (a : Nat), .int .i64 (b : Nat)]) := by rw [List.getElem?_append_left (by simpa using hk)]; simp [hx, spAV]
      have hdk := hdn _ (List.getElem_mem hk)
      rw [hab] at hdk
      simp only at hdk
      have ht : done.take (k + 1) = done.take k ++ [(a, b)] := by rw [List.take_succ_eq_append_getElem hk, hab]
      have hkl : ((done.take k).map (fun a => AV.str (piece s a))).length = k := by simp; omega
      have e1 : ((done.take k).map (fun a => AV.str (piece s a)) ++ List.replicate (m + 1) (AV.str []))[k]? = some (.str []) := by
        have := at_app ((done.take k).map (fun a => AV.str (piece s a))) (AV.str []) (List.replicate m (AV.str []))
        rwa [hkl] at this
      have e2 : ((done.take k).map (fun a => AV.str (piece s a)) ++ List.replicate (m + 1) (AV.str [])).set k (.str ((s.take b).drop a)) = (done.take (k + 1)).map (fun a => AV.str (piece s a)) ++ List.replicate m (AV.str []) := by
        have := set_app ((done.take k).map (fun a => AV.str (piece s a))) (AV.str []) (.str ((s.take b).drop a)) (List.replicate m (AV.str []))
        rw [hkl] at this
        rw [List.replicate_succ, this, ht, List.map_append, List.append_assoc]
        rfl
      simp (disch := first | assumption | omega) only [ww, exitC, fillB, wantedA, evOp, opd, putO, bnd, ↓reduceIte, ckPlain, evC, binE, bin, sBin, iBin, eqB, bBin, Nat.reduceEqDiff, Nat.reduceAdd, Nat.reduceBEq, Nat.reduceLeDiff, Nat.reduceLT, Int.reduceBEq, Int.reduceBNe, Int.reduceLT, Int.reduceLE, Int.reduceGT, Int.reduceGE, Int.reduceAdd, Int.reduceSub, Int.reduceToNat, resOf, seqO, resOne, reduceCtorEq, okEl, AV.cells, AV.one, stE, stA, ld, ldE, snaps, rfs, rf, g0, g47, g48, g49, g9, hb, hx2, hk, e1, e2]
      refine again m _ _ (by omega) ⟨k + 1, junk ++ [.arr ⟨0, [.agg [.int .i64 (a : Nat), .int .i64 (b : Nat)]], 2, 98, 0, some 1⟩], by omega, ?_, ?_, ?_, ?_, ?_, rfl⟩
      all_goals first | ((try simp only [get_put_if, ↓reduceIte, Nat.reduceEqDiff, get_cons_zero, get_cons_succ, get_nil, reduceCtorEq]); assumption) | ((try simp only [get_put_if, ↓reduceIte, Nat.reduceEqDiff, get_cons_zero, get_cons_succ, get_nil, reduceCtorEq]); done)
    · have hb : decide (((k : Nat) : Int) < ((done.length : Nat) : Int)) = false := by simpa using hk
      obtain rfl : m = 0 := by omega
      have hkk : done.take k = done := List.take_of_length_le (by omega)
      simp only [hkk, List.replicate_zero, List.append_nil]
      simp (disch := first | assumption | omega) only [ww, exitC, fillB, wantedA, evOp, opd, putO, bnd, ↓reduceIte, ckPlain, evC, binE, bin, sBin, iBin, eqB, bBin, Nat.reduceEqDiff, Nat.reduceAdd, Nat.reduceBEq, Nat.reduceLeDiff, Nat.reduceLT, Int.reduceBEq, Int.reduceBNe, Int.reduceLT, Int.reduceLE, Int.reduceGT, Int.reduceGE, Int.reduceAdd, Int.reduceSub, Int.reduceToNat, resOf, seqO, resOne, reduceCtorEq, okEl, AV.cells, AV.one, stE, stA, ld, ldE, snaps, rfs, rf, g0, g47, g48, g49, g9, hb]
      have hl : (done.map fun a => AV.str (piece s a)).length = done.length := by simp
      have hr : done.map (fun a => AV.str (piece s a)) = (wds [] s).map .str := by rw [hw, List.map_map]; rfl
      refine ⟨_, snapd_osl (ys := (wds [] s).map .str) rfl (by decide) ?_ ?_ (rfs_str _), false, 1, rfl, .inl rfl⟩
      · simp
      · rw [List.drop_zero, ← hl, List.take_length, hr]
  intro c' cont
  refine Ends.loop (fun m t h => ∃ (p : Nat) (done : List (Nat × Nat)) (st : Option Nat) (n : Int) (rest : List AV) (g : Nat) (c : Option Nat), p + m = s.length ∧ get t 0 = .str s ∧ get t 1 = .fn 42 [] [] ∧ get t 14 = .it 1 ∧
    get t 5 = .osl 0 g 2 0 done.length ∧ get t 6 = .int .i64 n ∧ (match st with | none => n < 0 | some a => n = (a : Nat) ∧ a < p) ∧ h = [.arr ⟨g, done.map spAV ++ rest, 2, 98, 0, c⟩, .iter s p] ∧
    done.length ≤ p ∧ (∀ a ∈ done, a.1 ≤ a.2 ∧ a.2 ≤ s.length) ∧ wds [] s = done.map (piece s) ++ wds (match st with | none => [] | some a => (s.take p).drop a) (s.drop p)) s.length ?_ ?_
  · refine ⟨0, [], none, -1, List.replicate 32 (.agg [.int .i64 0, .int .i64 0]), 0, some 32, by omega, ?_, ?_, ?_, ?_, ?_, by decide, ?_, Nat.le_refl _, by simp, ?_⟩
    all_goals first | rfl | ((try simp only [get_put_if, ↓reduceIte, Nat.reduceEqDiff, get_cons_zero, get_cons_succ, get_nil, reduceCtorEq]); done) | ((try simp only [get_put_if, ↓reduceIte, Nat.reduceEqDiff, get_cons_zero, get_cons_succ, get_nil, reduceCtorEq]); rfl)
  rintro m t h ⟨p, done, st, n, rest, g, c, hm, g0, g1, g14, g5, g6, hst, rfl, hdl, hdn, hw⟩ again
  by_cases hp : p < s.length
  · have hd := decode_spec s p hp
    obtain ⟨d1, d2, d3⟩ := hd
    generalize hdd : Utf8.decode ⟨s.toArray⟩ p = d at *
    obtain ⟨r, n'⟩ := d
    simp only at d1 d2 d3
    simp (disch := first | assumption | omega) only [ww, exitC, fillB, wantedA, evOp, opd, putO, bnd, ↓reduceIte, ckPlain, evC, binE, bin, sBin, iBin, eqB, bBin, Nat.reduceEqDiff, Nat.reduceAdd, Nat.reduceBEq, Nat.reduceLeDiff, Nat.reduceLT, Int.reduceBEq, Int.reduceBNe, Int.reduceLT, Int.reduceLE, Int.reduceGT, Int.reduceGE, Int.reduceAdd, Int.reduceSub, Int.reduceToNat, resOf, seqO, resOne, reduceCtorEq, okEl, AV.cells, AV.one, stE, stA, ld, ldE, snaps, rfs, rf, g0, g1, g14, g5, g6, nextV, hp, hdd]
    rw [ECallV_pure rfl]
    simp (disch := first | assumption | omega) only [ww, exitC, fillB, wantedA, evOp, opd, putO, bnd, ↓reduceIte, ckPlain, evC, binE, bin, sBin, iBin, eqB, bBin, Nat.reduceEqDiff, Nat.reduceAdd, Nat.reduceBEq, Nat.reduceLeDiff, Nat.reduceLT, Int.reduceBEq, Int.reduceBNe, Int.reduceLT, Int.reduceLE, Int.reduceGT, Int.reduceGE, Int.reduceAdd, Int.reduceSub, Int.reduceToNat, resOf, seqO, resOne, reduceCtorEq, okEl, AV.cells, AV.one, stE, stA, ld, ldE, snaps, rfs, rf]
    refine ECallP.some (p_sep _) ?_
    cases hr : ((r : Int) == 32 || (r : Int) == 44)
    · have hno : ∀ (i : Nat) (hi : i < s.length), p ≤ i → i < p + n' → sepB s[i] = false := by
        intro i hi h1 h2
        rcases d3 with ⟨h3, h4⟩ | ⟨h3, h4⟩
        · simp only [Prod.mk.injEq] at h4
          obtain ⟨rfl, rfl⟩ := h4
          obtain rfl : i = p := by omega
          simp only [Bool.or_eq_false_iff, beq_eq_false_iff_ne, ne_eq] at hr
          simp only [sepB, Bool.or_eq_false_iff, beq_eq_false_iff_ne, ne_eq]
          exact ⟨fun h => hr.1 (by rw [h]; rfl), fun h => hr.2 (by rw [h]; rfl)⟩
        · have := h4 i hi h1 h2
          simp only [sepB, Bool.or_eq_false_iff, beq_eq_false_iff_ne, ne_eq]
          exact ⟨fun h => by rw [h] at this; simp at this, fun h => by rw [h] at this; simp at this⟩
      cases st with
      | none =>
        have hb : decide (n < 0) = true := by simpa using hst
        simp (disch := first | assumption | omega) only [ww, exitC, fillB, wantedA, evOp, opd, putO, bnd, ↓reduceIte, ckPlain, evC, binE, bin, sBin, iBin, eqB, bBin, Nat.reduceEqDiff, Nat.reduceAdd, Nat.reduceBEq, Nat.reduceLeDiff, Nat.reduceLT, Int.reduceBEq, Int.reduceBNe, Int.reduceLT, Int.reduceLE, Int.reduceGT, Int.reduceGE, Int.reduceAdd, Int.reduceSub, Int.reduceToNat, resOf, seqO, resOne, reduceCtorEq, okEl, AV.cells, AV.one, stE, stA, ld, ldE, snaps, rfs, rf, g0, g1, g14, g5, g6, hb]
        refine again (m - n') _ _ (by omega) ⟨p + n', done, some p, (p : Nat), rest, g, c, by omega, ?_, ?_, ?_, ?_, ?_, ?_, rfl, by omega, hdn, ?_⟩
        all_goals first | ((try simp only [get_put_if, ↓reduceIte, Nat.reduceEqDiff, get_cons_zero, get_cons_succ, get_nil, reduceCtorEq]); assumption) | ((try simp only [get_put_if, ↓reduceIte, Nat.reduceEqDiff, get_cons_zero, get_cons_succ, get_nil, reduceCtorEq]); done) | skip
        · exact ⟨rfl, by omega⟩
        · rw [hw, wds_non d2 [] hno]; simp
      | some a =>
        obtain ⟨rfl, ha⟩ := hst
        have hb : decide (((a : Nat) : Int) < 0) = false := by simp
        simp (disch := first | assumption | omega) only [ww, exitC, fillB, wantedA, evOp, opd, putO, bnd, ↓reduceIte, ckPlain, evC, binE, bin, sBin, iBin, eqB, bBin, Nat.reduceEqDiff, Nat.reduceAdd, Nat.reduceBEq, Nat.reduceLeDiff, Nat.reduceLT, Int.reduceBEq, Int.reduceBNe, Int.reduceLT, Int.reduceLE, Int.reduceGT, Int.reduceGE, Int.reduceAdd, Int.reduceSub, Int.reduceToNat, resOf, seqO, resOne, reduceCtorEq, okEl, AV.cells, AV.one, stE, stA, ld, ldE, snaps, rfs, rf, g0, g1, g14, g5, g6, hb]
        refine again (m - n') _ _ (by omega) ⟨p + n', done, some a, (a : Nat), rest, g, c, by omega, ?_, ?_, ?_, ?_, ?_, ?_, rfl, by omega, hdn, ?_⟩
        all_goals first | ((try simp only [get_put_if, ↓reduceIte, Nat.reduceEqDiff, get_cons_zero, get_cons_succ, get_nil, reduceCtorEq]); assumption) | ((try simp only [get_put_if, ↓reduceIte, Nat.reduceEqDiff, get_cons_zero, get_cons_succ, get_nil, reduceCtorEq]); done) | skip
        · exact ⟨rfl, by omega⟩
        · rw [hw]; simp only; rw [wds_non d2 _ hno, grow_piece (by omega) d2]
    · have hyes : n' = 1 ∧ sepB s[p] = true := by
        simp only [Bool.or_eq_true, beq_iff_eq] at hr
        rcases d3 with ⟨h3, h4⟩ | ⟨h3, h4⟩
        · simp only [Prod.mk.injEq] at h4
          obtain ⟨rfl, rfl⟩ := h4
          refine ⟨rfl, ?_⟩
          simp only [sepB, Bool.or_eq_true, beq_iff_eq]
          rcases hr with h | h
          · exact .inl (UInt8.toNat_inj.1 (by simp; omega))
          · exact .inr (UInt8.toNat_inj.1 (by simp; omega))
        · omega
      obtain ⟨rfl, hy⟩ := hyes
      cases st with
      | none =>
        have hb : decide (n ≥ 0) = false := by simp only [decide_eq_false_iff_not]; simp only at hst; omega
        simp (disch := first | assumption | omega) only [ww, exitC, fillB, wantedA, evOp, opd, putO, bnd, ↓reduceIte, ckPlain, evC, binE, bin, sBin, iBin, eqB, bBin, Nat.reduceEqDiff, Nat.reduceAdd, Nat.reduceBEq, Nat.reduceLeDiff, Nat.reduceLT, Int.reduceBEq, Int.reduceBNe, Int.reduceLT, Int.reduceLE, Int.reduceGT, Int.reduceGE, Int.reduceAdd, Int.reduceSub, Int.reduceToNat, resOf, seqO, resOne, reduceCtorEq, okEl, AV.cells, AV.one, stE, stA, ld, ldE, snaps, rfs, rf, g0, g1, g14, g5, g6, hb]
        refine again (m - 1) _ _ (by omega) ⟨p + 1, done, none, n, rest, g, c, by omega, ?_, ?_, ?_, ?_, ?_, hst, rfl, by omega, hdn, ?_⟩
        all_goals first | ((try simp only [get_put_if, ↓reduceIte, Nat.reduceEqDiff, get_cons_zero, get_cons_succ, get_nil, reduceCtorEq]); assumption) | ((try simp only [get_put_if, ↓reduceIte, Nat.reduceEqDiff, get_cons_zero, get_cons_succ, get_nil, reduceCtorEq]); done) | skip
        · rw [hw]; simp only; rw [wds_sep hp _ hy]; simp
      | some a =>
        obtain ⟨rfl, ha⟩ := hst
        have hb : decide (((a : Nat) : Int) ≥ 0) = true := by simp
        have happ : ∃ g' rest' c', appendV 98 2 16 (.osl 0 g 2 0 done.length) [spAV (a, p)] [.arr ⟨g, done.map spAV ++ rest, 2, 98, 0, c⟩, .iter s (p + 1)] =
            some (.osl 0 g' 2 0 (done.length + 1), [.arr ⟨g', (done ++ [(a, p)]).map spAV ++ rest', 2, 98, 0, c'⟩, .iter s (p + 1)]) := by
          cases rest with
          | nil =>
            have := appendV_full (el := 98) (sz := 2) (bytes := 16) (id := 0) (gen := g) (lock := 0) (xs := done.map spAV) (ys := [spAV (a, p)]) (cap := c) (h := [.arr ⟨g, done.map spAV ++ [], 2, 98, 0, c⟩, .iter s (p + 1)])
              (by simp [getA]) (by simp) (roomOk_of (by simp; omega) (by omega)) (by omega)
            simp only [List.length_map, List.length_cons, List.length_nil, Nat.zero_add] at this
            rw [this]
            exact ⟨g + 1, [], _, by simp; rfl⟩
          | cons x rest =>
            have := appendV_room (el := 98) (sz := 2) (bytes := 16) (id := 0) (gen := g) (lock := 0) (xs := done.map spAV) (ys := [spAV (a, p)]) (rest := x :: rest) (cap := c) (h := [.arr ⟨g, done.map spAV ++ x :: rest, 2, 98, 0, c⟩, .iter s (p + 1)])
              (by simp [getA]) (by simp) (by simp) (by omega)
            simp only [List.length_map, List.length_cons, List.length_nil, Nat.zero_add] at this
            rw [this]
            exact ⟨g, rest, c, by simp⟩
        obtain ⟨g', rest', c', happ⟩ := happ
        simp only [spAV] at happ
        simp (disch := first | assumption | omega) only [ww, exitC, fillB, wantedA, evOp, opd, putO, bnd, ↓reduceIte, ckPlain, evC, binE, bin, sBin, iBin, eqB, bBin, Nat.reduceEqDiff, Nat.reduceAdd, Nat.reduceBEq, Nat.reduceLeDiff, Nat.reduceLT, Int.reduceBEq, Int.reduceBNe, Int.reduceLT, Int.reduceLE, Int.reduceGT, Int.reduceGE, Int.reduceAdd, Int.reduceSub, Int.reduceToNat, resOf, seqO, resOne, reduceCtorEq, okEl, AV.cells, AV.one, stE, stA, ld, ldE, snaps, rfs, rf, g0, g1, g14, g5, g6, hb, happ, un_xor]
        refine again (m - 1) _ _ (by omega) ⟨p + 1, done ++ [(a, p)], none, -(a : Int) - 1, rest', g', c', by omega, ?_, ?_, ?_, ?_, ?_, by simp only; omega, rfl, by simp; omega, ?_, ?_⟩
        all_goals first | ((try simp only [get_put_if, ↓reduceIte, Nat.reduceEqDiff, get_cons_zero, get_cons_succ, get_nil, reduceCtorEq]); assumption) | ((try simp only [get_put_if, ↓reduceIte, Nat.reduceEqDiff, get_cons_zero, get_cons_succ, get_nil, reduceCtorEq]); done) | skip
        · (try simp only [get_put_if, ↓reduceIte, Nat.reduceEqDiff, get_cons_zero, get_cons_succ, get_nil, reduceCtorEq]); simp
        · intro x hx
          rcases List.mem_append.1 hx with hx | hx
          · exact hdn x hx
          · simp only [List.mem_singleton] at hx
            subst hx
            simp only
            omega
        · rw [hw]; simp only; rw [wds_sep hp _ hy, if_neg (piece_ne ha (by omega))]; simp [piece]
  · obtain rfl : p = s.length := by omega
    cases st with
    | none =>
      have hb : decide (n ≥ 0) = false := by simp only [decide_eq_false_iff_not]; simp only at hst; omega
      simp (disch := first | assumption | omega) only [ww, exitC, fillB, wantedA, evOp, opd, putO, bnd, ↓reduceIte, ckPlain, evC, binE, bin, sBin, iBin, eqB, bBin, Nat.reduceEqDiff, Nat.reduceAdd, Nat.reduceBEq, Nat.reduceLeDiff, Nat.reduceLT, Int.reduceBEq, Int.reduceBNe, Int.reduceLT, Int.reduceLE, Int.reduceGT, Int.reduceGE, Int.reduceAdd, Int.reduceSub, Int.reduceToNat, resOf, seqO, resOne, reduceCtorEq, okEl, AV.cells, AV.one, stE, stA, ld, ldE, snaps, rfs, rf, g0, g1, g14, g5, g6, nextV, Nat.lt_irrefl, hb]
      refine cont _ _ ⟨done, rest, g, c, s.length, ?_, ?_, rfl, by omega, hdn, ?_⟩
      all_goals first | ((try simp only [get_put_if, ↓reduceIte, Nat.reduceEqDiff, get_cons_zero, get_cons_succ, get_nil, reduceCtorEq]); assumption) | ((try simp only [get_put_if, ↓reduceIte, Nat.reduceEqDiff, get_cons_zero, get_cons_succ, get_nil, reduceCtorEq]); done) | skip
      · rw [hw]; simp [wds]
    | some a =>
      obtain ⟨rfl, ha⟩ := hst
      have hb : decide (((a : Nat) : Int) ≥ 0) = true := by simp
      have happ : ∃ g' rest' c', appendV 98 2 16 (.osl 0 g 2 0 done.length) [spAV (a, s.length)] [.arr ⟨g, done.map spAV ++ rest, 2, 98, 0, c⟩, .iter s s.length] =
          some (.osl 0 g' 2 0 (done.length + 1), [.arr ⟨g', (done ++ [(a, s.length)]).map spAV ++ rest', 2, 98, 0, c'⟩, .iter s s.length]) := by
        cases rest with
        | nil =>
          have := appendV_full (el := 98) (sz := 2) (bytes := 16) (id := 0) (gen := g) (lock := 0) (xs := done.map spAV) (ys := [spAV (a, s.length)]) (cap := c) (h := [.arr ⟨g, done.map spAV ++ [], 2, 98, 0, c⟩, .iter s s.length])
            (by simp [getA]) (by simp) (roomOk_of (by simp; omega) (by omega)) (by omega)
          simp only [List.length_map, List.length_cons, List.length_nil, Nat.zero_add] at this
          rw [this]
          exact ⟨g + 1, [], _, by simp; rfl⟩
        | cons x rest =>
          have := appendV_room (el := 98) (sz := 2) (bytes := 16) (id := 0) (gen := g) (lock := 0) (xs := done.map spAV) (ys := [spAV (a, s.length)]) (rest := x :: rest) (cap := c) (h := [.arr ⟨g, done.map spAV ++ x :: rest, 2, 98, 0, c⟩, .iter s s.length])
            (by simp [getA]) (by simp) (by simp) (by omega)
          simp only [List.length_map, List.length_cons, List.length_nil, Nat.zero_add] at this
          rw [this]
          exact ⟨g, rest, c, by simp⟩
      obtain ⟨g', rest', c', happ⟩ := happ
      simp only [spAV] at happ
      simp (disch := first | assumption | omega) only [ww, exitC, fillB, wantedA, evOp, opd, putO, bnd, ↓reduceIte, ckPlain, evC, binE, bin, sBin, iBin, eqB, bBin, Nat.reduceEqDiff, Nat.reduceAdd, Nat.reduceBEq, Nat.reduceLeDiff, Nat.reduceLT, Int.reduceBEq, Int.reduceBNe, Int.reduceLT, Int.reduceLE, Int.reduceGT, Int.reduceGE, Int.reduceAdd, Int.reduceSub, Int.reduceToNat, resOf, seqO, resOne, reduceCtorEq, okEl, AV.cells, AV.one, stE, stA, ld, ldE, snaps, rfs, rf, g0, g1, g14, g5, g6, nextV, Nat.lt_irrefl, hb, happ]
      refine cont _ _ ⟨done ++ [(a, s.length)], rest', g', c', s.length, ?_, ?_, rfl, by simp; omega, ?_, ?_⟩
      all_goals first | ((try simp only [get_put_if, ↓reduceIte, Nat.reduceEqDiff, get_cons_zero, get_cons_succ, get_nil, reduceCtorEq]); assumption) | ((try simp only [get_put_if, ↓reduceIte, Nat.reduceEqDiff, get_cons_zero, get_cons_succ, get_nil, reduceCtorEq]); done) | skip
      · (try simp only [get_put_if, ↓reduceIte, Nat.reduceEqDiff, get_cons_zero, get_cons_succ, get_nil, reduceCtorEq]); simp
      · intro x hx
        rcases List.mem_append.1 hx with hx | hx
        · exact hdn x hx
        · simp only [List.mem_singleton] at hx
          subst hx
          simp only
          omega
      · rw [hw]; simp only; rw [List.drop_length]; simp only [wds]; rw [if_neg (piece_ne ha (Nat.le_refl _))]; simp [piece]

theorem p_words (s : List UInt8) (hs : s.length ≤ 1048576) : ∃ r, PureTo EC 24 [.str s] r ∧ ∃ x z, r = .sl x z ((wds [] s).map .str) ∧ (z = 1 ∨ wds [] s = []) := by
  obtain ⟨r, h1, x, z, rfl, hz⟩ := p_FieldsFunc s hs
  refine ⟨_, ?_, x, z, rfl, hz⟩
  refine pure_go1 (res := [(.tmp 2)]) k24 rfl rfl ?_
  simp (disch := first | assumption | omega) only [ww, exitC, fillB, wantedA, evOp, opd, putO, bnd, ↓reduceIte, ckPlain, evC, binE, bin, sBin, iBin, eqB, bBin, Nat.reduceEqDiff, Nat.reduceAdd, Nat.reduceBEq, Nat.reduceLeDiff, Nat.reduceLT, Int.reduceBEq, Int.reduceBNe, Int.reduceLT, Int.reduceLE, Int.reduceGT, Int.reduceGE, Int.reduceAdd, Int.reduceSub, Int.reduceToNat, resOf, seqO, resOne, reduceCtorEq, okEl, AV.cells, AV.one, stE, stA, ld, ldE, snaps, rfs, rf]
  refine ECallP.some h1 ?_
  simp (disch := first | assumption | omega) only [ww, exitC, fillB, wantedA, evOp, opd, putO, bnd, ↓reduceIte, ckPlain, evC, binE, bin, sBin, iBin, eqB, bBin, Nat.reduceEqDiff, Nat.reduceAdd, Nat.reduceBEq, Nat.reduceLeDiff, Nat.reduceLT, Int.reduceBEq, Int.reduceBNe, Int.reduceLT, Int.reduceLE, Int.reduceGT, Int.reduceGE, Int.reduceAdd, Int.reduceSub, Int.reduceToNat, resOf, seqO, resOne, reduceCtorEq, okEl, AV.cells, AV.one, stE, stA, ld, ldE, snaps, rfs, rf]
  exact snap_deep_rf (by simp only [rf]; exact rfs_str _)

theorem p_ends (s : List UInt8) (c : UInt8) (hs : s.length ≤ 1073741824) : PureTo EC 25 [.str s, byteAV c] (.bool (endsW s [c])) := by
  by_cases h0 : s = []
  · subst h0
    refine pure_go1 (res := [(.tmp 4)]) k25 rfl rfl ?_
    simp (disch := first | assumption | omega) only [ww, exitC, fillB, wantedA, evOp, opd, putO, bnd, ↓reduceIte, ckPlain, evC, binE, bin, sBin, iBin, eqB, bBin, Nat.reduceEqDiff, Nat.reduceAdd, Nat.reduceBEq, Nat.reduceLeDiff, Nat.reduceLT, Int.reduceBEq, Int.reduceBNe, Int.reduceLT, Int.reduceLE, Int.reduceGT, Int.reduceGE, Int.reduceAdd, Int.reduceSub, Int.reduceToNat, resOf, seqO, resOne, reduceCtorEq, okEl, AV.cells, AV.one, stE, stA, ld, ldE, snaps, rfs, rf]
    have e : endsW [] [c] = false := rfl
    rw [e]
    exact snap_deep_rf rfl
  · have hl : 0 < s.length := List.length_pos_iff.2 h0
    have hx : s[s.length - 1]? = some s[s.length - 1] := List.getElem?_eq_getElem (by omega)
    have hb : decide (((s.length : Nat) : Int) > 0) = true := by simp; omega
    have hd : s.drop (s.length - 1) = [s[s.length - 1]] := by
      rw [List.drop_eq_getElem_cons (by omega), show s.length - 1 + 1 = s.length by omega, List.drop_length]
    refine pure_go1 (res := [(.tmp 4)]) k25 rfl rfl ?_
    simp (disch := first | assumption | omega) only [ww, exitC, fillB, wantedA, evOp, opd, putO, bnd, ↓reduceIte, ckPlain, evC, binE, bin, sBin, iBin, eqB, bBin, Nat.reduceEqDiff, Nat.reduceAdd, Nat.reduceBEq, Nat.reduceLeDiff, Nat.reduceLT, Int.reduceBEq, Int.reduceBNe, Int.reduceLT, Int.reduceLE, Int.reduceGT, Int.reduceGE, Int.reduceAdd, Int.reduceSub, Int.reduceToNat, resOf, seqO, resOne, reduceCtorEq, okEl, AV.cells, AV.one, stE, stA, ld, ldE, snaps, rfs, rf, hb, hx, byteAV]
    rw [toNat_beq]
    have e : endsW s [c] = (s[s.length - 1] == c) := by
      simp only [endsW, List.length_cons, List.length_nil, Nat.zero_add, hd]
      have : (1 ≤ s.length) := hl
      simp [this]
    rw [e]
    exact snap_deep_rf rfl

theorem ref_words (s : List UInt8) (hs : s.length ≤ 1048576) : PureTo EC 26 [.str s] (accV 1 ((wds [] s).map .str)) := by
  refine pure_go1 (res := [(.tmp 2)]) k26 rfl rfl ?_
  simp (disch := first | assumption | omega) only [ww, exitC, fillB, wantedA, evOp, opd, putO, bnd, ↓reduceIte, ckPlain, evC, binE, bin, sBin, iBin, eqB, bBin, Nat.reduceEqDiff, Nat.reduceAdd, Nat.reduceBEq, Nat.reduceLeDiff, Nat.reduceLT, Int.reduceBEq, Int.reduceBNe, Int.reduceLT, Int.reduceLE, Int.reduceGT, Int.reduceGE, Int.reduceAdd, Int.reduceSub, Int.reduceToNat, resOf, seqO, resOne, reduceCtorEq, okEl, AV.cells, AV.one, stE, stA, ld, ldE, snaps, rfs, rf]
  refine Ends.loop (fun m t h => ∃ (p : Nat) (done : List (List UInt8)) (cur : List UInt8) (o : AV), p + m = s.length + 1 ∧ get t 0 = .str s ∧ get t 3 = o ∧ get t 4 = .str cur ∧ get t 5 = .int .i64 (p : Nat) ∧
    Own h o 1 9 (done.map .str) ∧ done.length ≤ p ∧ cur.length ≤ p ∧ (if p ≤ s.length then wds [] s = done ++ wds cur (s.drop p) else wds [] s = done)) (s.length + 1) ?_ ?_
  · refine ⟨0, [], [], _, by omega, ?_, rfl, ?_, ?_, ?_, Nat.le_refl _, Nat.le_refl _, by simp⟩
    all_goals first | ((try simp only [get_put_if, ↓reduceIte, Nat.reduceEqDiff, get_cons_zero, get_cons_succ, get_nil, reduceCtorEq]); done) | ((try simp only [get_put_if, ↓reduceIte, Nat.reduceEqDiff, get_cons_zero, get_cons_succ, get_nil, reduceCtorEq]); rfl) | exact Own.nil _ _ _
  rintro m t h ⟨p, done, cur, o, hm, g0, g3, g4, g5, ho, hdl, hcl, hw⟩ again
  rcases Nat.lt_trichotomy p s.length with hp | hp | hp
  · have hb1 : decide (((p : Nat) : Int) ≤ ((s.length : Nat) : Int)) = true := by simp; omega
    have hb2 : decide (((p : Nat) : Int) < ((s.length : Nat) : Int)) = true := by simpa using hp
    have hx : s[p]? = some s[p] := List.getElem?_eq_getElem hp
    rw [if_pos (by omega)] at hw
    have e1 : ((s[p].toNat : Int) != 32) = !(s[p] == 32) := by rw [bne, show ((s[p].toNat : Int) == 32) = (s[p] == 32) from toNat_beq s[p] 32]
    have e2 : ((s[p].toNat : Int) != 44) = !(s[p] == 44) := by rw [bne, show ((s[p].toNat : Int) == 44) = (s[p] == 44) from toNat_beq s[p] 44]
    by_cases hsep : sepB s[p] = true
    · have h12 : (s[p] == 32) = true ∨ ((s[p] == 32) = false ∧ (s[p] == 44) = true) := by
        simp only [sepB, Bool.or_eq_true] at hsep
        cases h : (s[p] == 32)
        · exact .inr ⟨rfl, by rcases hsep with h2 | h2 <;> simp_all⟩
        · exact .inl rfl
      rcases h12 with h32 | ⟨h32, h44⟩
      · by_cases hc : cur = []
        · subst hc
          simp (disch := first | assumption | omega) only [ww, exitC, fillB, wantedA, evOp, opd, putO, bnd, ↓reduceIte, ckPlain, evC, binE, bin, sBin, iBin, eqB, bBin, Nat.reduceEqDiff, Nat.reduceAdd, Nat.reduceBEq, Nat.reduceLeDiff, Nat.reduceLT, Int.reduceBEq, Int.reduceBNe, Int.reduceLT, Int.reduceLE, Int.reduceGT, Int.reduceGE, Int.reduceAdd, Int.reduceSub, Int.reduceToNat, resOf, seqO, resOne, reduceCtorEq, okEl, AV.cells, AV.one, stE, stA, ld, ldE, snaps, rfs, rf, g0, g3, g4, g5, hb1, hb2, hx, byteAV, e1, e2, h32]
          refine again (m - 1) _ _ (by omega) ⟨p + 1, done, [], o, by omega, ?_, ?_, ?_, ?_, ho, by omega, by simp, ?_⟩
          all_goals first | ((try simp only [get_put_if, ↓reduceIte, Nat.reduceEqDiff, get_cons_zero, get_cons_succ, get_nil, reduceCtorEq]); assumption) | ((try simp only [get_put_if, ↓reduceIte, Nat.reduceEqDiff, get_cons_zero, get_cons_succ, get_nil, reduceCtorEq]); done) | skip
          rw [if_pos (by omega), hw, wds_sep hp _ hsep, if_pos rfl]
        · have hb3 : (cur == ([] : List UInt8)) = false := by simpa using hc
          obtain ⟨v', h', happ, ho', _, _⟩ := ho.app (bytes := 16) [.str cur] (by simp) (by simp; omega) (by omega)
          simp (disch := first | assumption | omega) only [ww, exitC, fillB, wantedA, evOp, opd, putO, bnd, ↓reduceIte, ckPlain, evC, binE, bin, sBin, iBin, eqB, bBin, Nat.reduceEqDiff, Nat.reduceAdd, Nat.reduceBEq, Nat.reduceLeDiff, Nat.reduceLT, Int.reduceBEq, Int.reduceBNe, Int.reduceLT, Int.reduceLE, Int.reduceGT, Int.reduceGE, Int.reduceAdd, Int.reduceSub, Int.reduceToNat, resOf, seqO, resOne, reduceCtorEq, okEl, AV.cells, AV.one, stE, stA, ld, ldE, snaps, rfs, rf, g0, g3, g4, g5, hb1, hb2, hx, byteAV, e1, e2, h32, hb3, happ]
          refine again (m - 1) _ _ (by omega) ⟨p + 1, done ++ [cur], [], v', by omega, ?_, ?_, ?_, ?_, by simpa using ho', by simp; omega, by simp, ?_⟩
          all_goals first | ((try simp only [get_put_if, ↓reduceIte, Nat.reduceEqDiff, get_cons_zero, get_cons_succ, get_nil, reduceCtorEq]); assumption) | ((try simp only [get_put_if, ↓reduceIte, Nat.reduceEqDiff, get_cons_zero, get_cons_succ, get_nil, reduceCtorEq]); done) | skip
          rw [if_pos (by omega), hw, wds_sep hp _ hsep, if_neg hc]; simp
      · by_cases hc : cur = []
        · subst hc
          simp (disch := first | assumption | omega) only [ww, exitC, fillB, wantedA, evOp, opd, putO, bnd, ↓reduceIte, ckPlain, evC, binE, bin, sBin, iBin, eqB, bBin, Nat.reduceEqDiff, Nat.reduceAdd, Nat.reduceBEq, Nat.reduceLeDiff, Nat.reduceLT, Int.reduceBEq, Int.reduceBNe, Int.reduceLT, Int.reduceLE, Int.reduceGT, Int.reduceGE, Int.reduceAdd, Int.reduceSub, Int.reduceToNat, resOf, seqO, resOne, reduceCtorEq, okEl, AV.cells, AV.one, stE, stA, ld, ldE, snaps, rfs, rf, g0, g3, g4, g5, hb1, hb2, hx, byteAV, e1, e2, h32, h44]
          refine again (m - 1) _ _ (by omega) ⟨p + 1, done, [], o, by omega, ?_, ?_, ?_, ?_, ho, by omega, by simp, ?_⟩
          all_goals first | ((try simp only [get_put_if, ↓reduceIte, Nat.reduceEqDiff, get_cons_zero, get_cons_succ, get_nil, reduceCtorEq]); assumption) | ((try simp only [get_put_if, ↓reduceIte, Nat.reduceEqDiff, get_cons_zero, get_cons_succ, get_nil, reduceCtorEq]); done) | skip
          rw [if_pos (by omega), hw, wds_sep hp _ hsep, if_pos rfl]
        · have hb3 : (cur == ([] : List UInt8)) = false := by simpa using hc
          obtain ⟨v', h', happ, ho', _, _⟩ := ho.app (bytes := 16) [.str cur] (by simp) (by simp; omega) (by omega)
          simp (disch := first | assumption | omega) only [ww, exitC, fillB, wantedA, evOp, opd, putO, bnd, ↓reduceIte, ckPlain, evC, binE, bin, sBin, iBin, eqB, bBin, Nat.reduceEqDiff, Nat.reduceAdd, Nat.reduceBEq, Nat.reduceLeDiff, Nat.reduceLT, Int.reduceBEq, Int.reduceBNe, Int.reduceLT, Int.reduceLE, Int.reduceGT, Int.reduceGE, Int.reduceAdd, Int.reduceSub, Int.reduceToNat, resOf, seqO, resOne, reduceCtorEq, okEl, AV.cells, AV.one, stE, stA, ld, ldE, snaps, rfs, rf, g0, g3, g4, g5, hb1, hb2, hx, byteAV, e1, e2, h32, h44, hb3, happ]
          refine again (m - 1) _ _ (by omega) ⟨p + 1, done ++ [cur], [], v', by omega, ?_, ?_, ?_, ?_, by simpa using ho', by simp; omega, by simp, ?_⟩
          all_goals first | ((try simp only [get_put_if, ↓reduceIte, Nat.reduceEqDiff, get_cons_zero, get_cons_succ, get_nil, reduceCtorEq]); assumption) | ((try simp only [get_put_if, ↓reduceIte, Nat.reduceEqDiff, get_cons_zero, get_cons_succ, get_nil, reduceCtorEq]); done) | skip
          rw [if_pos (by omega), hw, wds_sep hp _ hsep, if_neg hc]; simp
    · have hs2 : sepB s[p] = false := by simpa using hsep
      have h32 : (s[p] == 32) = false := by simp only [sepB, Bool.or_eq_false_iff] at hs2; exact hs2.1
      have h44 : (s[p] == 44) = false := by simp only [sepB, Bool.or_eq_false_iff] at hs2; exact hs2.2
      have hpc : (s.take (p + 1)).drop p = [s[p]] := by rw [List.take_succ_eq_append_getElem hp, List.drop_append_of_le_length (by simp; omega), List.drop_of_length_le (by simp; omega)]; rfl
      simp (disch := first | assumption | omega) only [ww, exitC, fillB, wantedA, evOp, opd, putO, bnd, ↓reduceIte, ckPlain, evC, binE, bin, sBin, iBin, eqB, bBin, Nat.reduceEqDiff, Nat.reduceAdd, Nat.reduceBEq, Nat.reduceLeDiff, Nat.reduceLT, Int.reduceBEq, Int.reduceBNe, Int.reduceLT, Int.reduceLE, Int.reduceGT, Int.reduceGE, Int.reduceAdd, Int.reduceSub, Int.reduceToNat, resOf, seqO, resOne, reduceCtorEq, okEl, AV.cells, AV.one, stE, stA, ld, ldE, snaps, rfs, rf, g0, g3, g4, g5, hb1, hb2, hx, byteAV, e1, e2, h32, h44, hpc, List.length_append]
      refine again (m - 1) _ _ (by omega) ⟨p + 1, done, cur ++ [s[p]], o, by omega, ?_, ?_, ?_, ?_, ho, by omega, by simp; omega, ?_⟩
      all_goals first | ((try simp only [get_put_if, ↓reduceIte, Nat.reduceEqDiff, get_cons_zero, get_cons_succ, get_nil, reduceCtorEq]); assumption) | ((try simp only [get_put_if, ↓reduceIte, Nat.reduceEqDiff, get_cons_zero, get_cons_succ, get_nil, reduceCtorEq]); done) | skip
      rw [if_pos (by omega), hw]
      have := wds_non (s := s) (p := p) (n := 1) (by omega) cur (fun i hi h1 h2 => by have e : i = p := (by omega); subst e; exact hs2)
      rw [this, hpc]
  · have hb1 : decide (((p : Nat) : Int) ≤ ((s.length : Nat) : Int)) = true := by simp; omega
    have hb2 : decide (((p : Nat) : Int) < ((s.length : Nat) : Int)) = false := by simp; omega
    have hx : s[p]? = none := List.getElem?_eq_none (by omega)
    have hdr : s.drop p = [] := List.drop_of_length_le (by omega)
    rw [if_pos (by omega)] at hw
    by_cases hc : cur = []
    · subst hc
      simp (disch := first | assumption | omega) only [ww, exitC, fillB, wantedA, evOp, opd, putO, bnd, ↓reduceIte, ckPlain, evC, binE, bin, sBin, iBin, eqB, bBin, Nat.reduceEqDiff, Nat.reduceAdd, Nat.reduceBEq, Nat.reduceLeDiff, Nat.reduceLT, Int.reduceBEq, Int.reduceBNe, Int.reduceLT, Int.reduceLE, Int.reduceGT, Int.reduceGE, Int.reduceAdd, Int.reduceSub, Int.reduceToNat, resOf, seqO, resOne, reduceCtorEq, okEl, AV.cells, AV.one, stE, stA, ld, ldE, snaps, rfs, rf, g0, g3, g4, g5, hb1, hb2, hx, byteAV, hb2]
      refine again (m - 1) _ _ (by omega) ⟨p + 1, done, [], o, by omega, ?_, ?_, ?_, ?_, ho, by omega, by simp, ?_⟩
      all_goals first | ((try simp only [get_put_if, ↓reduceIte, Nat.reduceEqDiff, get_cons_zero, get_cons_succ, get_nil, reduceCtorEq]); assumption) | ((try simp only [get_put_if, ↓reduceIte, Nat.reduceEqDiff, get_cons_zero, get_cons_succ, get_nil, reduceCtorEq]); done) | skip
      rw [if_neg (by omega), hw, hdr]; simp [wds]
    · have hb3 : (cur == ([] : List UInt8)) = false := by simpa using hc
      obtain ⟨v', h', happ, ho', _, _⟩ := ho.app (bytes := 16) [.str cur] (by simp) (by simp; omega) (by omega)
      simp (disch := first | assumption | omega) only [ww, exitC, fillB, wantedA, evOp, opd, putO, bnd, ↓reduceIte, ckPlain, evC, binE, bin, sBin, iBin, eqB, bBin, Nat.reduceEqDiff, Nat.reduceAdd, Nat.reduceBEq, Nat.reduceLeDiff, Nat.reduceLT, Int.reduceBEq, Int.reduceBNe, Int.reduceLT, Int.reduceLE, Int.reduceGT, Int.reduceGE, Int.reduceAdd, Int.reduceSub, Int.reduceToNat, resOf, seqO, resOne, reduceCtorEq, okEl, AV.cells, AV.one, stE, stA, ld, ldE, snaps, rfs, rf, g0, g3, g4, g5, hb1, hb2, hx, byteAV, hb2, hb3, happ]
      refine again (m - 1) _ _ (by omega) ⟨p + 1, done ++ [cur], [], v', by omega, ?_, ?_, ?_, ?_, by simpa using ho', by simp; omega, by simp, ?_⟩
      all_goals first | ((try simp only [get_put_if, ↓reduceIte, Nat.reduceEqDiff, get_cons_zero, get_cons_succ, get_nil, reduceCtorEq]); assumption) | ((try simp only [get_put_if, ↓reduceIte, Nat.reduceEqDiff, get_cons_zero, get_cons_succ, get_nil, reduceCtorEq]); done) | skip
      rw [if_neg (by omega), hw, hdr]; simp [wds, hc]
  · have hb1 : decide (((p : Nat) : Int) ≤ ((s.length : Nat) : Int)) = false := by simp; omega
    rw [if_neg (by omega)] at hw
    simp (disch := first | assumption | omega) only [ww, exitC, fillB, wantedA, evOp, opd, putO, bnd, ↓reduceIte, ckPlain, evC, binE, bin, sBin, iBin, eqB, bBin, Nat.reduceEqDiff, Nat.reduceAdd, Nat.reduceBEq, Nat.reduceLeDiff, Nat.reduceLT, Int.reduceBEq, Int.reduceBNe, Int.reduceLT, Int.reduceLE, Int.reduceGT, Int.reduceGE, Int.reduceAdd, Int.reduceSub, Int.reduceToNat, resOf, seqO, resOne, reduceCtorEq, okEl, AV.cells, AV.one, stE, stA, ld, ldE, snaps, rfs, rf, g0, g3, g4, g5, hb1]
    rw [hw]
    exact ho.snap (by decide) (rfs_str _) _
end Go.Proofs.VmX

/- Looks, columns, texts cut: the program's, and the document's. -/
set_option linter.unusedVariables false
set_option linter.unusedSimpArgs false
namespace Go.Proofs.VmX
set_option maxRecDepth 100000

def tup3 (x : Bool × Bool × Bool) : AV := .tup [.bool x.1, .bool x.2.1, .bool x.2.2]
def lookS (s : List UInt8) : Bool × Bool × Bool := if endsW s [59] then lookF false false (wds [] (cutE s [59])) else (false, false, false)

theorem cutE_len (s t : List UInt8) : (cutE s t).length ≤ s.length := by
  unfold cutE
  split
  · simp
  · exact Nat.le_refl _

theorem p_Look (s : List UInt8) (hs : s.length ≤ 1048576) : PureTo EC 8 [.str s] (tup3 (lookS s)) := by
  have hcl := cutE_len s [59]
  obtain ⟨r, hw, x, z, rfl, hz⟩ := p_words (cutE s [59]) (by omega)
  have hwl := wds_len (cutE s [59]) []
  refine pure_go1 (res := [(.tmp 2), (.tmp 3), (.tmp 4)]) k8 rfl rfl ?_
  simp (disch := first | assumption | omega) only [ww, exitC, fillB, wantedA, evOp, opd, putO, bnd, ↓reduceIte, ckPlain, evC, binE, bin, sBin, iBin, eqB, bBin, Nat.reduceEqDiff, Nat.reduceAdd, Nat.reduceBEq, Nat.reduceLeDiff, Nat.reduceLT, Int.reduceBEq, Int.reduceBNe, Int.reduceLT, Int.reduceLE, Int.reduceGT, Int.reduceGE, Int.reduceAdd, Int.reduceSub, Int.reduceToNat, resOf, seqO, resOne, reduceCtorEq, okEl, AV.cells, AV.one, stE, stA, ld, ldE, snaps, rfs, rf]
  refine ECallP.some (p_CutSuffix s [59] (by omega) (by simp)) ?_
  cases he : endsW s [59]
  · simp (disch := first | assumption | omega) only [ww, exitC, fillB, wantedA, evOp, opd, putO, bnd, ↓reduceIte, ckPlain, evC, binE, bin, sBin, iBin, eqB, bBin, Nat.reduceEqDiff, Nat.reduceAdd, Nat.reduceBEq, Nat.reduceLeDiff, Nat.reduceLT, Int.reduceBEq, Int.reduceBNe, Int.reduceLT, Int.reduceLE, Int.reduceGT, Int.reduceGE, Int.reduceAdd, Int.reduceSub, Int.reduceToNat, resOf, seqO, resOne, reduceCtorEq, okEl, AV.cells, AV.one, stE, stA, ld, ldE, snaps, rfs, rf]
    simp only [lookS, he]
    exact snap_deep_rf rfl
  simp (disch := first | assumption | omega) only [ww, exitC, fillB, wantedA, evOp, opd, putO, bnd, ↓reduceIte, ckPlain, evC, binE, bin, sBin, iBin, eqB, bBin, Nat.reduceEqDiff, Nat.reduceAdd, Nat.reduceBEq, Nat.reduceLeDiff, Nat.reduceLT, Int.reduceBEq, Int.reduceBNe, Int.reduceLT, Int.reduceLE, Int.reduceGT, Int.reduceGE, Int.reduceAdd, Int.reduceSub, Int.reduceToNat, resOf, seqO, resOne, reduceCtorEq, okEl, AV.cells, AV.one, stE, stA, ld, ldE, snaps, rfs, rf]
  refine ECallP.some hw ?_
  simp (disch := first | assumption | omega) only [ww, exitC, fillB, wantedA, evOp, opd, putO, bnd, ↓reduceIte, ckPlain, evC, binE, bin, sBin, iBin, eqB, bBin, Nat.reduceEqDiff, Nat.reduceAdd, Nat.reduceBEq, Nat.reduceLeDiff, Nat.reduceLT, Int.reduceBEq, Int.reduceBNe, Int.reduceLT, Int.reduceLE, Int.reduceGT, Int.reduceGE, Int.reduceAdd, Int.reduceSub, Int.reduceToNat, resOf, seqO, resOne, reduceCtorEq, okEl, AV.cells, AV.one, stE, stA, ld, ldE, snaps, rfs, rf, List.length_map]
  have hS : lookS s = lookF false false (wds [] (cutE s [59])) := by simp only [lookS, he, if_true]
  rw [hS]
  generalize wds [] (cutE s [59]) = ws at *
  refine Ends.loop (fun m t h => ∃ (done todo : List (List UInt8)) (b a : Bool), ws = done ++ todo ∧ m = todo.length ∧ get t 7 = .bool b ∧ get t 8 = .bool a ∧ get t 19 = .sl x z (ws.map .str) ∧ get t 20 = .int .i64 (ws.length : Nat) ∧ get t 21 = .int .i64 (done.length : Nat) ∧
    lookF false false ws = lookF b a todo) ws.length ?_ ?_
  · refine ⟨[], ws, false, false, rfl, rfl, ?_, ?_, ?_, ?_, ?_, rfl⟩
    all_goals first | ((try simp only [get_put_if, ↓reduceIte, Nat.reduceEqDiff, get_cons_zero, get_cons_succ, get_nil, reduceCtorEq]); done) | ((try simp only [get_put_if, ↓reduceIte, Nat.reduceEqDiff, get_cons_zero, get_cons_succ, get_nil, reduceCtorEq]); rfl)
  rintro m t h ⟨done, todo, b, a, rfl, rfl, g7, g8, g19, g20, g21, hf⟩ again
  cases todo with
  | nil =>
    simp only [List.append_nil] at *
    simp (disch := first | assumption | omega) only [ww, exitC, fillB, wantedA, evOp, opd, putO, bnd, ↓reduceIte, ckPlain, evC, binE, bin, sBin, iBin, eqB, bBin, Nat.reduceEqDiff, Nat.reduceAdd, Nat.reduceBEq, Nat.reduceLeDiff, Nat.reduceLT, Int.reduceBEq, Int.reduceBNe, Int.reduceLT, Int.reduceLE, Int.reduceGT, Int.reduceGE, Int.reduceAdd, Int.reduceSub, Int.reduceToNat, resOf, seqO, resOne, reduceCtorEq, okEl, AV.cells, AV.one, stE, stA, ld, ldE, snaps, rfs, rf, g7, g8, g19, g20, g21, Int.lt_irrefl]
    rw [hf]
    exact snap_deep_rf rfl
  | cons w todo =>
    have hb1 : decide (((done.length : Nat) : Int) < (((done ++ w :: todo).length : Nat) : Int)) = true := by simp; omega
    have hx : (done ++ w :: todo)[done.length]? = some w := by simp
    have hz1 : z = 1 := by rcases hz with h | h; exact h; simp at h
    subst hz1
    have hdl : done.length ≤ 2000000 := by have := hwl; simp only [List.length_append, List.length_cons] at this; omega
    by_cases h1 : w = wAll
    · have e1 : (w == wAll) = true := by simpa using h1
      simp only [wAll] at e1
      simp (disch := first | assumption | omega) only [ww, exitC, fillB, wantedA, evOp, opd, putO, bnd, ↓reduceIte, ckPlain, evC, binE, bin, sBin, iBin, eqB, bBin, Nat.reduceEqDiff, Nat.reduceAdd, Nat.reduceBEq, Nat.reduceLeDiff, Nat.reduceLT, Int.reduceBEq, Int.reduceBNe, Int.reduceLT, Int.reduceLE, Int.reduceGT, Int.reduceGE, Int.reduceAdd, Int.reduceSub, Int.reduceToNat, resOf, seqO, resOne, reduceCtorEq, okEl, AV.cells, AV.one, stE, stA, ld, ldE, snaps, rfs, rf, g7, g8, g19, g20, g21, hb1, hx, e1, List.getElem?_map]
      refine again _ _ _ (by simp) ⟨done ++ [w], todo, true, true, by simp, rfl, ?_, ?_, ?_, ?_, ?_, ?_⟩
      all_goals first | ((try simp only [get_put_if, ↓reduceIte, Nat.reduceEqDiff, get_cons_zero, get_cons_succ, get_nil, reduceCtorEq]); assumption) | ((try simp only [get_put_if, ↓reduceIte, Nat.reduceEqDiff, get_cons_zero, get_cons_succ, get_nil, reduceCtorEq]); done) | skip
      · (try simp only [get_put_if, ↓reduceIte, Nat.reduceEqDiff, get_cons_zero, get_cons_succ, get_nil, reduceCtorEq]); simp
      · rw [hf]; simp only [lookF, h1, if_true]
    · have e1 : (w == wAll) = false := by simpa using h1
      simp only [wAll] at e1
      by_cases h2 : w = wBox
      · have e2 : (w == wBox) = true := by simpa using h2
        simp only [wBox] at e2
        simp (disch := first | assumption | omega) only [ww, exitC, fillB, wantedA, evOp, opd, putO, bnd, ↓reduceIte, ckPlain, evC, binE, bin, sBin, iBin, eqB, bBin, Nat.reduceEqDiff, Nat.reduceAdd, Nat.reduceBEq, Nat.reduceLeDiff, Nat.reduceLT, Int.reduceBEq, Int.reduceBNe, Int.reduceLT, Int.reduceLE, Int.reduceGT, Int.reduceGE, Int.reduceAdd, Int.reduceSub, Int.reduceToNat, resOf, seqO, resOne, reduceCtorEq, okEl, AV.cells, AV.one, stE, stA, ld, ldE, snaps, rfs, rf, g7, g8, g19, g20, g21, hb1, hx, e1, e2, List.getElem?_map]
        refine again _ _ _ (by simp) ⟨done ++ [w], todo, true, a, by simp, rfl, ?_, ?_, ?_, ?_, ?_, ?_⟩
        all_goals first | ((try simp only [get_put_if, ↓reduceIte, Nat.reduceEqDiff, get_cons_zero, get_cons_succ, get_nil, reduceCtorEq]); assumption) | ((try simp only [get_put_if, ↓reduceIte, Nat.reduceEqDiff, get_cons_zero, get_cons_succ, get_nil, reduceCtorEq]); done) | skip
        · (try simp only [get_put_if, ↓reduceIte, Nat.reduceEqDiff, get_cons_zero, get_cons_succ, get_nil, reduceCtorEq]); simp
        · rw [hf]; simp only [lookF, if_neg h1, h2, if_true]; rw [if_neg (by decide)]
      · have e2 : (w == wBox) = false := by simpa using h2
        simp only [wBox] at e2
        simp (disch := first | assumption | omega) only [ww, exitC, fillB, wantedA, evOp, opd, putO, bnd, ↓reduceIte, ckPlain, evC, binE, bin, sBin, iBin, eqB, bBin, Nat.reduceEqDiff, Nat.reduceAdd, Nat.reduceBEq, Nat.reduceLeDiff, Nat.reduceLT, Int.reduceBEq, Int.reduceBNe, Int.reduceLT, Int.reduceLE, Int.reduceGT, Int.reduceGE, Int.reduceAdd, Int.reduceSub, Int.reduceToNat, resOf, seqO, resOne, reduceCtorEq, okEl, AV.cells, AV.one, stE, stA, ld, ldE, snaps, rfs, rf, g7, g8, g19, g20, g21, hb1, hx, e1, e2, List.getElem?_map]
        rw [hf]
        simp only [lookF, if_neg h1, if_neg h2]
        exact snap_deep_rf rfl

theorem cutE_one (s : List UInt8) (c : UInt8) (he : endsW s [c] = true) : s.take (s.length - 1) = cutE s [c] := by simp [cutE, he]
theorem accV_sl (sz : Nat) (xs : List AV) : ∃ x z, accV sz xs = .sl x z xs ∧ (z = sz ∨ xs = []) := by
  unfold accV
  split
  · rename_i h; subst h; exact ⟨_, _, rfl, .inr rfl⟩
  · exact ⟨_, _, rfl, .inl rfl⟩

theorem ref_Look (s : List UInt8) (hs : s.length ≤ 1048576) : PureTo EC 9 [.str s] (tup3 (lookS s)) := by
  have hcl := cutE_len s [59]
  have hw := ref_words (cutE s [59]) (by omega)
  have hwl := wds_len (cutE s [59]) []
  refine pure_go1 (res := [(.tmp 2), (.tmp 3), (.tmp 4)]) k9 rfl rfl ?_
  simp (disch := first | assumption | omega) only [ww, exitC, fillB, wantedA, evOp, opd, putO, bnd, ↓reduceIte, ckPlain, evC, binE, bin, sBin, iBin, eqB, bBin, Nat.reduceEqDiff, Nat.reduceAdd, Nat.reduceBEq, Nat.reduceLeDiff, Nat.reduceLT, Int.reduceBEq, Int.reduceBNe, Int.reduceLT, Int.reduceLE, Int.reduceGT, Int.reduceGE, Int.reduceAdd, Int.reduceSub, Int.reduceToNat, resOf, seqO, resOne, reduceCtorEq, okEl, AV.cells, AV.one, stE, stA, ld, ldE, snaps, rfs, rf]
  refine ECallP.some (p_ends s 59 (by omega)) ?_
  cases he : endsW s [59]
  · simp (disch := first | assumption | omega) only [ww, exitC, fillB, wantedA, evOp, opd, putO, bnd, ↓reduceIte, ckPlain, evC, binE, bin, sBin, iBin, eqB, bBin, Nat.reduceEqDiff, Nat.reduceAdd, Nat.reduceBEq, Nat.reduceLeDiff, Nat.reduceLT, Int.reduceBEq, Int.reduceBNe, Int.reduceLT, Int.reduceLE, Int.reduceGT, Int.reduceGE, Int.reduceAdd, Int.reduceSub, Int.reduceToNat, resOf, seqO, resOne, reduceCtorEq, okEl, AV.cells, AV.one, stE, stA, ld, ldE, snaps, rfs, rf]
    simp only [lookS, he]
    exact snap_deep_rf rfl
  have hs1 : 1 ≤ s.length := by simp only [endsW, Bool.and_eq_true, decide_eq_true_eq] at he; simpa using he.1
  have hct := cutE_one s 59 he
  simp (disch := first | assumption | omega) only [ww, exitC, fillB, wantedA, evOp, opd, putO, bnd, ↓reduceIte, ckPlain, evC, binE, bin, sBin, iBin, eqB, bBin, Nat.reduceEqDiff, Nat.reduceAdd, Nat.reduceBEq, Nat.reduceLeDiff, Nat.reduceLT, Int.reduceBEq, Int.reduceBNe, Int.reduceLT, Int.reduceLE, Int.reduceGT, Int.reduceGE, Int.reduceAdd, Int.reduceSub, Int.reduceToNat, resOf, seqO, resOne, reduceCtorEq, okEl, AV.cells, AV.one, stE, stA, ld, ldE, snaps, rfs, rf, hct]
  refine ECallP.some hw ?_
  obtain ⟨x, z, hv, hz⟩ := accV_sl 1 ((wds [] (cutE s [59])).map .str)
  rw [hv]
  have hS : lookS s = lookF false false (wds [] (cutE s [59])) := by simp only [lookS, he, if_true]
  rw [hS]
  generalize wds [] (cutE s [59]) = ws at *
  simp (disch := first | assumption | omega) only [ww, exitC, fillB, wantedA, evOp, opd, putO, bnd, ↓reduceIte, ckPlain, evC, binE, bin, sBin, iBin, eqB, bBin, Nat.reduceEqDiff, Nat.reduceAdd, Nat.reduceBEq, Nat.reduceLeDiff, Nat.reduceLT, Int.reduceBEq, Int.reduceBNe, Int.reduceLT, Int.reduceLE, Int.reduceGT, Int.reduceGE, Int.reduceAdd, Int.reduceSub, Int.reduceToNat, resOf, seqO, resOne, reduceCtorEq, okEl, AV.cells, AV.one, stE, stA, ld, ldE, snaps, rfs, rf, List.length_map]
  refine Ends.loop (fun m t h => ∃ (done todo : List (List UInt8)) (b a : Bool), ws = done ++ todo ∧ m = todo.length ∧ get t 5 = .sl x z (ws.map .str) ∧ get t 6 = .bool b ∧ get t 7 = .bool a ∧ get t 8 = .int .i64 (done.length : Nat) ∧
    lookF false false ws = lookF b a todo) ws.length ?_ ?_
  · refine ⟨[], ws, false, false, rfl, rfl, ?_, ?_, ?_, ?_, rfl⟩
    all_goals first | ((try simp only [get_put_if, ↓reduceIte, Nat.reduceEqDiff, get_cons_zero, get_cons_succ, get_nil, reduceCtorEq]); done) | ((try simp only [get_put_if, ↓reduceIte, Nat.reduceEqDiff, get_cons_zero, get_cons_succ, get_nil, reduceCtorEq]); rfl)
  rintro m t h ⟨done, todo, b, a, rfl, rfl, g5, g6, g7, g8, hf⟩ again
  cases todo with
  | nil =>
    simp only [List.append_nil] at *
    simp (disch := first | assumption | omega) only [ww, exitC, fillB, wantedA, evOp, opd, putO, bnd, ↓reduceIte, ckPlain, evC, binE, bin, sBin, iBin, eqB, bBin, Nat.reduceEqDiff, Nat.reduceAdd, Nat.reduceBEq, Nat.reduceLeDiff, Nat.reduceLT, Int.reduceBEq, Int.reduceBNe, Int.reduceLT, Int.reduceLE, Int.reduceGT, Int.reduceGE, Int.reduceAdd, Int.reduceSub, Int.reduceToNat, resOf, seqO, resOne, reduceCtorEq, okEl, AV.cells, AV.one, stE, stA, ld, ldE, snaps, rfs, rf, g5, g6, g7, g8, List.length_map, Int.lt_irrefl]
    rw [hf]
    exact snap_deep_rf rfl
  | cons w todo =>
    have hb1 : decide (((done.length : Nat) : Int) < (((done ++ w :: todo).length : Nat) : Int)) = true := by simp; omega
    have hx : (done ++ w :: todo)[done.length]? = some w := by simp
    have hz1 : z = 1 := by rcases hz with h | h; exact h; simp at h
    subst hz1
    have hdl : done.length ≤ 2000000 := by have := hwl; simp only [List.length_append, List.length_cons] at this; omega
    by_cases h1 : w = wAll
    · have e1 : (w == wAll) = true := by simpa using h1
      have e2 : (w == wBox) = false := by subst h1; decide
      simp only [wAll] at e1
      simp only [wBox] at e2
      cases a
      · simp (disch := first | assumption | omega) only [ww, exitC, fillB, wantedA, evOp, opd, putO, bnd, ↓reduceIte, ckPlain, evC, binE, bin, sBin, iBin, eqB, bBin, Nat.reduceEqDiff, Nat.reduceAdd, Nat.reduceBEq, Nat.reduceLeDiff, Nat.reduceLT, Int.reduceBEq, Int.reduceBNe, Int.reduceLT, Int.reduceLE, Int.reduceGT, Int.reduceGE, Int.reduceAdd, Int.reduceSub, Int.reduceToNat, resOf, seqO, resOne, reduceCtorEq, okEl, AV.cells, AV.one, stE, stA, ld, ldE, snaps, rfs, rf, g5, g6, g7, g8, hb1, hx, e1, e2, List.getElem?_map, List.length_map]
        refine again _ _ _ (by simp) ⟨done ++ [w], todo, true, true, by simp, rfl, ?_, ?_, ?_, ?_, ?_⟩
        all_goals first | ((try simp only [get_put_if, ↓reduceIte, Nat.reduceEqDiff, get_cons_zero, get_cons_succ, get_nil, reduceCtorEq]); assumption) | ((try simp only [get_put_if, ↓reduceIte, Nat.reduceEqDiff, get_cons_zero, get_cons_succ, get_nil, reduceCtorEq]); done) | skip
        · (try simp only [get_put_if, ↓reduceIte, Nat.reduceEqDiff, get_cons_zero, get_cons_succ, get_nil, reduceCtorEq]); simp
        · rw [hf]; simp only [lookF, h1, if_true]
      · simp (disch := first | assumption | omega) only [ww, exitC, fillB, wantedA, evOp, opd, putO, bnd, ↓reduceIte, ckPlain, evC, binE, bin, sBin, iBin, eqB, bBin, Nat.reduceEqDiff, Nat.reduceAdd, Nat.reduceBEq, Nat.reduceLeDiff, Nat.reduceLT, Int.reduceBEq, Int.reduceBNe, Int.reduceLT, Int.reduceLE, Int.reduceGT, Int.reduceGE, Int.reduceAdd, Int.reduceSub, Int.reduceToNat, resOf, seqO, resOne, reduceCtorEq, okEl, AV.cells, AV.one, stE, stA, ld, ldE, snaps, rfs, rf, g5, g6, g7, g8, hb1, hx, e1, e2, List.getElem?_map, List.length_map]
        refine again _ _ _ (by simp) ⟨done ++ [w], todo, true, true, by simp, rfl, ?_, ?_, ?_, ?_, ?_⟩
        all_goals first | ((try simp only [get_put_if, ↓reduceIte, Nat.reduceEqDiff, get_cons_zero, get_cons_succ, get_nil, reduceCtorEq]); assumption) | ((try simp only [get_put_if, ↓reduceIte, Nat.reduceEqDiff, get_cons_zero, get_cons_succ, get_nil, reduceCtorEq]); done) | skip
        · (try simp only [get_put_if, ↓reduceIte, Nat.reduceEqDiff, get_cons_zero, get_cons_succ, get_nil, reduceCtorEq]); simp
        · rw [hf]; simp only [lookF, h1, if_true]
    · have e1 : (w == wAll) = false := by simpa using h1
      simp only [wAll] at e1
      by_cases h2 : w = wBox
      · have e2 : (w == wBox) = true := by simpa using h2
        simp only [wBox] at e2
        cases a
        · simp (disch := first | assumption | omega) only [ww, exitC, fillB, wantedA, evOp, opd, putO, bnd, ↓reduceIte, ckPlain, evC, binE, bin, sBin, iBin, eqB, bBin, Nat.reduceEqDiff, Nat.reduceAdd, Nat.reduceBEq, Nat.reduceLeDiff, Nat.reduceLT, Int.reduceBEq, Int.reduceBNe, Int.reduceLT, Int.reduceLE, Int.reduceGT, Int.reduceGE, Int.reduceAdd, Int.reduceSub, Int.reduceToNat, resOf, seqO, resOne, reduceCtorEq, okEl, AV.cells, AV.one, stE, stA, ld, ldE, snaps, rfs, rf, g5, g6, g7, g8, hb1, hx, e1, e2, List.getElem?_map, List.length_map]
          refine again _ _ _ (by simp) ⟨done ++ [w], todo, true, false, by simp, rfl, ?_, ?_, ?_, ?_, ?_⟩
          all_goals first | ((try simp only [get_put_if, ↓reduceIte, Nat.reduceEqDiff, get_cons_zero, get_cons_succ, get_nil, reduceCtorEq]); assumption) | ((try simp only [get_put_if, ↓reduceIte, Nat.reduceEqDiff, get_cons_zero, get_cons_succ, get_nil, reduceCtorEq]); done) | skip
          · (try simp only [get_put_if, ↓reduceIte, Nat.reduceEqDiff, get_cons_zero, get_cons_succ, get_nil, reduceCtorEq]); simp
          · rw [hf]; simp only [lookF, if_neg h1, h2, if_true]; rw [if_neg (by decide)]
        · simp (disch := first | assumption | omega) only [ww, exitC, fillB, wantedA, evOp, opd, putO, bnd, ↓reduceIte, ckPlain, evC, binE, bin, sBin, iBin, eqB, bBin, Nat.reduceEqDiff, Nat.reduceAdd, Nat.reduceBEq, Nat.reduceLeDiff, Nat.reduceLT, Int.reduceBEq, Int.reduceBNe, Int.reduceLT, Int.reduceLE, Int.reduceGT, Int.reduceGE, Int.reduceAdd, Int.reduceSub, Int.reduceToNat, resOf, seqO, resOne, reduceCtorEq, okEl, AV.cells, AV.one, stE, stA, ld, ldE, snaps, rfs, rf, g5, g6, g7, g8, hb1, hx, e1, e2, List.getElem?_map, List.length_map]
          refine again _ _ _ (by simp) ⟨done ++ [w], todo, true, true, by simp, rfl, ?_, ?_, ?_, ?_, ?_⟩
          all_goals first | ((try simp only [get_put_if, ↓reduceIte, Nat.reduceEqDiff, get_cons_zero, get_cons_succ, get_nil, reduceCtorEq]); assumption) | ((try simp only [get_put_if, ↓reduceIte, Nat.reduceEqDiff, get_cons_zero, get_cons_succ, get_nil, reduceCtorEq]); done) | skip
          · (try simp only [get_put_if, ↓reduceIte, Nat.reduceEqDiff, get_cons_zero, get_cons_succ, get_nil, reduceCtorEq]); simp
          · rw [hf]; simp only [lookF, if_neg h1, h2, if_true]; rw [if_neg (by decide)]
      · have e2 : (w == wBox) = false := by simpa using h2
        simp only [wBox] at e2
        simp (disch := first | assumption | omega) only [ww, exitC, fillB, wantedA, evOp, opd, putO, bnd, ↓reduceIte, ckPlain, evC, binE, bin, sBin, iBin, eqB, bBin, Nat.reduceEqDiff, Nat.reduceAdd, Nat.reduceBEq, Nat.reduceLeDiff, Nat.reduceLT, Int.reduceBEq, Int.reduceBNe, Int.reduceLT, Int.reduceLE, Int.reduceGT, Int.reduceGE, Int.reduceAdd, Int.reduceSub, Int.reduceToNat, resOf, seqO, resOne, reduceCtorEq, okEl, AV.cells, AV.one, stE, stA, ld, ldE, snaps, rfs, rf, g5, g6, g7, g8, hb1, hx, e1, e2, List.getElem?_map, List.length_map]
        rw [hf]
        simp only [lookF, if_neg h1, if_neg h2]
        exact snap_deep_rf rfl
end Go.Proofs.VmX

/- Columns, texts cut, lists of texts: the program's, and the document's. -/
set_option linter.unusedVariables false
set_option linter.unusedSimpArgs false
namespace Go.Proofs.VmX
set_option maxRecDepth 100000

def colsS (s : List UInt8) : List UInt8 × Bool := (colsF (wds [] (cutE s [46])), colsOk (wds [] (cutE s [46])))
def tupC (x : List UInt8 × Bool) : AV := .tup [.str x.1, .bool x.2]

theorem rfs_bytes (l : List UInt8) : rfs (l.map byteAV) = true := rfs_map (fun _ => rfl) l

/-- Which column a letter is: as the program has it. -/
theorem colB_prog (c : UInt8) : colB c = (let d := if 65 ≤ c.toNat ∧ c.toNat ≤ 90 then c + 32 else c; if d = 108 ∨ d = 99 ∨ d = 114 then (d, true) else (108, false)) := by
  revert c
  have : ∀ n : Nat, n < 256 → colB (UInt8.ofNat n) = (let d := if 65 ≤ (UInt8.ofNat n).toNat ∧ (UInt8.ofNat n).toNat ≤ 90 then (UInt8.ofNat n) + 32 else (UInt8.ofNat n); if d = 108 ∨ d = 99 ∨ d = 114 then (d, true) else (108, false)) := by decide +kernel
  intro c
  have h := this c.toNat (UInt8.toNat_lt c)
  rwa [UInt8.ofNat_toNat] at h
theorem add32 (c : UInt8) (h : c.toNat ≤ 90) : ((c + 32).toNat : Int) = (c.toNat : Int) + 32 := by
  rw [UInt8.toNat_add]
  have : (c.toNat + (32 : UInt8).toNat) % 2 ^ 8 = c.toNat + 32 := by
    rw [show (32 : UInt8).toNat = 32 from rfl]; omega
  rw [this]; simp
theorem idx_lcr (d : UInt8) : idxByte d [108, 99, 114] 0 = if d = 108 then 0 else if d = 99 then 1 else if d = 114 then 2 else -1 := by
  simp only [idxByte]
  by_cases h1 : d = 108
  · subst h1; rfl
  · have e1 : ((108 : UInt8) == d) = false := by simpa using fun h => h1 h.symm
    by_cases h2 : d = 99
    · subst h2; rfl
    · have e2 : ((99 : UInt8) == d) = false := by simpa using fun h => h2 h.symm
      by_cases h3 : d = 114
      · subst h3; rfl
      · have e3 : ((114 : UInt8) == d) = false := by simpa using fun h => h3 h.symm
        simp [e1, e2, e3, h1, h2, h3]

theorem p_Columns (s : List UInt8) (hs : s.length ≤ 1048576) : PureTo EC 10 [.str s] (tupC (colsS s)) := by
  have hcl := cutE_len s [46]
  obtain ⟨r, hw, x, z, rfl, hz⟩ := p_words (cutE s [46]) (by omega)
  have hwl := wds_len (cutE s [46]) []
  have hne := wds_ne (cutE s [46]) []
  refine pure_go1 (res := [(.tmp 2), (.tmp 3)]) k10 rfl rfl ?_
  simp (disch := first | assumption | omega) only [ww, exitC, fillB, wantedA, evOp, opd, putO, bnd, ↓reduceIte, ckPlain, evC, binE, bin, sBin, iBin, eqB, bBin, Nat.reduceEqDiff, Nat.reduceAdd, Nat.reduceBEq, Nat.reduceLeDiff, Nat.reduceLT, Int.reduceBEq, Int.reduceBNe, Int.reduceLT, Int.reduceLE, Int.reduceGT, Int.reduceGE, Int.reduceAdd, Int.reduceSub, Int.reduceToNat, resOf, seqO, resOne, reduceCtorEq, okEl, AV.cells, AV.one, stE, stA, ld, ldE, snaps, rfs, rf]
  refine ECallP.some (p_TrimSuffix s [46] (by omega) (by simp)) ?_
  simp (disch := first | assumption | omega) only [ww, exitC, fillB, wantedA, evOp, opd, putO, bnd, ↓reduceIte, ckPlain, evC, binE, bin, sBin, iBin, eqB, bBin, Nat.reduceEqDiff, Nat.reduceAdd, Nat.reduceBEq, Nat.reduceLeDiff, Nat.reduceLT, Int.reduceBEq, Int.reduceBNe, Int.reduceLT, Int.reduceLE, Int.reduceGT, Int.reduceGE, Int.reduceAdd, Int.reduceSub, Int.reduceToNat, resOf, seqO, resOne, reduceCtorEq, okEl, AV.cells, AV.one, stE, stA, ld, ldE, snaps, rfs, rf]
  refine ECallP.some hw ?_
  simp only [colsS]
  generalize wds [] (cutE s [46]) = ws at *
  simp (disch := first | assumption | omega) only [ww, exitC, fillB, wantedA, evOp, opd, putO, bnd, ↓reduceIte, ckPlain, evC, binE, bin, sBin, iBin, eqB, bBin, Nat.reduceEqDiff, Nat.reduceAdd, Nat.reduceBEq, Nat.reduceLeDiff, Nat.reduceLT, Int.reduceBEq, Int.reduceBNe, Int.reduceLT, Int.reduceLE, Int.reduceGT, Int.reduceGE, Int.reduceAdd, Int.reduceSub, Int.reduceToNat, resOf, seqO, resOne, reduceCtorEq, okEl, AV.cells, AV.one, stE, stA, ld, ldE, snaps, rfs, rf, List.length_map]
  refine Ends.loop (fun m t h => ∃ (done todo : List (List UInt8)) (o : AV), ws = done ++ todo ∧ m = todo.length ∧ get t 4 = o ∧ get t 5 = .bool (colsOk done) ∧ get t 11 = .sl x z (ws.map .str) ∧ get t 12 = .int .i64 (ws.length : Nat) ∧ get t 13 = .int .i64 (done.length : Nat) ∧
    Own h o 1 5 ((colsF done).map byteAV)) ws.length ?_ ?_
  · refine ⟨[], ws, _, rfl, rfl, rfl, ?_, ?_, ?_, ?_, ?_⟩
    all_goals first | ((try simp only [get_put_if, ↓reduceIte, Nat.reduceEqDiff, get_cons_zero, get_cons_succ, get_nil, reduceCtorEq]); done) | ((try simp only [get_put_if, ↓reduceIte, Nat.reduceEqDiff, get_cons_zero, get_cons_succ, get_nil, reduceCtorEq]); rfl) | ((try simp only [get_put_if, ↓reduceIte, Nat.reduceEqDiff, get_cons_zero, get_cons_succ, get_nil, reduceCtorEq]); exact Own.nil _ _ _)
  rintro m t h ⟨done, todo, o, rfl, rfl, g4, g5, g11, g12, g13, ho⟩ again
  cases todo with
  | nil =>
    simp only [List.append_nil] at *
    have hel : elsOf o h = some ((colsF done).map byteAV) := ho.els
    have hcv := ho.conv
    rw [seq_bytes] at hcv
    simp (disch := first | assumption | omega) only [ww, exitC, fillB, wantedA, evOp, opd, putO, bnd, ↓reduceIte, ckPlain, evC, binE, bin, sBin, iBin, eqB, bBin, Nat.reduceEqDiff, Nat.reduceAdd, Nat.reduceBEq, Nat.reduceLeDiff, Nat.reduceLT, Int.reduceBEq, Int.reduceBNe, Int.reduceLT, Int.reduceLE, Int.reduceGT, Int.reduceGE, Int.reduceAdd, Int.reduceSub, Int.reduceToNat, resOf, seqO, resOne, reduceCtorEq, okEl, AV.cells, AV.one, stE, stA, ld, ldE, snaps, rfs, rf, g4, g5, g11, g12, g13, Int.lt_irrefl, hcv]
    exact snap_deep_rf rfl
  | cons w todo =>
    have hb1 : decide (((done.length : Nat) : Int) < (((done ++ w :: todo).length : Nat) : Int)) = true := by simp; omega
    have hx : (done ++ w :: todo)[done.length]? = some w := by simp
    have hz1 : z = 1 := by rcases hz with h | h; exact h; simp at h
    subst hz1
    have hdl : done.length ≤ 2000000 := by have := hwl; simp only [List.length_append, List.length_cons] at this; omega
    have hwne : w ≠ [] := hne w (by simp)
    obtain ⟨c, w', rfl⟩ : ∃ c w', w = c :: w' := by cases w with | nil => exact absurd rfl hwne | cons c w' => exact ⟨c, w', rfl⟩
    by_cases hA1 : 65 ≤ c.toNat
    · have hb3 : decide (((c.toNat : Nat) : Int) ≥ 65) = true := by simp; omega
      by_cases hA2 : c.toNat ≤ 90
      · have hb4 : decide (((c.toNat : Nat) : Int) ≤ 90) = true := by simp; omega
        have e32 := (add32 c hA2).symm
        simp (disch := first | assumption | omega) only [ww, exitC, fillB, wantedA, evOp, opd, putO, bnd, ↓reduceIte, ckPlain, evC, binE, bin, sBin, iBin, eqB, bBin, Nat.reduceEqDiff, Nat.reduceAdd, Nat.reduceBEq, Nat.reduceLeDiff, Nat.reduceLT, Int.reduceBEq, Int.reduceBNe, Int.reduceLT, Int.reduceLE, Int.reduceGT, Int.reduceGE, Int.reduceAdd, Int.reduceSub, Int.reduceToNat, resOf, seqO, resOne, reduceCtorEq, okEl, AV.cells, AV.one, stE, stA, ld, ldE, snaps, rfs, rf, g4, g5, g11, g12, g13, hb1, hx, List.getElem?_map, byteAV, hb3, hb4, wru8, e32]
        have hcol := colB_prog c
        simp only [hA1, hA2, and_self, if_true] at hcol
        refine ECallP.some (p_IndexByte _ (c + 32)) ?_
        rw [idx_lcr]
        by_cases hin : (c + 32) = 108 ∨ (c + 32) = 99 ∨ (c + 32) = 114
        · have hb2 : decide ((if (c + 32) = 108 then (0 : Int) else if (c + 32) = 99 then 1 else if (c + 32) = 114 then 2 else -1) < 0) = false := by
            simp only [decide_eq_false_iff_not]
            rcases hin with h | h | h <;> simp [h]
          rw [if_pos hin] at hcol
          obtain ⟨v', h', happ, ho', _, _⟩ := ho.app (bytes := 1) [byteAV (c + 32)] (by simp) (by simp [colsF]; omega) (by omega)
          simp only [byteAV] at happ
          simp (disch := first | assumption | omega) only [ww, exitC, fillB, wantedA, evOp, opd, putO, bnd, ↓reduceIte, ckPlain, evC, binE, bin, sBin, iBin, eqB, bBin, Nat.reduceEqDiff, Nat.reduceAdd, Nat.reduceBEq, Nat.reduceLeDiff, Nat.reduceLT, Int.reduceBEq, Int.reduceBNe, Int.reduceLT, Int.reduceLE, Int.reduceGT, Int.reduceGE, Int.reduceAdd, Int.reduceSub, Int.reduceToNat, resOf, seqO, resOne, reduceCtorEq, okEl, AV.cells, AV.one, stE, stA, ld, ldE, snaps, rfs, rf, g4, g5, g11, g12, g13, hb2, happ]
          refine again _ _ _ (by simp) ⟨done ++ [c :: w'], todo, v', by simp, rfl, ?_, ?_, ?_, ?_, ?_, ?_⟩
          all_goals first | ((try simp only [get_put_if, ↓reduceIte, Nat.reduceEqDiff, get_cons_zero, get_cons_succ, get_nil, reduceCtorEq]); assumption) | ((try simp only [get_put_if, ↓reduceIte, Nat.reduceEqDiff, get_cons_zero, get_cons_succ, get_nil, reduceCtorEq]); done) | skip
          · (try simp only [get_put_if, ↓reduceIte, Nat.reduceEqDiff, get_cons_zero, get_cons_succ, get_nil, reduceCtorEq]); simp only [g5, colsOk, List.all_append, List.all_cons, List.all_nil, List.headD_cons, hcol, Bool.and_true]
          · (try simp only [get_put_if, ↓reduceIte, Nat.reduceEqDiff, get_cons_zero, get_cons_succ, get_nil, reduceCtorEq]); simp
          · simpa [colsF, hcol] using ho'
        · have hb2 : decide ((if (c + 32) = 108 then (0 : Int) else if (c + 32) = 99 then 1 else if (c + 32) = 114 then 2 else -1) < 0) = true := by
            simp only [not_or] at hin
            simp [hin]
          rw [if_neg hin] at hcol
          obtain ⟨v', h', happ, ho', _, _⟩ := ho.app (bytes := 1) [byteAV 108] (by simp) (by simp [colsF]; omega) (by omega)
          have e108 : byteAV 108 = .int .u8 108 := rfl
          rw [e108] at happ
          simp (disch := first | assumption | omega) only [ww, exitC, fillB, wantedA, evOp, opd, putO, bnd, ↓reduceIte, ckPlain, evC, binE, bin, sBin, iBin, eqB, bBin, Nat.reduceEqDiff, Nat.reduceAdd, Nat.reduceBEq, Nat.reduceLeDiff, Nat.reduceLT, Int.reduceBEq, Int.reduceBNe, Int.reduceLT, Int.reduceLE, Int.reduceGT, Int.reduceGE, Int.reduceAdd, Int.reduceSub, Int.reduceToNat, resOf, seqO, resOne, reduceCtorEq, okEl, AV.cells, AV.one, stE, stA, ld, ldE, snaps, rfs, rf, g4, g5, g11, g12, g13, hb2, happ]
          refine again _ _ _ (by simp) ⟨done ++ [c :: w'], todo, v', by simp, rfl, ?_, ?_, ?_, ?_, ?_, ?_⟩
          all_goals first | ((try simp only [get_put_if, ↓reduceIte, Nat.reduceEqDiff, get_cons_zero, get_cons_succ, get_nil, reduceCtorEq]); assumption) | ((try simp only [get_put_if, ↓reduceIte, Nat.reduceEqDiff, get_cons_zero, get_cons_succ, get_nil, reduceCtorEq]); done) | skip
          · (try simp only [get_put_if, ↓reduceIte, Nat.reduceEqDiff, get_cons_zero, get_cons_succ, get_nil, reduceCtorEq]); simp only [colsOk, List.all_append, List.all_cons, List.all_nil, List.headD_cons, hcol, Bool.and_false, Bool.false_and]
          · (try simp only [get_put_if, ↓reduceIte, Nat.reduceEqDiff, get_cons_zero, get_cons_succ, get_nil, reduceCtorEq]); simp
          · simpa [colsF, hcol] using ho'
      · have hb4 : decide (((c.toNat : Nat) : Int) ≤ 90) = false := by simp; omega
        simp (disch := first | assumption | omega) only [ww, exitC, fillB, wantedA, evOp, opd, putO, bnd, ↓reduceIte, ckPlain, evC, binE, bin, sBin, iBin, eqB, bBin, Nat.reduceEqDiff, Nat.reduceAdd, Nat.reduceBEq, Nat.reduceLeDiff, Nat.reduceLT, Int.reduceBEq, Int.reduceBNe, Int.reduceLT, Int.reduceLE, Int.reduceGT, Int.reduceGE, Int.reduceAdd, Int.reduceSub, Int.reduceToNat, resOf, seqO, resOne, reduceCtorEq, okEl, AV.cells, AV.one, stE, stA, ld, ldE, snaps, rfs, rf, g4, g5, g11, g12, g13, hb1, hx, List.getElem?_map, byteAV, hb3, hb4]
        have hcol := colB_prog c
        simp only [hA1, hA2, and_false, if_false] at hcol
        refine ECallP.some (p_IndexByte _ (c)) ?_
        rw [idx_lcr]
        by_cases hin : (c) = 108 ∨ (c) = 99 ∨ (c) = 114
        · have hb2 : decide ((if (c) = 108 then (0 : Int) else if (c) = 99 then 1 else if (c) = 114 then 2 else -1) < 0) = false := by
            simp only [decide_eq_false_iff_not]
            rcases hin with h | h | h <;> simp [h]
          rw [if_pos hin] at hcol
          obtain ⟨v', h', happ, ho', _, _⟩ := ho.app (bytes := 1) [byteAV (c)] (by simp) (by simp [colsF]; omega) (by omega)
          simp only [byteAV] at happ
          simp (disch := first | assumption | omega) only [ww, exitC, fillB, wantedA, evOp, opd, putO, bnd, ↓reduceIte, ckPlain, evC, binE, bin, sBin, iBin, eqB, bBin, Nat.reduceEqDiff, Nat.reduceAdd, Nat.reduceBEq, Nat.reduceLeDiff, Nat.reduceLT, Int.reduceBEq, Int.reduceBNe, Int.reduceLT, Int.reduceLE, Int.reduceGT, Int.reduceGE, Int.reduceAdd, Int.reduceSub, Int.reduceToNat, resOf, seqO, resOne, reduceCtorEq, okEl, AV.cells, AV.one, stE, stA, ld, ldE, snaps, rfs, rf, g4, g5, g11, g12, g13, hb2, happ]
          refine again _ _ _ (by simp) ⟨done ++ [c :: w'], todo, v', by simp, rfl, ?_, ?_, ?_, ?_, ?_, ?_⟩
          all_goals first | ((try simp only [get_put_if, ↓reduceIte, Nat.reduceEqDiff, get_cons_zero, get_cons_succ, get_nil, reduceCtorEq]); assumption) | ((try simp only [get_put_if, ↓reduceIte, Nat.reduceEqDiff, get_cons_zero, get_cons_succ, get_nil, reduceCtorEq]); done) | skip
          · (try simp only [get_put_if, ↓reduceIte, Nat.reduceEqDiff, get_cons_zero, get_cons_succ, get_nil, reduceCtorEq]); simp only [g5, colsOk, List.all_append, List.all_cons, List.all_nil, List.headD_cons, hcol, Bool.and_true]
          · (try simp only [get_put_if, ↓reduceIte, Nat.reduceEqDiff, get_cons_zero, get_cons_succ, get_nil, reduceCtorEq]); simp
          · simpa [colsF, hcol] using ho'
        · have hb2 : decide ((if (c) = 108 then (0 : Int) else if (c) = 99 then 1 else if (c) = 114 then 2 else -1) < 0) = true := by
            simp only [not_or] at hin
            simp [hin]
          rw [if_neg hin] at hcol
          obtain ⟨v', h', happ, ho', _, _⟩ := ho.app (bytes := 1) [byteAV 108] (by simp) (by simp [colsF]; omega) (by omega)
          have e108 : byteAV 108 = .int .u8 108 := rfl
          rw [e108] at happ
          simp (disch := first | assumption | omega) only [ww, exitC, fillB, wantedA, evOp, opd, putO, bnd, ↓reduceIte, ckPlain, evC, binE, bin, sBin, iBin, eqB, bBin, Nat.reduceEqDiff, Nat.reduceAdd, Nat.reduceBEq, Nat.reduceLeDiff, Nat.reduceLT, Int.reduceBEq, Int.reduceBNe, Int.reduceLT, Int.reduceLE, Int.reduceGT, Int.reduceGE, Int.reduceAdd, Int.reduceSub, Int.reduceToNat, resOf, seqO, resOne, reduceCtorEq, okEl, AV.cells, AV.one, stE, stA, ld, ldE, snaps, rfs, rf, g4, g5, g11, g12, g13, hb2, happ]
          refine again _ _ _ (by simp) ⟨done ++ [c :: w'], todo, v', by simp, rfl, ?_, ?_, ?_, ?_, ?_, ?_⟩
          all_goals first | ((try simp only [get_put_if, ↓reduceIte, Nat.reduceEqDiff, get_cons_zero, get_cons_succ, get_nil, reduceCtorEq]); assumption) | ((try simp only [get_put_if, ↓reduceIte, Nat.reduceEqDiff, get_cons_zero, get_cons_succ, get_nil, reduceCtorEq]); done) | skip
          · (try simp only [get_put_if, ↓reduceIte, Nat.reduceEqDiff, get_cons_zero, get_cons_succ, get_nil, reduceCtorEq]); simp only [colsOk, List.all_append, List.all_cons, List.all_nil, List.headD_cons, hcol, Bool.and_false, Bool.false_and]
          · (try simp only [get_put_if, ↓reduceIte, Nat.reduceEqDiff, get_cons_zero, get_cons_succ, get_nil, reduceCtorEq]); simp
          · simpa [colsF, hcol] using ho'
    · have hb3 : decide (((c.toNat : Nat) : Int) ≥ 65) = false := by simp; omega
      simp (disch := first | assumption | omega) only [ww, exitC, fillB, wantedA, evOp, opd, putO, bnd, ↓reduceIte, ckPlain, evC, binE, bin, sBin, iBin, eqB, bBin, Nat.reduceEqDiff, Nat.reduceAdd, Nat.reduceBEq, Nat.reduceLeDiff, Nat.reduceLT, Int.reduceBEq, Int.reduceBNe, Int.reduceLT, Int.reduceLE, Int.reduceGT, Int.reduceGE, Int.reduceAdd, Int.reduceSub, Int.reduceToNat, resOf, seqO, resOne, reduceCtorEq, okEl, AV.cells, AV.one, stE, stA, ld, ldE, snaps, rfs, rf, g4, g5, g11, g12, g13, hb1, hx, List.getElem?_map, byteAV, hb3]
      have hcol := colB_prog c
      simp only [hA1, false_and, if_false] at hcol
      refine ECallP.some (p_IndexByte _ (c)) ?_
      rw [idx_lcr]
      by_cases hin : (c) = 108 ∨ (c) = 99 ∨ (c) = 114
      · have hb2 : decide ((if (c) = 108 then (0 : Int) else if (c) = 99 then 1 else if (c) = 114 then 2 else -1) < 0) = false := by
          simp only [decide_eq_false_iff_not]
          rcases hin with h | h | h <;> simp [h]
        rw [if_pos hin] at hcol
        obtain ⟨v', h', happ, ho', _, _⟩ := ho.app (bytes := 1) [byteAV (c)] (by simp) (by simp [colsF]; omega) (by omega)
        simp only [byteAV] at happ
        simp (disch := first | assumption | omega) only [ww, exitC, fillB, wantedA, evOp, opd, putO, bnd, ↓reduceIte, ckPlain, evC, binE, bin, sBin, iBin, eqB, bBin, Nat.reduceEqDiff, Nat.reduceAdd, Nat.reduceBEq, Nat.reduceLeDiff, Nat.reduceLT, Int.reduceBEq, Int.reduceBNe, Int.reduceLT, Int.reduceLE, Int.reduceGT, Int.reduceGE, Int.reduceAdd, Int.reduceSub, Int.reduceToNat, resOf, seqO, resOne, reduceCtorEq, okEl, AV.cells, AV.one, stE, stA, ld, ldE, snaps, rfs, rf, g4, g5, g11, g12, g13, hb2, happ]
        refine again _ _ _ (by simp) ⟨done ++ [c :: w'], todo, v', by simp, rfl, ?_, ?_, ?_, ?_, ?_, ?_⟩
        all_goals first | ((try simp only [get_put_if, ↓reduceIte, Nat.reduceEqDiff, get_cons_zero, get_cons_succ, get_nil, reduceCtorEq]); assumption) | ((try simp only [get_put_if, ↓reduceIte, Nat.reduceEqDiff, get_cons_zero, get_cons_succ, get_nil, reduceCtorEq]); done) | skip
        · (try simp only [get_put_if, ↓reduceIte, Nat.reduceEqDiff, get_cons_zero, get_cons_succ, get_nil, reduceCtorEq]); simp only [g5, colsOk, List.all_append, List.all_cons, List.all_nil, List.headD_cons, hcol, Bool.and_true]
        · (try simp only [get_put_if, ↓reduceIte, Nat.reduceEqDiff, get_cons_zero, get_cons_succ, get_nil, reduceCtorEq]); simp
        · simpa [colsF, hcol] using ho'
      · have hb2 : decide ((if (c) = 108 then (0 : Int) else if (c) = 99 then 1 else if (c) = 114 then 2 else -1) < 0) = true := by
          simp only [not_or] at hin
          simp [hin]
        rw [if_neg hin] at hcol
        obtain ⟨v', h', happ, ho', _, _⟩ := ho.app (bytes := 1) [byteAV 108] (by simp) (by simp [colsF]; omega) (by omega)
        have e108 : byteAV 108 = .int .u8 108 := rfl
        rw [e108] at happ
        simp (disch := first | assumption | omega) only [ww, exitC, fillB, wantedA, evOp, opd, putO, bnd, ↓reduceIte, ckPlain, evC, binE, bin, sBin, iBin, eqB, bBin, Nat.reduceEqDiff, Nat.reduceAdd, Nat.reduceBEq, Nat.reduceLeDiff, Nat.reduceLT, Int.reduceBEq, Int.reduceBNe, Int.reduceLT, Int.reduceLE, Int.reduceGT, Int.reduceGE, Int.reduceAdd, Int.reduceSub, Int.reduceToNat, resOf, seqO, resOne, reduceCtorEq, okEl, AV.cells, AV.one, stE, stA, ld, ldE, snaps, rfs, rf, g4, g5, g11, g12, g13, hb2, happ]
        refine again _ _ _ (by simp) ⟨done ++ [c :: w'], todo, v', by simp, rfl, ?_, ?_, ?_, ?_, ?_, ?_⟩
        all_goals first | ((try simp only [get_put_if, ↓reduceIte, Nat.reduceEqDiff, get_cons_zero, get_cons_succ, get_nil, reduceCtorEq]); assumption) | ((try simp only [get_put_if, ↓reduceIte, Nat.reduceEqDiff, get_cons_zero, get_cons_succ, get_nil, reduceCtorEq]); done) | skip
        · (try simp only [get_put_if, ↓reduceIte, Nat.reduceEqDiff, get_cons_zero, get_cons_succ, get_nil, reduceCtorEq]); simp only [colsOk, List.all_append, List.all_cons, List.all_nil, List.headD_cons, hcol, Bool.and_false, Bool.false_and]
        · (try simp only [get_put_if, ↓reduceIte, Nat.reduceEqDiff, get_cons_zero, get_cons_succ, get_nil, reduceCtorEq]); simp
        · simpa [colsF, hcol] using ho'
end Go.Proofs.VmX
