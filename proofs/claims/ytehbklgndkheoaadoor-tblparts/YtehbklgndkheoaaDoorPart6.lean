/- Part 6 of a proof: flonglaw09.TblParts returns true for every text and leaves it as it was; no condition of our own. -/
import Derived.Test.YtehbklgndkheoaaDoorPart5
import Derived.Test.YtehbklgndkheoaaDoorPart4
import Derived.Test.YtehbklgndkheoaaDoorPart2
import Derived.KernelRfl
/- The document's Columns, Split, SameTexts; TblParts. -/
set_option linter.unusedVariables false
set_option linter.unusedSimpArgs false
namespace Go.Proofs.VmX
set_option maxRecDepth 100000

theorem ref_Split (s : List UInt8) (c : UInt8) (hs : s.length ≤ 1048576) : PureTo EC 14 [.str s, byteAV c] (.sl false 1 ((splitB c s).map .str)) := by
  refine pure_go1 (res := [(.tmp 4)]) k14 rfl rfl ?_
  simp (disch := first | assumption | omega) only [ww, exitC, fillB, wantedA, evOp, opd, putO, bnd, ↓reduceIte, ckPlain, evC, binE, bin, sBin, iBin, eqB, bBin, Nat.reduceEqDiff, Nat.reduceAdd, Nat.reduceBEq, Nat.reduceLeDiff, Nat.reduceLT, Int.reduceBEq, Int.reduceBNe, Int.reduceLT, Int.reduceLE, Int.reduceGT, Int.reduceGE, Int.reduceAdd, Int.reduceSub, Int.reduceToNat, resOf, seqO, resOne, reduceCtorEq, okEl, AV.cells, AV.one, stE, stA, ld, ldE, snaps, rfs, rf]
  refine Ends.loop (fun m t h => ∃ (p : Nat) (done : List (List UInt8)) (cur : List UInt8) (o : AV), p + m = s.length ∧ get t 0 = .str s ∧ get t 1 = byteAV c ∧ get t 5 = o ∧ get t 6 = .str cur ∧ get t 7 = .int .i64 (p : Nat) ∧
    Own h o 1 9 (done.map .str) ∧ done.length ≤ p ∧ cur.length ≤ p ∧ splitB c s = done ++ spl c cur (s.drop p)) s.length ?_ ?_
  · refine ⟨0, [], [], _, by omega, ?_, ?_, rfl, ?_, ?_, ?_, Nat.le_refl _, Nat.le_refl _, by simp [spl_split]⟩
    all_goals first | ((try simp only [get_put_if, ↓reduceIte, Nat.reduceEqDiff, get_cons_zero, get_cons_succ, get_nil, reduceCtorEq]); done) | ((try simp only [get_put_if, ↓reduceIte, Nat.reduceEqDiff, get_cons_zero, get_cons_succ, get_nil, reduceCtorEq]); rfl) | ((try simp only [get_put_if, ↓reduceIte, Nat.reduceEqDiff, get_cons_zero, get_cons_succ, get_nil, reduceCtorEq]); exact Own.nil _ _ _)
  rintro m t h ⟨p, done, cur, o, hm, g0, g1, g5, g6, g7, ho, hdl, hcl, hw⟩ again
  by_cases hp : p < s.length
  · have hb1 : decide (((p : Nat) : Int) < ((s.length : Nat) : Int)) = true := by simpa using hp
    have hx : s[p]? = some s[p] := List.getElem?_eq_getElem hp
    have e1 : ((s[p].toNat : Int) == (c.toNat : Int)) = (s[p] == c) := toNat_beq s[p] c
    rw [spl_cons hp] at hw
    by_cases hc : s[p] = c
    · have e2 : (s[p] == c) = true := by simpa using hc
      rw [if_pos hc] at hw
      obtain ⟨v', h', happ, ho', _, _⟩ := ho.app (bytes := 16) [.str cur] (by simp) (by simp; omega) (by omega)
      simp (disch := first | assumption | omega) only [ww, exitC, fillB, wantedA, evOp, opd, putO, bnd, ↓reduceIte, ckPlain, evC, binE, bin, sBin, iBin, eqB, bBin, Nat.reduceEqDiff, Nat.reduceAdd, Nat.reduceBEq, Nat.reduceLeDiff, Nat.reduceLT, Int.reduceBEq, Int.reduceBNe, Int.reduceLT, Int.reduceLE, Int.reduceGT, Int.reduceGE, Int.reduceAdd, Int.reduceSub, Int.reduceToNat, resOf, seqO, resOne, reduceCtorEq, okEl, AV.cells, AV.one, stE, stA, ld, ldE, snaps, rfs, rf, g0, g1, g5, g6, g7, hb1, hx, byteAV, e1, e2, happ]
      refine again (m - 1) _ _ (by omega) ⟨p + 1, done ++ [cur], [], v', by omega, ?_, ?_, ?_, ?_, ?_, by simpa using ho', by simp; omega, by simp, ?_⟩
      all_goals first | ((try simp only [get_put_if, ↓reduceIte, Nat.reduceEqDiff, get_cons_zero, get_cons_succ, get_nil, reduceCtorEq]); assumption) | ((try simp only [get_put_if, ↓reduceIte, Nat.reduceEqDiff, get_cons_zero, get_cons_succ, get_nil, reduceCtorEq]); done) | skip
      rw [hw]; simp
    · have e2 : (s[p] == c) = false := by simpa using hc
      rw [if_neg hc] at hw
      have hpc : (s.take (p + 1)).drop p = [s[p]] := by rw [List.take_succ_eq_append_getElem hp, List.drop_append_of_le_length (by simp; omega), List.drop_of_length_le (by simp; omega)]; rfl
      simp (disch := first | assumption | omega) only [ww, exitC, fillB, wantedA, evOp, opd, putO, bnd, ↓reduceIte, ckPlain, evC, binE, bin, sBin, iBin, eqB, bBin, Nat.reduceEqDiff, Nat.reduceAdd, Nat.reduceBEq, Nat.reduceLeDiff, Nat.reduceLT, Int.reduceBEq, Int.reduceBNe, Int.reduceLT, Int.reduceLE, Int.reduceGT, Int.reduceGE, Int.reduceAdd, Int.reduceSub, Int.reduceToNat, resOf, seqO, resOne, reduceCtorEq, okEl, AV.cells, AV.one, stE, stA, ld, ldE, snaps, rfs, rf, g0, g1, g5, g6, g7, hb1, hx, byteAV, e1, e2, hpc]
      refine again (m - 1) _ _ (by omega) ⟨p + 1, done, cur ++ [s[p]], o, by omega, ?_, ?_, ?_, ?_, ?_, ho, by omega, by simp; omega, hw⟩
      all_goals first | ((try simp only [get_put_if, ↓reduceIte, Nat.reduceEqDiff, get_cons_zero, get_cons_succ, get_nil, reduceCtorEq]); assumption) | ((try simp only [get_put_if, ↓reduceIte, Nat.reduceEqDiff, get_cons_zero, get_cons_succ, get_nil, reduceCtorEq]); done) | skip
  · have hb1 : decide (((p : Nat) : Int) < ((s.length : Nat) : Int)) = false := by simpa using hp
    rw [List.drop_of_length_le (by omega)] at hw
    simp only [spl] at hw
    obtain ⟨v', h', happ, ho', _, _⟩ := ho.app (bytes := 16) [.str cur] (by simp) (by simp; omega) (by omega)
    simp (disch := first | assumption | omega) only [ww, exitC, fillB, wantedA, evOp, opd, putO, bnd, ↓reduceIte, ckPlain, evC, binE, bin, sBin, iBin, eqB, bBin, Nat.reduceEqDiff, Nat.reduceAdd, Nat.reduceBEq, Nat.reduceLeDiff, Nat.reduceLT, Int.reduceBEq, Int.reduceBNe, Int.reduceLT, Int.reduceLE, Int.reduceGT, Int.reduceGE, Int.reduceAdd, Int.reduceSub, Int.reduceToNat, resOf, seqO, resOne, reduceCtorEq, okEl, AV.cells, AV.one, stE, stA, ld, ldE, snaps, rfs, rf, g0, g1, g5, g6, g7, hb1, happ]
    have := ho'.snapd (by decide) (by have := rfs_str (done ++ [cur]); simpa using this)
    rw [accV, if_neg (by simp)] at this
    rw [hw]
    simpa using this

theorem ref_SameTexts (a b : List (List UInt8)) (x x' : Bool) (z z' : Nat) (hz : z = 1 ∨ a = []) (hz' : z' = 1 ∨ b = []) (ha : a.length ≤ 1048576) (hb : b.length ≤ 1048576) :
    PureTo EC 12 [.sl x z (a.map .str), .sl x' z' (b.map .str)] (.bool (decide (a = b))) := by
  refine pure_go1 (res := [(.tmp 4)]) k12 rfl rfl ?_
  by_cases hl : a.length = b.length
  · have hb1 : (((a.length : Nat) : Int) != ((b.length : Nat) : Int)) = false := by simp [hl]
    simp (disch := first | assumption | omega) only [ww, exitC, fillB, wantedA, evOp, opd, putO, bnd, ↓reduceIte, ckPlain, evC, binE, bin, sBin, iBin, eqB, bBin, Nat.reduceEqDiff, Nat.reduceAdd, Nat.reduceBEq, Nat.reduceLeDiff, Nat.reduceLT, Int.reduceBEq, Int.reduceBNe, Int.reduceLT, Int.reduceLE, Int.reduceGT, Int.reduceGE, Int.reduceAdd, Int.reduceSub, Int.reduceToNat, resOf, seqO, resOne, reduceCtorEq, okEl, AV.cells, AV.one, stE, stA, ld, ldE, snaps, rfs, rf, List.length_map, hb1]
    refine Ends.loop (fun m t h => ∃ (p : Nat), p + m = a.length ∧ get t 0 = .sl x z (a.map .str) ∧ get t 1 = .sl x' z' (b.map .str) ∧ get t 5 = .int .i64 (p : Nat) ∧ a.take p = b.take p) a.length ?_ ?_
    · refine ⟨0, by omega, ?_, ?_, ?_, rfl⟩
      all_goals first | ((try simp only [get_put_if, ↓reduceIte, Nat.reduceEqDiff, get_cons_zero, get_cons_succ, get_nil, reduceCtorEq]); done) | ((try simp only [get_put_if, ↓reduceIte, Nat.reduceEqDiff, get_cons_zero, get_cons_succ, get_nil, reduceCtorEq]); rfl)
    rintro m t h ⟨p, hm, g0, g1, g5, hp⟩ again
    by_cases hpl : p < a.length
    · have hb2 : decide (((p : Nat) : Int) < ((a.length : Nat) : Int)) = true := by simpa using hpl
      have hpb : p < b.length := by omega
      have hxa : a[p]? = some a[p] := List.getElem?_eq_getElem hpl
      have hxb : b[p]? = some b[p] := List.getElem?_eq_getElem hpb
      have hz1 : z = 1 := by rcases hz with h | h; exact h; subst h; simp at hpl
      have hz2 : z' = 1 := by rcases hz' with h | h; exact h; subst h; simp at hpb
      subst hz1 hz2
      cases he : (a[p] == b[p])
      · simp (disch := first | assumption | omega) only [ww, exitC, fillB, wantedA, evOp, opd, putO, bnd, ↓reduceIte, ckPlain, evC, binE, bin, sBin, iBin, eqB, bBin, Nat.reduceEqDiff, Nat.reduceAdd, Nat.reduceBEq, Nat.reduceLeDiff, Nat.reduceLT, Int.reduceBEq, Int.reduceBNe, Int.reduceLT, Int.reduceLE, Int.reduceGT, Int.reduceGE, Int.reduceAdd, Int.reduceSub, Int.reduceToNat, resOf, seqO, resOne, reduceCtorEq, okEl, AV.cells, AV.one, stE, stA, ld, ldE, snaps, rfs, rf, g0, g1, g5, hb2, hxa, hxb, List.getElem?_map, List.length_map, he]
        have : ¬ a = b := fun h => by subst h; simp at he
        rw [decide_eq_false this]
        exact snap_deep_rf rfl
      · simp (disch := first | assumption | omega) only [ww, exitC, fillB, wantedA, evOp, opd, putO, bnd, ↓reduceIte, ckPlain, evC, binE, bin, sBin, iBin, eqB, bBin, Nat.reduceEqDiff, Nat.reduceAdd, Nat.reduceBEq, Nat.reduceLeDiff, Nat.reduceLT, Int.reduceBEq, Int.reduceBNe, Int.reduceLT, Int.reduceLE, Int.reduceGT, Int.reduceGE, Int.reduceAdd, Int.reduceSub, Int.reduceToNat, resOf, seqO, resOne, reduceCtorEq, okEl, AV.cells, AV.one, stE, stA, ld, ldE, snaps, rfs, rf, g0, g1, g5, hb2, hxa, hxb, List.getElem?_map, List.length_map, he]
        refine again (m - 1) _ _ (by omega) ⟨p + 1, by omega, ?_, ?_, ?_, ?_⟩
        all_goals first | ((try simp only [get_put_if, ↓reduceIte, Nat.reduceEqDiff, get_cons_zero, get_cons_succ, get_nil, reduceCtorEq]); assumption) | ((try simp only [get_put_if, ↓reduceIte, Nat.reduceEqDiff, get_cons_zero, get_cons_succ, get_nil, reduceCtorEq]); done) | skip
        rw [List.take_succ_eq_append_getElem hpl, List.take_succ_eq_append_getElem hpb, hp, (by simpa using he : a[p] = b[p])]
    · have hb2 : decide (((p : Nat) : Int) < ((a.length : Nat) : Int)) = false := by simpa using hpl
      simp (disch := first | assumption | omega) only [ww, exitC, fillB, wantedA, evOp, opd, putO, bnd, ↓reduceIte, ckPlain, evC, binE, bin, sBin, iBin, eqB, bBin, Nat.reduceEqDiff, Nat.reduceAdd, Nat.reduceBEq, Nat.reduceLeDiff, Nat.reduceLT, Int.reduceBEq, Int.reduceBNe, Int.reduceLT, Int.reduceLE, Int.reduceGT, Int.reduceGE, Int.reduceAdd, Int.reduceSub, Int.reduceToNat, resOf, seqO, resOne, reduceCtorEq, okEl, AV.cells, AV.one, stE, stA, ld, ldE, snaps, rfs, rf, g0, g1, g5, hb2, List.length_map]
      rw [List.take_of_length_le (by omega), List.take_of_length_le (by omega)] at hp
      rw [decide_eq_true hp]
      exact snap_deep_rf rfl
  · have hb1 : (((a.length : Nat) : Int) != ((b.length : Nat) : Int)) = true := by simp; omega
    simp (disch := first | assumption | omega) only [ww, exitC, fillB, wantedA, evOp, opd, putO, bnd, ↓reduceIte, ckPlain, evC, binE, bin, sBin, iBin, eqB, bBin, Nat.reduceEqDiff, Nat.reduceAdd, Nat.reduceBEq, Nat.reduceLeDiff, Nat.reduceLT, Int.reduceBEq, Int.reduceBNe, Int.reduceLT, Int.reduceLE, Int.reduceGT, Int.reduceGE, Int.reduceAdd, Int.reduceSub, Int.reduceToNat, resOf, seqO, resOne, reduceCtorEq, okEl, AV.cells, AV.one, stE, stA, ld, ldE, snaps, rfs, rf, List.length_map, hb1]
    have : ¬ a = b := fun h => hl (by rw [h])
    rw [decide_eq_false this]
    exact snap_deep_rf rfl

theorem cutE_no (s : List UInt8) (c : UInt8) (he : endsW s [c] = false) : cutE s [c] = s := by simp [cutE, he]

theorem ref_Columns (s : List UInt8) (hs : s.length ≤ 524288) : PureTo EC 11 [.str s] (tupC (colsS s)) := by
  have hcl := cutE_len s [46]
  have hw := ref_words (cutE s [46]) (by omega)
  have hwl := wds_len (cutE s [46]) []
  have hne := wds_ne (cutE s [46]) []
  simp only [colsS]
  refine pure_go1 (res := [(.tmp 2), (.tmp 3)]) k11 rfl rfl ?_
  simp (disch := first | assumption | omega) only [ww, exitC, fillB, wantedA, evOp, opd, putO, bnd, ↓reduceIte, ckPlain, evC, binE, bin, sBin, iBin, eqB, bBin, Nat.reduceEqDiff, Nat.reduceAdd, Nat.reduceBEq, Nat.reduceLeDiff, Nat.reduceLT, Int.reduceBEq, Int.reduceBNe, Int.reduceLT, Int.reduceLE, Int.reduceGT, Int.reduceGE, Int.reduceAdd, Int.reduceSub, Int.reduceToNat, resOf, seqO, resOne, reduceCtorEq, okEl, AV.cells, AV.one, stE, stA, ld, ldE, snaps, rfs, rf]
  refine ECallP.some (p_ends s 46 (by omega)) ?_
  obtain ⟨x, z, hv, hz⟩ := accV_sl 1 ((wds [] (cutE s [46])).map .str)
  rw [hv] at hw
  generalize hws : wds [] (cutE s [46]) = ws at *
  cases he : endsW s [46]
  · have hcn := cutE_no s 46 he
    rw [hcn] at hw
    simp (disch := first | assumption | omega) only [ww, exitC, fillB, wantedA, evOp, opd, putO, bnd, ↓reduceIte, ckPlain, evC, binE, bin, sBin, iBin, eqB, bBin, Nat.reduceEqDiff, Nat.reduceAdd, Nat.reduceBEq, Nat.reduceLeDiff, Nat.reduceLT, Int.reduceBEq, Int.reduceBNe, Int.reduceLT, Int.reduceLE, Int.reduceGT, Int.reduceGE, Int.reduceAdd, Int.reduceSub, Int.reduceToNat, resOf, seqO, resOne, reduceCtorEq, okEl, AV.cells, AV.one, stE, stA, ld, ldE, snaps, rfs, rf]
    refine ECallP.some hw ?_
    simp (disch := first | assumption | omega) only [ww, exitC, fillB, wantedA, evOp, opd, putO, bnd, ↓reduceIte, ckPlain, evC, binE, bin, sBin, iBin, eqB, bBin, Nat.reduceEqDiff, Nat.reduceAdd, Nat.reduceBEq, Nat.reduceLeDiff, Nat.reduceLT, Int.reduceBEq, Int.reduceBNe, Int.reduceLT, Int.reduceLE, Int.reduceGT, Int.reduceGE, Int.reduceAdd, Int.reduceSub, Int.reduceToNat, resOf, seqO, resOne, reduceCtorEq, okEl, AV.cells, AV.one, stE, stA, ld, ldE, snaps, rfs, rf, List.length_map]
    refine Ends.loop (fun m t h => ∃ (done todo : List (List UInt8)), ws = done ++ todo ∧ m = todo.length ∧ get t 4 = .sl x z (ws.map .str) ∧ get t 5 = .str (colsF done) ∧ get t 6 = .bool (colsOk done) ∧ get t 7 = .int .i64 (done.length : Nat)) ws.length ?_ ?_
    · refine ⟨[], ws, rfl, rfl, ?_, ?_, ?_, ?_⟩
      all_goals first | ((try simp only [get_put_if, ↓reduceIte, Nat.reduceEqDiff, get_cons_zero, get_cons_succ, get_nil, reduceCtorEq]); done) | ((try simp only [get_put_if, ↓reduceIte, Nat.reduceEqDiff, get_cons_zero, get_cons_succ, get_nil, reduceCtorEq]); rfl)
    rintro m t h ⟨done, todo, rfl, rfl, g4, g5, g6, g7⟩ again
    cases todo with
    | nil =>
      simp only [List.append_nil] at *
      simp (disch := first | assumption | omega) only [ww, exitC, fillB, wantedA, evOp, opd, putO, bnd, ↓reduceIte, ckPlain, evC, binE, bin, sBin, iBin, eqB, bBin, Nat.reduceEqDiff, Nat.reduceAdd, Nat.reduceBEq, Nat.reduceLeDiff, Nat.reduceLT, Int.reduceBEq, Int.reduceBNe, Int.reduceLT, Int.reduceLE, Int.reduceGT, Int.reduceGE, Int.reduceAdd, Int.reduceSub, Int.reduceToNat, resOf, seqO, resOne, reduceCtorEq, okEl, AV.cells, AV.one, stE, stA, ld, ldE, snaps, rfs, rf, g4, g5, g6, g7, Int.lt_irrefl, List.length_map]
      exact snap_deep_rf rfl
    | cons w todo =>
      have hb1 : decide (((done.length : Nat) : Int) < (((done ++ w :: todo).length : Nat) : Int)) = true := by simp; omega
      have hx : (done ++ w :: todo)[done.length]? = some w := by simp
      have hz1 : z = 1 := by rcases hz with h | h; exact h; simp at h
      subst hz1
      have hdl : done.length ≤ 2000000 := by have := hwl; simp only [List.length_append, List.length_cons] at this; omega
      have hwne : w ≠ [] := hne w (by simp)
      obtain ⟨c, w', rfl⟩ : ∃ c w', w = c :: w' := by cases w with | nil => exact absurd rfl hwne | cons c w' => exact ⟨c, w', rfl⟩
      have hcf : (colsF done).length = done.length := by simp [colsF]
      have q1 : ((c.toNat : Int) == 108) = (c == 108) := toNat_beq c 108
      have q2 : ((c.toNat : Int) == 76) = (c == 76) := toNat_beq c 76
      have q3 : ((c.toNat : Int) == 99) = (c == 99) := toNat_beq c 99
      have q4 : ((c.toNat : Int) == 67) = (c == 67) := toNat_beq c 67
      have q5 : ((c.toNat : Int) == 114) = (c == 114) := toNat_beq c 114
      have q6 : ((c.toNat : Int) == 82) = (c == 82) := toNat_beq c 82
      cases h108 : (c == 108)
      · cases h76 : (c == 76)
        · cases h99 : (c == 99)
          · cases h67 : (c == 67)
            · cases h114 : (c == 114)
              · cases h82 : (c == 82)
                · have hcol : colB c = (108, false) := by simp only [beq_eq_false_iff_ne, ne_eq] at h108 h76 h99 h67 h114 h82; simp [colB, h108, h76, h99, h67, h114, h82]
                  simp (disch := first | assumption | omega) only [ww, exitC, fillB, wantedA, evOp, opd, putO, bnd, ↓reduceIte, ckPlain, evC, binE, bin, sBin, iBin, eqB, bBin, Nat.reduceEqDiff, Nat.reduceAdd, Nat.reduceBEq, Nat.reduceLeDiff, Nat.reduceLT, Int.reduceBEq, Int.reduceBNe, Int.reduceLT, Int.reduceLE, Int.reduceGT, Int.reduceGE, Int.reduceAdd, Int.reduceSub, Int.reduceToNat, resOf, seqO, resOne, reduceCtorEq, okEl, AV.cells, AV.one, stE, stA, ld, ldE, snaps, rfs, rf, g4, g5, g6, g7, hb1, hx, List.getElem?_map, List.length_map, byteAV, q1, q2, q3, q4, q5, q6, h108, h76, h99, h67, h114, h82, hcf]
                  refine again _ _ _ (by simp) ⟨done ++ [c :: w'], todo, by simp, rfl, ?_, ?_, ?_, ?_⟩
                  all_goals first | ((try simp only [get_put_if, ↓reduceIte, Nat.reduceEqDiff, get_cons_zero, get_cons_succ, get_nil, reduceCtorEq]); assumption) | ((try simp only [get_put_if, ↓reduceIte, Nat.reduceEqDiff, get_cons_zero, get_cons_succ, get_nil, reduceCtorEq]); done) | skip
                  · (try simp only [get_put_if, ↓reduceIte, Nat.reduceEqDiff, get_cons_zero, get_cons_succ, get_nil, reduceCtorEq]); simp [colsF, hcol]
                  · (try simp only [get_put_if, ↓reduceIte, Nat.reduceEqDiff, get_cons_zero, get_cons_succ, get_nil, reduceCtorEq]); simp [g6, colsOk, hcol]
                  · (try simp only [get_put_if, ↓reduceIte, Nat.reduceEqDiff, get_cons_zero, get_cons_succ, get_nil, reduceCtorEq]); simp
                · have hcol : colB c = (114, true) := by have e : c = 82 := (by simpa using h82); subst e; rfl
                  simp (disch := first | assumption | omega) only [ww, exitC, fillB, wantedA, evOp, opd, putO, bnd, ↓reduceIte, ckPlain, evC, binE, bin, sBin, iBin, eqB, bBin, Nat.reduceEqDiff, Nat.reduceAdd, Nat.reduceBEq, Nat.reduceLeDiff, Nat.reduceLT, Int.reduceBEq, Int.reduceBNe, Int.reduceLT, Int.reduceLE, Int.reduceGT, Int.reduceGE, Int.reduceAdd, Int.reduceSub, Int.reduceToNat, resOf, seqO, resOne, reduceCtorEq, okEl, AV.cells, AV.one, stE, stA, ld, ldE, snaps, rfs, rf, g4, g5, g6, g7, hb1, hx, List.getElem?_map, List.length_map, byteAV, q1, q2, q3, q4, q5, q6, h108, h76, h99, h67, h114, h82, hcf]
                  refine again _ _ _ (by simp) ⟨done ++ [c :: w'], todo, by simp, rfl, ?_, ?_, ?_, ?_⟩
                  all_goals first | ((try simp only [get_put_if, ↓reduceIte, Nat.reduceEqDiff, get_cons_zero, get_cons_succ, get_nil, reduceCtorEq]); assumption) | ((try simp only [get_put_if, ↓reduceIte, Nat.reduceEqDiff, get_cons_zero, get_cons_succ, get_nil, reduceCtorEq]); done) | skip
                  · (try simp only [get_put_if, ↓reduceIte, Nat.reduceEqDiff, get_cons_zero, get_cons_succ, get_nil, reduceCtorEq]); simp [colsF, hcol]
                  · (try simp only [get_put_if, ↓reduceIte, Nat.reduceEqDiff, get_cons_zero, get_cons_succ, get_nil, reduceCtorEq]); simp [g6, colsOk, hcol]
                  · (try simp only [get_put_if, ↓reduceIte, Nat.reduceEqDiff, get_cons_zero, get_cons_succ, get_nil, reduceCtorEq]); simp
              · have hcol : colB c = (114, true) := by have e : c = 114 := (by simpa using h114); subst e; rfl
                simp (disch := first | assumption | omega) only [ww, exitC, fillB, wantedA, evOp, opd, putO, bnd, ↓reduceIte, ckPlain, evC, binE, bin, sBin, iBin, eqB, bBin, Nat.reduceEqDiff, Nat.reduceAdd, Nat.reduceBEq, Nat.reduceLeDiff, Nat.reduceLT, Int.reduceBEq, Int.reduceBNe, Int.reduceLT, Int.reduceLE, Int.reduceGT, Int.reduceGE, Int.reduceAdd, Int.reduceSub, Int.reduceToNat, resOf, seqO, resOne, reduceCtorEq, okEl, AV.cells, AV.one, stE, stA, ld, ldE, snaps, rfs, rf, g4, g5, g6, g7, hb1, hx, List.getElem?_map, List.length_map, byteAV, q1, q2, q3, q4, q5, q6, h108, h76, h99, h67, h114, hcf]
                refine again _ _ _ (by simp) ⟨done ++ [c :: w'], todo, by simp, rfl, ?_, ?_, ?_, ?_⟩
                all_goals first | ((try simp only [get_put_if, ↓reduceIte, Nat.reduceEqDiff, get_cons_zero, get_cons_succ, get_nil, reduceCtorEq]); assumption) | ((try simp only [get_put_if, ↓reduceIte, Nat.reduceEqDiff, get_cons_zero, get_cons_succ, get_nil, reduceCtorEq]); done) | skip
                · (try simp only [get_put_if, ↓reduceIte, Nat.reduceEqDiff, get_cons_zero, get_cons_succ, get_nil, reduceCtorEq]); simp [colsF, hcol]
                · (try simp only [get_put_if, ↓reduceIte, Nat.reduceEqDiff, get_cons_zero, get_cons_succ, get_nil, reduceCtorEq]); simp [g6, colsOk, hcol]
                · (try simp only [get_put_if, ↓reduceIte, Nat.reduceEqDiff, get_cons_zero, get_cons_succ, get_nil, reduceCtorEq]); simp
            · have hcol : colB c = (99, true) := by have e : c = 67 := (by simpa using h67); subst e; rfl
              simp (disch := first | assumption | omega) only [ww, exitC, fillB, wantedA, evOp, opd, putO, bnd, ↓reduceIte, ckPlain, evC, binE, bin, sBin, iBin, eqB, bBin, Nat.reduceEqDiff, Nat.reduceAdd, Nat.reduceBEq, Nat.reduceLeDiff, Nat.reduceLT, Int.reduceBEq, Int.reduceBNe, Int.reduceLT, Int.reduceLE, Int.reduceGT, Int.reduceGE, Int.reduceAdd, Int.reduceSub, Int.reduceToNat, resOf, seqO, resOne, reduceCtorEq, okEl, AV.cells, AV.one, stE, stA, ld, ldE, snaps, rfs, rf, g4, g5, g6, g7, hb1, hx, List.getElem?_map, List.length_map, byteAV, q1, q2, q3, q4, q5, q6, h108, h76, h99, h67, hcf]
              refine again _ _ _ (by simp) ⟨done ++ [c :: w'], todo, by simp, rfl, ?_, ?_, ?_, ?_⟩
              all_goals first | ((try simp only [get_put_if, ↓reduceIte, Nat.reduceEqDiff, get_cons_zero, get_cons_succ, get_nil, reduceCtorEq]); assumption) | ((try simp only [get_put_if, ↓reduceIte, Nat.reduceEqDiff, get_cons_zero, get_cons_succ, get_nil, reduceCtorEq]); done) | skip
              · (try simp only [get_put_if, ↓reduceIte, Nat.reduceEqDiff, get_cons_zero, get_cons_succ, get_nil, reduceCtorEq]); simp [colsF, hcol]
              · (try simp only [get_put_if, ↓reduceIte, Nat.reduceEqDiff, get_cons_zero, get_cons_succ, get_nil, reduceCtorEq]); simp [g6, colsOk, hcol]
              · (try simp only [get_put_if, ↓reduceIte, Nat.reduceEqDiff, get_cons_zero, get_cons_succ, get_nil, reduceCtorEq]); simp
          · have hcol : colB c = (99, true) := by have e : c = 99 := (by simpa using h99); subst e; rfl
            simp (disch := first | assumption | omega) only [ww, exitC, fillB, wantedA, evOp, opd, putO, bnd, ↓reduceIte, ckPlain, evC, binE, bin, sBin, iBin, eqB, bBin, Nat.reduceEqDiff, Nat.reduceAdd, Nat.reduceBEq, Nat.reduceLeDiff, Nat.reduceLT, Int.reduceBEq, Int.reduceBNe, Int.reduceLT, Int.reduceLE, Int.reduceGT, Int.reduceGE, Int.reduceAdd, Int.reduceSub, Int.reduceToNat, resOf, seqO, resOne, reduceCtorEq, okEl, AV.cells, AV.one, stE, stA, ld, ldE, snaps, rfs, rf, g4, g5, g6, g7, hb1, hx, List.getElem?_map, List.length_map, byteAV, q1, q2, q3, q4, q5, q6, h108, h76, h99, hcf]
            refine again _ _ _ (by simp) ⟨done ++ [c :: w'], todo, by simp, rfl, ?_, ?_, ?_, ?_⟩
            all_goals first | ((try simp only [get_put_if, ↓reduceIte, Nat.reduceEqDiff, get_cons_zero, get_cons_succ, get_nil, reduceCtorEq]); assumption) | ((try simp only [get_put_if, ↓reduceIte, Nat.reduceEqDiff, get_cons_zero, get_cons_succ, get_nil, reduceCtorEq]); done) | skip
            · (try simp only [get_put_if, ↓reduceIte, Nat.reduceEqDiff, get_cons_zero, get_cons_succ, get_nil, reduceCtorEq]); simp [colsF, hcol]
            · (try simp only [get_put_if, ↓reduceIte, Nat.reduceEqDiff, get_cons_zero, get_cons_succ, get_nil, reduceCtorEq]); simp [g6, colsOk, hcol]
            · (try simp only [get_put_if, ↓reduceIte, Nat.reduceEqDiff, get_cons_zero, get_cons_succ, get_nil, reduceCtorEq]); simp
        · have hcol : colB c = (108, true) := by have e : c = 76 := (by simpa using h76); subst e; rfl
          simp (disch := first | assumption | omega) only [ww, exitC, fillB, wantedA, evOp, opd, putO, bnd, ↓reduceIte, ckPlain, evC, binE, bin, sBin, iBin, eqB, bBin, Nat.reduceEqDiff, Nat.reduceAdd, Nat.reduceBEq, Nat.reduceLeDiff, Nat.reduceLT, Int.reduceBEq, Int.reduceBNe, Int.reduceLT, Int.reduceLE, Int.reduceGT, Int.reduceGE, Int.reduceAdd, Int.reduceSub, Int.reduceToNat, resOf, seqO, resOne, reduceCtorEq, okEl, AV.cells, AV.one, stE, stA, ld, ldE, snaps, rfs, rf, g4, g5, g6, g7, hb1, hx, List.getElem?_map, List.length_map, byteAV, q1, q2, q3, q4, q5, q6, h108, h76, hcf]
          refine again _ _ _ (by simp) ⟨done ++ [c :: w'], todo, by simp, rfl, ?_, ?_, ?_, ?_⟩
          all_goals first | ((try simp only [get_put_if, ↓reduceIte, Nat.reduceEqDiff, get_cons_zero, get_cons_succ, get_nil, reduceCtorEq]); assumption) | ((try simp only [get_put_if, ↓reduceIte, Nat.reduceEqDiff, get_cons_zero, get_cons_succ, get_nil, reduceCtorEq]); done) | skip
          · (try simp only [get_put_if, ↓reduceIte, Nat.reduceEqDiff, get_cons_zero, get_cons_succ, get_nil, reduceCtorEq]); simp [colsF, hcol]
          · (try simp only [get_put_if, ↓reduceIte, Nat.reduceEqDiff, get_cons_zero, get_cons_succ, get_nil, reduceCtorEq]); simp [g6, colsOk, hcol]
          · (try simp only [get_put_if, ↓reduceIte, Nat.reduceEqDiff, get_cons_zero, get_cons_succ, get_nil, reduceCtorEq]); simp
      · have hcol : colB c = (108, true) := by have e : c = 108 := (by simpa using h108); subst e; rfl
        simp (disch := first | assumption | omega) only [ww, exitC, fillB, wantedA, evOp, opd, putO, bnd, ↓reduceIte, ckPlain, evC, binE, bin, sBin, iBin, eqB, bBin, Nat.reduceEqDiff, Nat.reduceAdd, Nat.reduceBEq, Nat.reduceLeDiff, Nat.reduceLT, Int.reduceBEq, Int.reduceBNe, Int.reduceLT, Int.reduceLE, Int.reduceGT, Int.reduceGE, Int.reduceAdd, Int.reduceSub, Int.reduceToNat, resOf, seqO, resOne, reduceCtorEq, okEl, AV.cells, AV.one, stE, stA, ld, ldE, snaps, rfs, rf, g4, g5, g6, g7, hb1, hx, List.getElem?_map, List.length_map, byteAV, q1, q2, q3, q4, q5, q6, h108, hcf]
        refine again _ _ _ (by simp) ⟨done ++ [c :: w'], todo, by simp, rfl, ?_, ?_, ?_, ?_⟩
        all_goals first | ((try simp only [get_put_if, ↓reduceIte, Nat.reduceEqDiff, get_cons_zero, get_cons_succ, get_nil, reduceCtorEq]); assumption) | ((try simp only [get_put_if, ↓reduceIte, Nat.reduceEqDiff, get_cons_zero, get_cons_succ, get_nil, reduceCtorEq]); done) | skip
        · (try simp only [get_put_if, ↓reduceIte, Nat.reduceEqDiff, get_cons_zero, get_cons_succ, get_nil, reduceCtorEq]); simp [colsF, hcol]
        · (try simp only [get_put_if, ↓reduceIte, Nat.reduceEqDiff, get_cons_zero, get_cons_succ, get_nil, reduceCtorEq]); simp [g6, colsOk, hcol]
        · (try simp only [get_put_if, ↓reduceIte, Nat.reduceEqDiff, get_cons_zero, get_cons_succ, get_nil, reduceCtorEq]); simp
  · have hct := cutE_one s 46 he
    have hs1 : 1 ≤ s.length := by simp only [endsW, Bool.and_eq_true, decide_eq_true_eq] at he; simpa using he.1
    simp (disch := first | assumption | omega) only [ww, exitC, fillB, wantedA, evOp, opd, putO, bnd, ↓reduceIte, ckPlain, evC, binE, bin, sBin, iBin, eqB, bBin, Nat.reduceEqDiff, Nat.reduceAdd, Nat.reduceBEq, Nat.reduceLeDiff, Nat.reduceLT, Int.reduceBEq, Int.reduceBNe, Int.reduceLT, Int.reduceLE, Int.reduceGT, Int.reduceGE, Int.reduceAdd, Int.reduceSub, Int.reduceToNat, resOf, seqO, resOne, reduceCtorEq, okEl, AV.cells, AV.one, stE, stA, ld, ldE, snaps, rfs, rf, hct]
    refine ECallP.some hw ?_
    simp (disch := first | assumption | omega) only [ww, exitC, fillB, wantedA, evOp, opd, putO, bnd, ↓reduceIte, ckPlain, evC, binE, bin, sBin, iBin, eqB, bBin, Nat.reduceEqDiff, Nat.reduceAdd, Nat.reduceBEq, Nat.reduceLeDiff, Nat.reduceLT, Int.reduceBEq, Int.reduceBNe, Int.reduceLT, Int.reduceLE, Int.reduceGT, Int.reduceGE, Int.reduceAdd, Int.reduceSub, Int.reduceToNat, resOf, seqO, resOne, reduceCtorEq, okEl, AV.cells, AV.one, stE, stA, ld, ldE, snaps, rfs, rf, List.length_map]
    refine Ends.loop (fun m t h => ∃ (done todo : List (List UInt8)), ws = done ++ todo ∧ m = todo.length ∧ get t 4 = .sl x z (ws.map .str) ∧ get t 5 = .str (colsF done) ∧ get t 6 = .bool (colsOk done) ∧ get t 7 = .int .i64 (done.length : Nat)) ws.length ?_ ?_
    · refine ⟨[], ws, rfl, rfl, ?_, ?_, ?_, ?_⟩
      all_goals first | ((try simp only [get_put_if, ↓reduceIte, Nat.reduceEqDiff, get_cons_zero, get_cons_succ, get_nil, reduceCtorEq]); done) | ((try simp only [get_put_if, ↓reduceIte, Nat.reduceEqDiff, get_cons_zero, get_cons_succ, get_nil, reduceCtorEq]); rfl)
    rintro m t h ⟨done, todo, rfl, rfl, g4, g5, g6, g7⟩ again
    cases todo with
    | nil =>
      simp only [List.append_nil] at *
      simp (disch := first | assumption | omega) only [ww, exitC, fillB, wantedA, evOp, opd, putO, bnd, ↓reduceIte, ckPlain, evC, binE, bin, sBin, iBin, eqB, bBin, Nat.reduceEqDiff, Nat.reduceAdd, Nat.reduceBEq, Nat.reduceLeDiff, Nat.reduceLT, Int.reduceBEq, Int.reduceBNe, Int.reduceLT, Int.reduceLE, Int.reduceGT, Int.reduceGE, Int.reduceAdd, Int.reduceSub, Int.reduceToNat, resOf, seqO, resOne, reduceCtorEq, okEl, AV.cells, AV.one, stE, stA, ld, ldE, snaps, rfs, rf, g4, g5, g6, g7, Int.lt_irrefl, List.length_map]
      exact snap_deep_rf rfl
    | cons w todo =>
      have hb1 : decide (((done.length : Nat) : Int) < (((done ++ w :: todo).length : Nat) : Int)) = true := by simp; omega
      have hx : (done ++ w :: todo)[done.length]? = some w := by simp
      have hz1 : z = 1 := by rcases hz with h | h; exact h; simp at h
      subst hz1
      have hdl : done.length ≤ 2000000 := by have := hwl; simp only [List.length_append, List.length_cons] at this; omega
      have hwne : w ≠ [] := hne w (by simp)
      obtain ⟨c, w', rfl⟩ : ∃ c w', w = c :: w' := by cases w with | nil => exact absurd rfl hwne | cons c w' => exact ⟨c, w', rfl⟩
      have hcf : (colsF done).length = done.length := by simp [colsF]
      have q1 : ((c.toNat : Int) == 108) = (c == 108) := toNat_beq c 108
      have q2 : ((c.toNat : Int) == 76) = (c == 76) := toNat_beq c 76
      have q3 : ((c.toNat : Int) == 99) = (c == 99) := toNat_beq c 99
      have q4 : ((c.toNat : Int) == 67) = (c == 67) := toNat_beq c 67
      have q5 : ((c.toNat : Int) == 114) = (c == 114) := toNat_beq c 114
      have q6 : ((c.toNat : Int) == 82) = (c == 82) := toNat_beq c 82
      cases h108 : (c == 108)
      · cases h76 : (c == 76)
        · cases h99 : (c == 99)
          · cases h67 : (c == 67)
            · cases h114 : (c == 114)
              · cases h82 : (c == 82)
                · have hcol : colB c = (108, false) := by simp only [beq_eq_false_iff_ne, ne_eq] at h108 h76 h99 h67 h114 h82; simp [colB, h108, h76, h99, h67, h114, h82]
                  simp (disch := first | assumption | omega) only [ww, exitC, fillB, wantedA, evOp, opd, putO, bnd, ↓reduceIte, ckPlain, evC, binE, bin, sBin, iBin, eqB, bBin, Nat.reduceEqDiff, Nat.reduceAdd, Nat.reduceBEq, Nat.reduceLeDiff, Nat.reduceLT, Int.reduceBEq, Int.reduceBNe, Int.reduceLT, Int.reduceLE, Int.reduceGT, Int.reduceGE, Int.reduceAdd, Int.reduceSub, Int.reduceToNat, resOf, seqO, resOne, reduceCtorEq, okEl, AV.cells, AV.one, stE, stA, ld, ldE, snaps, rfs, rf, g4, g5, g6, g7, hb1, hx, List.getElem?_map, List.length_map, byteAV, q1, q2, q3, q4, q5, q6, h108, h76, h99, h67, h114, h82, hcf]
                  refine again _ _ _ (by simp) ⟨done ++ [c :: w'], todo, by simp, rfl, ?_, ?_, ?_, ?_⟩
                  all_goals first | ((try simp only [get_put_if, ↓reduceIte, Nat.reduceEqDiff, get_cons_zero, get_cons_succ, get_nil, reduceCtorEq]); assumption) | ((try simp only [get_put_if, ↓reduceIte, Nat.reduceEqDiff, get_cons_zero, get_cons_succ, get_nil, reduceCtorEq]); done) | skip
                  · (try simp only [get_put_if, ↓reduceIte, Nat.reduceEqDiff, get_cons_zero, get_cons_succ, get_nil, reduceCtorEq]); simp [colsF, hcol]
                  · (try simp only [get_put_if, ↓reduceIte, Nat.reduceEqDiff, get_cons_zero, get_cons_succ, get_nil, reduceCtorEq]); simp [g6, colsOk, hcol]
                  · (try simp only [get_put_if, ↓reduceIte, Nat.reduceEqDiff, get_cons_zero, get_cons_succ, get_nil, reduceCtorEq]); simp
                · have hcol : colB c = (114, true) := by have e : c = 82 := (by simpa using h82); subst e; rfl
                  simp (disch := first | assumption | omega) only [ww, exitC, fillB, wantedA, evOp, opd, putO, bnd, ↓reduceIte, ckPlain, evC, binE, bin, sBin, iBin, eqB, bBin, Nat.reduceEqDiff, Nat.reduceAdd, Nat.reduceBEq, Nat.reduceLeDiff, Nat.reduceLT, Int.reduceBEq, Int.reduceBNe, Int.reduceLT, Int.reduceLE, Int.reduceGT, Int.reduceGE, Int.reduceAdd, Int.reduceSub, Int.reduceToNat, resOf, seqO, resOne, reduceCtorEq, okEl, AV.cells, AV.one, stE, stA, ld, ldE, snaps, rfs, rf, g4, g5, g6, g7, hb1, hx, List.getElem?_map, List.length_map, byteAV, q1, q2, q3, q4, q5, q6, h108, h76, h99, h67, h114, h82, hcf]
                  refine again _ _ _ (by simp) ⟨done ++ [c :: w'], todo, by simp, rfl, ?_, ?_, ?_, ?_⟩
                  all_goals first | ((try simp only [get_put_if, ↓reduceIte, Nat.reduceEqDiff, get_cons_zero, get_cons_succ, get_nil, reduceCtorEq]); assumption) | ((try simp only [get_put_if, ↓reduceIte, Nat.reduceEqDiff, get_cons_zero, get_cons_succ, get_nil, reduceCtorEq]); done) | skip
                  · (try simp only [get_put_if, ↓reduceIte, Nat.reduceEqDiff, get_cons_zero, get_cons_succ, get_nil, reduceCtorEq]); simp [colsF, hcol]
                  · (try simp only [get_put_if, ↓reduceIte, Nat.reduceEqDiff, get_cons_zero, get_cons_succ, get_nil, reduceCtorEq]); simp [g6, colsOk, hcol]
                  · (try simp only [get_put_if, ↓reduceIte, Nat.reduceEqDiff, get_cons_zero, get_cons_succ, get_nil, reduceCtorEq]); simp
              · have hcol : colB c = (114, true) := by have e : c = 114 := (by simpa using h114); subst e; rfl
                simp (disch := first | assumption | omega) only [ww, exitC, fillB, wantedA, evOp, opd, putO, bnd, ↓reduceIte, ckPlain, evC, binE, bin, sBin, iBin, eqB, bBin, Nat.reduceEqDiff, Nat.reduceAdd, Nat.reduceBEq, Nat.reduceLeDiff, Nat.reduceLT, Int.reduceBEq, Int.reduceBNe, Int.reduceLT, Int.reduceLE, Int.reduceGT, Int.reduceGE, Int.reduceAdd, Int.reduceSub, Int.reduceToNat, resOf, seqO, resOne, reduceCtorEq, okEl, AV.cells, AV.one, stE, stA, ld, ldE, snaps, rfs, rf, g4, g5, g6, g7, hb1, hx, List.getElem?_map, List.length_map, byteAV, q1, q2, q3, q4, q5, q6, h108, h76, h99, h67, h114, hcf]
                refine again _ _ _ (by simp) ⟨done ++ [c :: w'], todo, by simp, rfl, ?_, ?_, ?_, ?_⟩
                all_goals first | ((try simp only [get_put_if, ↓reduceIte, Nat.reduceEqDiff, get_cons_zero, get_cons_succ, get_nil, reduceCtorEq]); assumption) | ((try simp only [get_put_if, ↓reduceIte, Nat.reduceEqDiff, get_cons_zero, get_cons_succ, get_nil, reduceCtorEq]); done) | skip
                · (try simp only [get_put_if, ↓reduceIte, Nat.reduceEqDiff, get_cons_zero, get_cons_succ, get_nil, reduceCtorEq]); simp [colsF, hcol]
                · (try simp only [get_put_if, ↓reduceIte, Nat.reduceEqDiff, get_cons_zero, get_cons_succ, get_nil, reduceCtorEq]); simp [g6, colsOk, hcol]
                · (try simp only [get_put_if, ↓reduceIte, Nat.reduceEqDiff, get_cons_zero, get_cons_succ, get_nil, reduceCtorEq]); simp
            · have hcol : colB c = (99, true) := by have e : c = 67 := (by simpa using h67); subst e; rfl
              simp (disch := first | assumption | omega) only [ww, exitC, fillB, wantedA, evOp, opd, putO, bnd, ↓reduceIte, ckPlain, evC, binE, bin, sBin, iBin, eqB, bBin, Nat.reduceEqDiff, Nat.reduceAdd, Nat.reduceBEq, Nat.reduceLeDiff, Nat.reduceLT, Int.reduceBEq, Int.reduceBNe, Int.reduceLT, Int.reduceLE, Int.reduceGT, Int.reduceGE, Int.reduceAdd, Int.reduceSub, Int.reduceToNat, resOf, seqO, resOne, reduceCtorEq, okEl, AV.cells, AV.one, stE, stA, ld, ldE, snaps, rfs, rf, g4, g5, g6, g7, hb1, hx, List.getElem?_map, List.length_map, byteAV, q1, q2, q3, q4, q5, q6, h108, h76, h99, h67, hcf]
              refine again _ _ _ (by simp) ⟨done ++ [c :: w'], todo, by simp, rfl, ?_, ?_, ?_, ?_⟩
              all_goals first | ((try simp only [get_put_if, ↓reduceIte, Nat.reduceEqDiff, get_cons_zero, get_cons_succ, get_nil, reduceCtorEq]); assumption) | ((try simp only [get_put_if, ↓reduceIte, Nat.reduceEqDiff, get_cons_zero, get_cons_succ, get_nil, reduceCtorEq]); done) | skip
              · (try simp only [get_put_if, ↓reduceIte, Nat.reduceEqDiff, get_cons_zero, get_cons_succ, get_nil, reduceCtorEq]); simp [colsF, hcol]
              · (try simp only [get_put_if, ↓reduceIte, Nat.reduceEqDiff, get_cons_zero, get_cons_succ, get_nil, reduceCtorEq]); simp [g6, colsOk, hcol]
              · (try simp only [get_put_if, ↓reduceIte, Nat.reduceEqDiff, get_cons_zero, get_cons_succ, get_nil, reduceCtorEq]); simp
          · have hcol : colB c = (99, true) := by have e : c = 99 := (by simpa using h99); subst e; rfl
            simp (disch := first | assumption | omega) only [ww, exitC, fillB, wantedA, evOp, opd, putO, bnd, ↓reduceIte, ckPlain, evC, binE, bin, sBin, iBin, eqB, bBin, Nat.reduceEqDiff, Nat.reduceAdd, Nat.reduceBEq, Nat.reduceLeDiff, Nat.reduceLT, Int.reduceBEq, Int.reduceBNe, Int.reduceLT, Int.reduceLE, Int.reduceGT, Int.reduceGE, Int.reduceAdd, Int.reduceSub, Int.reduceToNat, resOf, seqO, resOne, reduceCtorEq, okEl, AV.cells, AV.one, stE, stA, ld, ldE, snaps, rfs, rf, g4, g5, g6, g7, hb1, hx, List.getElem?_map, List.length_map, byteAV, q1, q2, q3, q4, q5, q6, h108, h76, h99, hcf]
            refine again _ _ _ (by simp) ⟨done ++ [c :: w'], todo, by simp, rfl, ?_, ?_, ?_, ?_⟩
            all_goals first | ((try simp only [get_put_if, ↓reduceIte, Nat.reduceEqDiff, get_cons_zero, get_cons_succ, get_nil, reduceCtorEq]); assumption) | ((try simp only [get_put_if, ↓reduceIte, Nat.reduceEqDiff, get_cons_zero, get_cons_succ, get_nil, reduceCtorEq]); done) | skip
            · (try simp only [get_put_if, ↓reduceIte, Nat.reduceEqDiff, get_cons_zero, get_cons_succ, get_nil, reduceCtorEq]); simp [colsF, hcol]
            · (try simp only [get_put_if, ↓reduceIte, Nat.reduceEqDiff, get_cons_zero, get_cons_succ, get_nil, reduceCtorEq]); simp [g6, colsOk, hcol]
            · (try simp only [get_put_if, ↓reduceIte, Nat.reduceEqDiff, get_cons_zero, get_cons_succ, get_nil, reduceCtorEq]); simp
        · have hcol : colB c = (108, true) := by have e : c = 76 := (by simpa using h76); subst e; rfl
          simp (disch := first | assumption | omega) only [ww, exitC, fillB, wantedA, evOp, opd, putO, bnd, ↓reduceIte, ckPlain, evC, binE, bin, sBin, iBin, eqB, bBin, Nat.reduceEqDiff, Nat.reduceAdd, Nat.reduceBEq, Nat.reduceLeDiff, Nat.reduceLT, Int.reduceBEq, Int.reduceBNe, Int.reduceLT, Int.reduceLE, Int.reduceGT, Int.reduceGE, Int.reduceAdd, Int.reduceSub, Int.reduceToNat, resOf, seqO, resOne, reduceCtorEq, okEl, AV.cells, AV.one, stE, stA, ld, ldE, snaps, rfs, rf, g4, g5, g6, g7, hb1, hx, List.getElem?_map, List.length_map, byteAV, q1, q2, q3, q4, q5, q6, h108, h76, hcf]
          refine again _ _ _ (by simp) ⟨done ++ [c :: w'], todo, by simp, rfl, ?_, ?_, ?_, ?_⟩
          all_goals first | ((try simp only [get_put_if, ↓reduceIte, Nat.reduceEqDiff, get_cons_zero, get_cons_succ, get_nil, reduceCtorEq]); assumption) | ((try simp only [get_put_if, ↓reduceIte, Nat.reduceEqDiff, get_cons_zero, get_cons_succ, get_nil, reduceCtorEq]); done) | skip
          · (try simp only [get_put_if, ↓reduceIte, Nat.reduceEqDiff, get_cons_zero, get_cons_succ, get_nil, reduceCtorEq]); simp [colsF, hcol]
          · (try simp only [get_put_if, ↓reduceIte, Nat.reduceEqDiff, get_cons_zero, get_cons_succ, get_nil, reduceCtorEq]); simp [g6, colsOk, hcol]
          · (try simp only [get_put_if, ↓reduceIte, Nat.reduceEqDiff, get_cons_zero, get_cons_succ, get_nil, reduceCtorEq]); simp
      · have hcol : colB c = (108, true) := by have e : c = 108 := (by simpa using h108); subst e; rfl
        simp (disch := first | assumption | omega) only [ww, exitC, fillB, wantedA, evOp, opd, putO, bnd, ↓reduceIte, ckPlain, evC, binE, bin, sBin, iBin, eqB, bBin, Nat.reduceEqDiff, Nat.reduceAdd, Nat.reduceBEq, Nat.reduceLeDiff, Nat.reduceLT, Int.reduceBEq, Int.reduceBNe, Int.reduceLT, Int.reduceLE, Int.reduceGT, Int.reduceGE, Int.reduceAdd, Int.reduceSub, Int.reduceToNat, resOf, seqO, resOne, reduceCtorEq, okEl, AV.cells, AV.one, stE, stA, ld, ldE, snaps, rfs, rf, g4, g5, g6, g7, hb1, hx, List.getElem?_map, List.length_map, byteAV, q1, q2, q3, q4, q5, q6, h108, hcf]
        refine again _ _ _ (by simp) ⟨done ++ [c :: w'], todo, by simp, rfl, ?_, ?_, ?_, ?_⟩
        all_goals first | ((try simp only [get_put_if, ↓reduceIte, Nat.reduceEqDiff, get_cons_zero, get_cons_succ, get_nil, reduceCtorEq]); assumption) | ((try simp only [get_put_if, ↓reduceIte, Nat.reduceEqDiff, get_cons_zero, get_cons_succ, get_nil, reduceCtorEq]); done) | skip
        · (try simp only [get_put_if, ↓reduceIte, Nat.reduceEqDiff, get_cons_zero, get_cons_succ, get_nil, reduceCtorEq]); simp [colsF, hcol]
        · (try simp only [get_put_if, ↓reduceIte, Nat.reduceEqDiff, get_cons_zero, get_cons_succ, get_nil, reduceCtorEq]); simp [g6, colsOk, hcol]
        · (try simp only [get_put_if, ↓reduceIte, Nat.reduceEqDiff, get_cons_zero, get_cons_succ, get_nil, reduceCtorEq]); simp
end Go.Proofs.VmX

/- TblParts at the small machine. -/
set_option linter.unusedVariables false
set_option linter.unusedSimpArgs false
namespace Go.Proofs.VmX
set_option maxRecDepth 100000

theorem law_TblParts (s : List UInt8) (hk : PureTo EC 7 [] (.bool true)) : PureTo EC 3 [.str s] (.bool true) := by
  refine pure_go1 (res := [(.tmp 2)]) k3 rfl rfl ?_
  simp (disch := first | assumption | omega) only [ww, exitC, fillB, wantedA, evOp, opd, putO, bnd, ↓reduceIte, ckPlain, evC, binE, bin, sBin, iBin, eqB, bBin, Nat.reduceEqDiff, Nat.reduceAdd, Nat.reduceBEq, Nat.reduceLeDiff, Nat.reduceLT, Int.reduceBEq, Int.reduceBNe, Int.reduceLT, Int.reduceLE, Int.reduceGT, Int.reduceGE, Int.reduceAdd, Int.reduceSub, Int.reduceToNat, resOf, seqO, resOne, reduceCtorEq, okEl, AV.cells, AV.one, stE, stA, ld, ldE, snaps, rfs, rf]
  refine ECond.mk (fun hb => ?_) (fun hb => ?_)
  · simp (disch := first | assumption | omega) only [ww, exitC, fillB, wantedA, evOp, opd, putO, bnd, ↓reduceIte, ckPlain, evC, binE, bin, sBin, iBin, eqB, bBin, Nat.reduceEqDiff, Nat.reduceAdd, Nat.reduceBEq, Nat.reduceLeDiff, Nat.reduceLT, Int.reduceBEq, Int.reduceBNe, Int.reduceLT, Int.reduceLE, Int.reduceGT, Int.reduceGE, Int.reduceAdd, Int.reduceSub, Int.reduceToNat, resOf, seqO, resOne, reduceCtorEq, okEl, AV.cells, AV.one, stE, stA, ld, ldE, snaps, rfs, rf]
    refine ECallP.some hk ?_
    simp (disch := first | assumption | omega) only [ww, exitC, fillB, wantedA, evOp, opd, putO, bnd, ↓reduceIte, ckPlain, evC, binE, bin, sBin, iBin, eqB, bBin, Nat.reduceEqDiff, Nat.reduceAdd, Nat.reduceBEq, Nat.reduceLeDiff, Nat.reduceLT, Int.reduceBEq, Int.reduceBNe, Int.reduceLT, Int.reduceLE, Int.reduceGT, Int.reduceGE, Int.reduceAdd, Int.reduceSub, Int.reduceToNat, resOf, seqO, resOne, reduceCtorEq, okEl, AV.cells, AV.one, stE, stA, ld, ldE, snaps, rfs, rf]
    exact snap_deep_rf rfl
  rw [decide_eq_false_iff_not] at hb
  have hl := splitB_len 9 s
  have hc := cnt_le 9 s
  simp (disch := first | assumption | omega) only [ww, exitC, fillB, wantedA, evOp, opd, putO, bnd, ↓reduceIte, ckPlain, evC, binE, bin, sBin, iBin, eqB, bBin, Nat.reduceEqDiff, Nat.reduceAdd, Nat.reduceBEq, Nat.reduceLeDiff, Nat.reduceLT, Int.reduceBEq, Int.reduceBNe, Int.reduceLT, Int.reduceLE, Int.reduceGT, Int.reduceGE, Int.reduceAdd, Int.reduceSub, Int.reduceToNat, resOf, seqO, resOne, reduceCtorEq, okEl, AV.cells, AV.one, stE, stA, ld, ldE, snaps, rfs, rf]
  refine ECallP.some (p_Look s (by omega)) ?_
  simp (disch := first | assumption | omega) only [ww, exitC, fillB, wantedA, evOp, opd, putO, bnd, ↓reduceIte, ckPlain, evC, binE, bin, sBin, iBin, eqB, bBin, Nat.reduceEqDiff, Nat.reduceAdd, Nat.reduceBEq, Nat.reduceLeDiff, Nat.reduceLT, Int.reduceBEq, Int.reduceBNe, Int.reduceLT, Int.reduceLE, Int.reduceGT, Int.reduceGE, Int.reduceAdd, Int.reduceSub, Int.reduceToNat, resOf, seqO, resOne, reduceCtorEq, okEl, AV.cells, AV.one, stE, stA, ld, ldE, snaps, rfs, rf, tup3]
  refine ECallP.some (ref_Look s (by omega)) ?_
  simp (disch := first | assumption | omega) only [ww, exitC, fillB, wantedA, evOp, opd, putO, bnd, ↓reduceIte, ckPlain, evC, binE, bin, sBin, iBin, eqB, bBin, Nat.reduceEqDiff, Nat.reduceAdd, Nat.reduceBEq, Nat.reduceLeDiff, Nat.reduceLT, Int.reduceBEq, Int.reduceBNe, Int.reduceLT, Int.reduceLE, Int.reduceGT, Int.reduceGE, Int.reduceAdd, Int.reduceSub, Int.reduceToNat, resOf, seqO, resOne, reduceCtorEq, okEl, AV.cells, AV.one, stE, stA, ld, ldE, snaps, rfs, rf, tup3]
  refine ECallP.some (p_Columns s (by omega)) ?_
  simp (disch := first | assumption | omega) only [ww, exitC, fillB, wantedA, evOp, opd, putO, bnd, ↓reduceIte, ckPlain, evC, binE, bin, sBin, iBin, eqB, bBin, Nat.reduceEqDiff, Nat.reduceAdd, Nat.reduceBEq, Nat.reduceLeDiff, Nat.reduceLT, Int.reduceBEq, Int.reduceBNe, Int.reduceLT, Int.reduceLE, Int.reduceGT, Int.reduceGE, Int.reduceAdd, Int.reduceSub, Int.reduceToNat, resOf, seqO, resOne, reduceCtorEq, okEl, AV.cells, AV.one, stE, stA, ld, ldE, snaps, rfs, rf, tupC]
  refine ECallP.some (ref_Columns s (by omega)) ?_
  simp (disch := first | assumption | omega) only [ww, exitC, fillB, wantedA, evOp, opd, putO, bnd, ↓reduceIte, ckPlain, evC, binE, bin, sBin, iBin, eqB, bBin, Nat.reduceEqDiff, Nat.reduceAdd, Nat.reduceBEq, Nat.reduceLeDiff, Nat.reduceLT, Int.reduceBEq, Int.reduceBNe, Int.reduceLT, Int.reduceLE, Int.reduceGT, Int.reduceGE, Int.reduceAdd, Int.reduceSub, Int.reduceToNat, resOf, seqO, resOne, reduceCtorEq, okEl, AV.cells, AV.one, stE, stA, ld, ldE, snaps, rfs, rf, tupC]
  refine ECallP.some (p13 s (by omega)) ?_
  simp (disch := first | assumption | omega) only [ww, exitC, fillB, wantedA, evOp, opd, putO, bnd, ↓reduceIte, ckPlain, evC, binE, bin, sBin, iBin, eqB, bBin, Nat.reduceEqDiff, Nat.reduceAdd, Nat.reduceBEq, Nat.reduceLeDiff, Nat.reduceLT, Int.reduceBEq, Int.reduceBNe, Int.reduceLT, Int.reduceLE, Int.reduceGT, Int.reduceGE, Int.reduceAdd, Int.reduceSub, Int.reduceToNat, resOf, seqO, resOne, reduceCtorEq, okEl, AV.cells, AV.one, stE, stA, ld, ldE, snaps, rfs, rf]
  refine ECallP.some (ref_Split s 9 (by omega)) ?_
  simp (disch := first | assumption | omega) only [ww, exitC, fillB, wantedA, evOp, opd, putO, bnd, ↓reduceIte, ckPlain, evC, binE, bin, sBin, iBin, eqB, bBin, Nat.reduceEqDiff, Nat.reduceAdd, Nat.reduceBEq, Nat.reduceLeDiff, Nat.reduceLT, Int.reduceBEq, Int.reduceBNe, Int.reduceLT, Int.reduceLE, Int.reduceGT, Int.reduceGE, Int.reduceAdd, Int.reduceSub, Int.reduceToNat, resOf, seqO, resOne, reduceCtorEq, okEl, AV.cells, AV.one, stE, stA, ld, ldE, snaps, rfs, rf, rfs_str]
  refine ECallP.some (ref_SameTexts (splitB 9 s) (splitB 9 s) false false 1 1 (.inl rfl) (.inl rfl) (by omega) (by omega)) ?_
  simp (disch := first | assumption | omega) only [ww, exitC, fillB, wantedA, evOp, opd, putO, bnd, ↓reduceIte, ckPlain, evC, binE, bin, sBin, iBin, eqB, bBin, Nat.reduceEqDiff, Nat.reduceAdd, Nat.reduceBEq, Nat.reduceLeDiff, Nat.reduceLT, Int.reduceBEq, Int.reduceBNe, Int.reduceLT, Int.reduceLE, Int.reduceGT, Int.reduceGE, Int.reduceAdd, Int.reduceSub, Int.reduceToNat, resOf, seqO, resOne, reduceCtorEq, okEl, AV.cells, AV.one, stE, stA, ld, ldE, snaps, rfs, rf]
  refine ECallP.some hk ?_
  simp (disch := first | assumption | omega) only [ww, exitC, fillB, wantedA, evOp, opd, putO, bnd, ↓reduceIte, ckPlain, evC, binE, bin, sBin, iBin, eqB, bBin, Nat.reduceEqDiff, Nat.reduceAdd, Nat.reduceBEq, Nat.reduceLeDiff, Nat.reduceLT, Int.reduceBEq, Int.reduceBNe, Int.reduceLT, Int.reduceLE, Int.reduceGT, Int.reduceGE, Int.reduceAdd, Int.reduceSub, Int.reduceToNat, resOf, seqO, resOne, reduceCtorEq, okEl, AV.cells, AV.one, stE, stA, ld, ldE, snaps, rfs, rf]
  exact snap_deep_rf rfl
end Go.Proofs.VmX

/- known() of flonglaw09 is true: a closed run of the small machine. -/
namespace Go.Proofs.VmX
set_option maxRecDepth 100000
theorem known_ok : ∃ h', FnTo EC 7 [] [] (.bool true) h' := fn_true 400 (by kernel_rfl)
theorem known_pure : PureTo EC 7 [] (.bool true) := by
  obtain ⟨h', h⟩ := known_ok
  exact pure_rf h rfl
end Go.Proofs.VmX
