/- Part 2 of a proof: flonglaw09.TblParts returns true for every text and leaves it as it was; no condition of our own. -/
import Derived.Test.YtehbklgndkheoaaDoorPart1
import Derived.Laws.BytesArg
import Derived.Laws.Cover4
import Derived.Laws.StructEq
/- The small machine's conversions, and whole numbers' greatest, against the model's. -/
set_option linter.unusedVariables false
set_option linter.unusedSimpArgs false
set_option linter.unusedSectionVars false
namespace Go.Proofs.VmX
open Go.RowKit
section
variable {P : Program} {H : Hints} {S : Nat → Nat → Prop} {B : Nat} {φ : Phi} {h : Heap} {w : World} {t : List AV} {a : Act} {o : Oper}

theorem run_conv {s d : TypeId} {x : Operand} (ho : o.op = .convert s d x) (v : Value) (w' : World) (hrun : (convert s d (a.eval x)).run P w = .ok v w') : (execOp a.eval o).run P w = .ok (.value v) w' := by
  simp [execOp, ho, hrun]

theorem ok_convInt (hrel : Rel H.glob S B φ h w) (ht : TR S φ h w t a.tmps) (s d : TypeId) (x : Operand) (ho : o.op = .convert s d x) (j k : IntKind) (hs : P.underlying s = some (.int j)) (hd : P.underlying d = some (.int k)) (i : IntKind) (n : Int)
    (hx : opd t (cOpd H x) = .int i n) : OpOK P H.glob S B φ h w a o h (.int k (k.wrap n)) := by
  have hu := (hx ▸ opd_VR hrel ht x : VR S φ h w (.int i n) (a.eval x)).int_inv
  refine ok_same hrel (run_conv ho _ _ ?_) (.int _ _)
  simp [convert, run_under hs, run_under hd, hu, Conv.intToInt]

theorem enc_str (b : ByteArray) : VR S φ h w (.str b.data.toList) (.string b) := by
  have := VR.str (S := S) (φ := φ) (h := h) (w := w) b.data.toList
  simpa using this

theorem ok_convIntStr (hrel : Rel H.glob S B φ h w) (ht : TR S φ h w t a.tmps) (s d : TypeId) (x : Operand) (ho : o.op = .convert s d x) (j : IntKind) (hs : P.underlying s = some (.int j)) (hd : P.underlying d = some .string) (i : IntKind) (n : Int)
    (hx : opd t (cOpd H x) = .int i n) : OpOK P H.glob S B φ h w a o h (.str (Utf8.encode n).data.toList) := by
  have hu := (hx ▸ opd_VR hrel ht x : VR S φ h w (.int i n) (a.eval x)).int_inv
  refine ok_same hrel (run_conv ho _ _ ?_) (enc_str _)
  simp [convert, run_under hs, run_under hd, hu, Conv.intToString]

theorem ok_convStr (hrel : Rel H.glob S B φ h w) (ht : TR S φ h w t a.tmps) (s d : TypeId) (x : Operand) (ho : o.op = .convert s d x) (hs : P.underlying s = some .string) (hd : P.underlying d = some .string) (l : List UInt8)
    (hx : opd t (cOpd H x) = .str l) : OpOK P H.glob S B φ h w a o h (.str l) := by
  have hu := (hx ▸ opd_VR hrel ht x : VR S φ h w (.str l) (a.eval x)).str_inv
  refine ok_same hrel (run_conv ho _ _ ?_) (.str _)
  simp [convert, run_under hs, run_under hd, hu]

/-- Elements of one cell each. -/
theorem src_one (hrel : Rel H.glob S B φ h w) {v : AV} {u : Value} (hv : VR S φ h w v u) {ys : List AV} (hy : elsOf v h = some ys) (hns : ∀ s, v ≠ .str s) (h1 : ∀ y ∈ ys, y.cells = [y]) :
    ∃ (vals : List Value) (ad : Option Addr) (c : Nat), u = .slice ad ys.length c ∧ VRs S φ h w ys vals ∧ (ad = none → ys = []) ∧ ∀ a, ad = some a → (loadCells a ys.length).run P w = .ok vals.toArray w := by
  have fm : ys.flatMap AV.cells = ys := by
    clear hy
    induction ys with
    | nil => rfl
    | cons y ys ih => rw [List.flatMap_cons, h1 y (by simp), ih (fun z hz => h1 z (List.mem_cons_of_mem _ hz))]; rfl
  have fin : ∀ (ad : Option Addr) (c sz : Nat) (vals : List Value), u = .slice ad ys.length c → (sz = 1 ∨ ys = []) → (ad = none → ys = []) → Src P S φ h w sz u ys vals →
      ∃ (vals : List Value) (ad : Option Addr) (c : Nat), u = .slice ad ys.length c ∧ VRs S φ h w ys vals ∧ (ad = none → ys = []) ∧ ∀ a, ad = some a → (loadCells a ys.length).run P w = .ok vals.toArray w := by
    intro ad c sz vals hu hsz hn hs
    have hvr := hs.vr
    rw [fm] at hvr
    refine ⟨vals, ad, c, hu, hvr, hn, fun a ha => ?_⟩
    subst ha
    have hr := hs.run w (fun _ => rfl) ys.length (Nat.le_refl _)
    rw [hu] at hr
    simp only [Builtin.firstCells] at hr
    have hl : ys.length * sz = ys.length := by
      rcases hsz with rfl | h0
      · simp
      · simp [h0]
    rw [hl] at hr
    rw [hr, List.take_of_length_le (by rw [← hvr.length]; exact Nat.le_refl _)]
  have hone : ∀ sz, (∀ e ∈ ys, okEl sz e = true) → sz = 1 ∨ ys = [] := by
    intro sz he
    cases hys : ys with
    | nil => right; rfl
    | cons y l =>
      left
      have := okEl_len (he y (by simp [hys]))
      rw [h1 y (by simp [hys])] at this
      simpa using this.symm
  cases v with
  | sl e s xs =>
    simp only [elsOf] at hy
    injection hy with hy
    subst hy
    obtain ⟨vals, hs⟩ := src_sl (P := P) (sz := s) hv (.inl rfl)
    obtain ⟨ad, c, hu, _, _, hne⟩ := hv.sl_inv
    refine fin ad c s vals hu (hone s hs.ok) (fun hn => ?_) hs
    by_cases h0 : xs = []
    · exact h0
    · obtain ⟨b, off, had, _⟩ := hne h0
      rw [hn] at had
      cases had
  | osl id gen sz i len =>
    obtain ⟨vals, hs⟩ := src_osl (P := P) hrel hv hy
    have hlen := hs.len w
    cases hv with | osl _ _ _ _ _ ad c hid hg hn hsome ha =>
    have hle : ys.length = len := by
      have : (Builtin.lenOf (Value.slice ad len c)).run P w = .ok len w := by simp [Builtin.lenOf]
      rw [this] at hlen
      injection hlen with hlen
      exact hlen.symm
    exact fin ad c sz vals (by rw [hle]) (hone sz hs.ok) (fun hnone => by rw [hnone] at hsome; cases hsome) hs
  | str s => exact absurd rfl (hns s)
  | _ => simp only [elsOf] at hy; cases hy

theorem toByte_inv {y : AV} {b : UInt8} (hy : toByte y = some b) : ∃ n, y = .int .u8 n ∧ b = UInt8.ofNat n.toNat := by
  unfold toByte at hy
  split at hy
  · injection hy with hy; exact ⟨_, rfl, hy.symm⟩
  · cases hy

theorem toRune_inv {y : AV} {b : List UInt8} (hy : toRune y = some b) : ∃ n, y = .int .i32 n ∧ b = (Utf8.encode n).data.toList := by
  unfold toRune at hy
  split at hy
  · injection hy with hy; exact ⟨_, rfl, hy.symm⟩
  · cases hy

theorem ints_of {β : Type} {k : IntKind} {f : AV → Option β} (hf : ∀ y b, f y = some b → ∃ n, y = .int k n) : ∀ {ys : List AV} {l : List β} {vals : List Value}, seqO f ys = some l → VRs S φ h w ys vals →
    ∃ ns : List Int, ys = ns.map (AV.int k) ∧ vals = ns.map (Value.int k) := by
  intro ys
  induction ys with
  | nil => intro l vals _ hv; cases hv; exact ⟨[], rfl, rfl⟩
  | cons y ys ih =>
    intro l vals hl hv
    simp only [seqO, Option.bind_eq_some_iff, Option.map_eq_some_iff] at hl
    obtain ⟨b, h1, m, h2, rfl⟩ := hl
    obtain ⟨n, rfl⟩ := hf y b h1
    cases hv with | cons _ v _ vs g1 g2 =>
    obtain ⟨ns, r1, r2⟩ := ih h2 g2
    have := g1.int_inv
    subst this
    exact ⟨n :: ns, by simp [r1], by simp [r2]⟩

theorem ok_convBytes (hrel : Rel H.glob S B φ h w) (ht : TR S φ h w t a.tmps) (s d e : TypeId) (x : Operand) (ho : o.op = .convert s d x) (hs : P.underlying s = some (.slice e)) (he : P.underlying e = some (.int .u8)) (hd : P.underlying d = some .string)
    (ys : List AV) (hy : elsOf (opd t (cOpd H x)) h = some ys) (hns : ∀ l, opd t (cOpd H x) ≠ .str l) (l : List UInt8) (hl : seqO toByte ys = some l) : OpOK P H.glob S B φ h w a o h (.str l) := by
  obtain ⟨vals, ad, c, hu, hv, hn, hc⟩ := src_one (P := P) hrel (opd_VR hrel ht x) hy hns (fun y hy' => by
    obtain ⟨k, hk⟩ := List.getElem?_of_mem hy'
    obtain ⟨s1, s2⟩ := seqO_spec hl
    have hlt : k < l.length := by rw [s1]; exact (List.getElem?_eq_some_iff.1 hk).1
    obtain ⟨n, rfl, _⟩ := toByte_inv (s2 k y _ hk (List.getElem?_eq_getElem hlt))
    rfl)
  obtain ⟨ns, r1, r2⟩ := ints_of (fun y b hb => by obtain ⟨n, h1, _⟩ := toByte_inv hb; exact ⟨n, h1⟩) hl hv
  have hlm : l = ns.map fun n => UInt8.ofNat n.toNat := by
    clear hv hc hn hu r2 hy
    subst r1
    induction ns generalizing l with
    | nil => simp [seqO] at hl; exact hl
    | cons n ns ih =>
      simp only [List.map_cons, seqO, toByte, Option.bind_some, Option.map_eq_some_iff] at hl
      obtain ⟨m, h2, rfl⟩ := hl
      rw [ih m h2]
      rfl
  refine ok_same hrel (run_conv ho (.string ⟨l.toArray⟩) _ ?_) (.str _)
  rw [hu]
  cases ad with
  | none =>
    rw [run_convert_bytes_nil w s e hs he _ _ d hd]
    have : ns = [] := by have := hn rfl; rw [r1] at this; simpa using this
    subst this
    subst hlm
    rfl
  | some ad =>
    rw [run_convert_bytes_string w s d e _ _ _ hs he hd, run_bytesToString w ad _ c ns (by rw [← r2]; exact hc ad rfl), foldl_push_bytes, hlm]
    simp [ByteArray.empty, ByteArray.emptyWithCapacity]
    rfl

theorem foldl_enc : ∀ (ns : List Int) (s : ByteArray), ns.foldl (fun r n => r ++ Utf8.encode n) s = ⟨s.data ++ ((ns.map fun n => (Utf8.encode n).data.toList).flatten).toArray⟩
  | [], s => by simp
  | n :: ns, s => by
    rw [List.foldl_cons, foldl_enc ns]
    apply ByteArray.ext
    apply Array.toList_inj.1
    simp [ByteArray.data_append]

theorem ok_convRunes (hrel : Rel H.glob S B φ h w) (ht : TR S φ h w t a.tmps) (s d e : TypeId) (x : Operand) (ho : o.op = .convert s d x) (hs : P.underlying s = some (.slice e)) (he : P.underlying e = some (.int .i32)) (hd : P.underlying d = some .string)
    (ys : List AV) (hy : elsOf (opd t (cOpd H x)) h = some ys) (hns : ∀ l, opd t (cOpd H x) ≠ .str l) (l : List (List UInt8)) (hl : seqO toRune ys = some l) : OpOK P H.glob S B φ h w a o h (.str l.flatten) := by
  obtain ⟨vals, ad, c, hu, hv, hn, hc⟩ := src_one (P := P) hrel (opd_VR hrel ht x) hy hns (fun y hy' => by
    obtain ⟨k, hk⟩ := List.getElem?_of_mem hy'
    obtain ⟨s1, s2⟩ := seqO_spec hl
    have hlt : k < l.length := by rw [s1]; exact (List.getElem?_eq_some_iff.1 hk).1
    obtain ⟨n, rfl, _⟩ := toRune_inv (s2 k y _ hk (List.getElem?_eq_getElem hlt))
    rfl)
  obtain ⟨ns, r1, r2⟩ := ints_of (fun y b hb => by obtain ⟨n, h1, _⟩ := toRune_inv hb; exact ⟨n, h1⟩) hl hv
  have hlm : l = ns.map fun n => (Utf8.encode n).data.toList := by
    clear hv hc hn hu r2 hy
    subst r1
    induction ns generalizing l with
    | nil => simp [seqO] at hl; exact hl
    | cons n ns ih =>
      simp only [List.map_cons, seqO, toRune, Option.bind_some, Option.map_eq_some_iff] at hl
      obtain ⟨m, h2, rfl⟩ := hl
      rw [ih m h2]
      rfl
  refine ok_same hrel (run_conv ho (.string ⟨l.flatten.toArray⟩) _ ?_) (.str _)
  rw [hu]
  have e0 : ∀ (q : Option Addr), (convert s d (.slice q ys.length c)).run P w = (Conv.runesToString (.slice q ys.length c)).run P w := by
    intro q
    simp [convert, run_under hs, run_under hd, run_under he]
  rw [e0]
  cases ad with
  | none =>
    have : ns = [] := by have := hn rfl; rw [r1] at this; simpa using this
    subst this
    subst hlm
    simp [Conv.runesToString]
    rfl
  | some ad =>
    rw [run_runesToString w ad _ c ns (by rw [← r2]; exact hc ad rfl), runesBytes, foldl_enc, hlm]
    simp [ByteArray.empty, ByteArray.emptyWithCapacity]
    rfl

/-! The greatest, and the least. -/
theorem minMax_run (k : IntKind) : ∀ (xs : List AV) (vs : List Value) (m r : Int) (mx : Bool), VRs S φ h w xs vs → minMax mx m xs k = some r →
    (List.foldlM (if mx then Builtin.max2 else Builtin.min2) (.int k m) vs).run P w = .ok (.int k r) w := by
  intro xs
  induction xs with
  | nil =>
    intro vs m r mx hv hr
    cases hv
    simp only [minMax] at hr
    injection hr with hr
    subst hr
    rfl
  | cons x xs ih =>
    intro vs m r mx hv hr
    cases hv with | cons _ v _ vs g1 g2 =>
    cases x with
    | int j b =>
      have := g1.int_inv
      subst this
      simp only [minMax] at hr
      split at hr
      · have := ih vs _ r mx g2 hr
        simp only [List.foldlM_cons, Sem.run_bind]
        cases mx
        · simp only [Bool.false_eq_true, if_false, Builtin.min2, Sem.run_pure, Result.andThen_ok] at this ⊢
          exact this
        · simp only [if_true, Builtin.max2, Sem.run_pure, Result.andThen_ok] at this ⊢
          exact this
      · cases hr
    | _ => simp only [minMax] at hr; cases hr

theorem ok_mm (hrel : Rel H.glob S B φ h w) (ht : TR S φ h w t a.tmps) (mx : Bool) (x : Operand) (xs : List Operand) (tys : Array TypeId)
    (ho : o.op = .call { callee := .builtin (if mx then .max else .min), args := (x :: xs).toArray, argTypes := tys }) (k : IntKind) (m r : Int) (hx : opd t (cOpd H x) = .int k m)
    (hr : minMax mx m ((xs.map (cOpd H)).map (opd t)) k = some r) : OpOK P H.glob S B φ h w a o h (.int k r) := by
  have hu := (hx ▸ opd_VR hrel ht x : VR S φ h w (.int k m) (a.eval x)).int_inv
  have := minMax_run (P := P) k _ _ m r mx (opds_VRs hrel ht xs) hr
  refine ok_same hrel (run_callBuiltin _ _ _ ho _ _ fun cs => ?_) (.int _ _)
  have e1 : ((x :: xs).toArray.map a.eval) = (.int k m :: xs.map a.eval).toArray := by simp [hu]
  rw [e1]
  cases mx
  · simp only [Bool.false_eq_true, if_false, builtin, Builtin.min_, Sem.run_bind] at this ⊢
    rw [this]
    rfl
  · simp only [if_true, builtin, Builtin.max_, Sem.run_bind] at this ⊢
    rw [this]
    rfl

end
end Go.Proofs.VmX

/- The small machine's makes, and lengths beyond, against the model's. -/
set_option linter.unusedVariables false
set_option linter.unusedSimpArgs false
set_option linter.unusedSectionVars false
namespace Go.Proofs.VmX
open Go.RowKit
section
variable {P : Program} {H : Hints} {S : Nat → Nat → Prop} {B : Nat} {φ : Phi} {h : Heap} {w : World} {t : List AV} {a : Act} {o : Oper}

theorem flatten_rep {α : Type} (l : List α) (hl : l.length ≠ 0) : ∀ (n i : Nat), i < n * l.length → (List.replicate n l).flatten[i]? = l[i % l.length]? := by
  intro n
  induction n with
  | zero => intro i hi; simp at hi
  | succ n ih =>
    intro i hi
    rw [List.replicate_succ, List.flatten_cons]
    rcases Nat.lt_or_ge i l.length with h1 | h1
    · rw [List.getElem?_append_left h1, Nat.mod_eq_of_lt h1]
    · rw [List.getElem?_append_right h1, ih (i - l.length) (by rw [Nat.add_mul] at hi; omega)]
      rw [Nat.mod_eq_sub_mod h1]

theorem zeros_list (z : Array Value) (n : Nat) (hz : z.size ≠ 0) : ((Array.range (n * z.size)).map (z[· % z.size]!)).toList = (List.replicate n z.toList).flatten := by
  apply List.ext_getElem?
  intro i
  rcases Nat.lt_or_ge i (n * z.size) with h1 | h1
  · rw [flatten_rep z.toList (by simpa using hz) n i (by simpa using h1)]
    have hm : i % z.size < z.size := Nat.mod_lt _ (by omega)
    simp [h1, hm]
  · rw [List.getElem?_eq_none (by simpa using h1), List.getElem?_eq_none (by simp [h1])]

theorem rep_VRs {x : AV} {l : List Value} (hv : VRs S φ h w x.cells l) : ∀ n : Nat, VRs S φ h w ((List.replicate n x).flatMap AV.cells) (List.replicate n l).flatten
  | 0 => .nil
  | n + 1 => by
    rw [List.replicate_succ, List.replicate_succ, List.flatMap_cons, List.flatten_cons]
    exact hv.append (rep_VRs hv n)

theorem zero_VRs {zv : Value} {sz : Nat} (hk : okEl sz (ofVal zv) = true) : VRs S φ h w (ofVal zv).cells zv.cells.toList := box_cells (ofVal_VR zv) hk

theorem wrap64 (n : Nat) (hn : n ≤ 1099511627776) : IntKind.wrap .i64 (n : Int) = n := by
  rw [IntKind.wrap_i64] <;> omega

theorem asNat_val {x : AV} {v : Value} {n : Nat} (hv : VR S φ h w x v) (hn : asNat x = some n) : ∃ k, v = .int k (n : Int) := asNat_inv hv hn

theorem run_asInt (k : IntKind) (n : Int) : (asInt (.int k n)).run P w = .ok n w := by simp [asInt, asIntOf]

theorem run_append_zfits (t1 t2 el : TypeId) (ht1 : P.underlying t1 = some (.slice el)) {j : IntKind} (ht2 : P.underlying t2 = some (.int j)) (hk : known P el = true) {sz bytes : Nat} {z : AV} {i : TypeInfo} {zv : Value} (he : ElOK P el sz bytes z i zv)
    (base : Option Addr) (len cap : Nat) (k : IntKind) (n : Nat) (ty : TypeId) (hn1 : n ≤ 1099511627776) (hn2 : n * bytes ≤ 281474976710656) (hfit : len + n ≤ cap) (w' : World)
    (hst : (match base with | some ad => storeCells (ad.add (len * tsz P el)) (List.replicate n zv.cells.toList).flatten | none => pure () : Sem Unit).run P w = .ok () w') :
    (Builtin.append_ #[t1, t2] ty #[.slice base len cap, .int k n]).run P w = .ok (.slice base (len + n) cap) w' := by
  have hinf : ∀ w1 : World, (typeInfo el).run P w1 = .ok i w1 := fun w1 => by simp [typeInfo, he.info]
  have hzero : ∀ w1 : World, (zeroValue el).run P w1 = .ok zv w1 := fun w1 => by simp [zeroValue, typeInfo, he.info, he.zero]
  have hw := wrap64 n hn1
  have hsz : tsz P el = sz := by simp [tsz, he.info, he.size]
  have hzs : zv.cells.size = sz := ofVal_cells zv (by rw [← he.zvr]; exact he.zok)
  have h1 : ¬ ((n : Int) < 0) := by omega
  have h2 : ¬ ((n : Int) * ((i.bytes : Nat) : Int) > 2 ^ 48) := by
    have e : (n : Int) * ((i.bytes : Nat) : Int) = ((n * i.bytes : Nat) : Int) := by simp
    rw [e, he.bytes]
    have : (2 : Int) ^ 48 = 281474976710656 := by decide
    omega
  have hnn : ((n : Int).toNat) = n := by simp
  simp only [Builtin.append_]
  simp only [List.getElem?_toArray, List.getElem?_cons_zero, List.getElem?_cons_succ, Sem.run_bind, run_under ht1, Result.andThen_ok, run_size hk, run_under ht2, Sem.run_pure, if_true, run_asInt, hw, h1, if_false, hinf, h2, hnn, hfit, Bool.not_true, Bool.false_eq_true]
  by_cases h0 : n * tsz P el = 0
  · have hn0 : n = 0 := by
      rcases Nat.mul_eq_zero.1 h0 with h | h
      · exact h
      · exact absurd h (by rw [hsz]; exact he.pos)
    subst hn0
    simp only [Nat.zero_mul, if_true, Sem.run_pure, Result.andThen_ok]
    cases base with
    | none => simpa using hst
    | some ad => simp only [List.replicate_zero, List.flatten_nil] at hst; simp [hst]
  · simp only [h0, if_false, Sem.run_bind, hzero, Result.andThen_ok, Sem.run_pure]
    have e := zeros_list zv.cells n (by rw [hzs]; exact he.pos)
    cases base with
    | none => simpa using hst
    | some ad => simp only [Builtin.zeroCells, e, Sem.run_bind, hst, Result.andThen_ok, Sem.run_pure]

theorem run_append_zgrows (t1 t2 el : TypeId) (ht1 : P.underlying t1 = some (.slice el)) {j : IntKind} (ht2 : P.underlying t2 = some (.int j)) (hk : known P el = true) {sz bytes : Nat} {z : AV} {i : TypeInfo} {zv : Value} (he : ElOK P el sz bytes z i zv)
    (base : Option Addr) (len cap : Nat) (k : IntKind) (n : Nat) (ty : TypeId) (hn1 : n ≤ 1099511627776) (hn2 : n * bytes ≤ 281474976710656) (hfit : cap < len + n) (hroom : roomOk (len + n) bytes = true) (olds : List Value)
    (ho : (Builtin.firstCells sz len (.slice base len cap)).run P w.drew = .ok olds.toArray w.drew) :
    ∃ newCap rest, len + n ≤ newCap ∧ (Builtin.append_ #[t1, t2] ty #[.slice base len cap, .int k n]).run P w = .ok (.slice (some ⟨w.heap.size, 0, none⟩) (len + n) newCap)
      (w.drew.alloc (.cells (olds ++ (List.replicate n zv.cells.toList).flatten ++ rest).toArray el)) ∧ rest.length = (newCap - (len + n)) * zv.cells.size := by
  have hinf : ∀ w1 : World, (typeInfo el).run P w1 = .ok i w1 := fun w1 => by simp [typeInfo, he.info]
  have hzero : ∀ w1 : World, (zeroValue el).run P w1 = .ok zv w1 := fun w1 => by simp [zeroValue, typeInfo, he.info, he.zero]
  have hw := wrap64 n hn1
  have hsz : tsz P el = sz := by simp [tsz, he.info, he.size]
  have hzs : zv.cells.size = sz := ofVal_cells zv (by rw [← he.zvr]; exact he.zok)
  have h1 : ¬ ((n : Int) < 0) := by omega
  have h2 : ¬ ((n : Int) * ((i.bytes : Nat) : Int) > 2 ^ 48) := by
    have e : (n : Int) * ((i.bytes : Nat) : Int) = ((n * i.bytes : Nat) : Int) := by simp
    rw [e, he.bytes]
    have : (2 : Int) ^ 48 = 281474976710656 := by decide
    omega
  have hnn : ((n : Int).toNat) = n := by simp
  obtain ⟨r1, r2⟩ := roomOk_spec hroom
  have hnf : ¬ (len + n ≤ cap) := by omega
  have hmax : ¬ (((len + n : Nat) : Int) > IntKind.i64.max) := by
    show ¬ (((len + n : Nat) : Int) > 9223372036854775807)
    omega
  have hcap : ¬ (Builtin.nextslicecap (len + n) cap * i.bytes > 2 ^ 48) := by
    have h1 := nextcap_le (len + n) cap hfit
    have h2 := Nat.mul_le_mul_right i.bytes h1
    rw [he.bytes] at h2 ⊢
    have : (2 : Nat) ^ 48 = 281474976710656 := by decide
    omega
  have hch : (choose (.appendCap (len + n) cap el)).run P w = .ok ((Question.appendCap (len + n) cap el).cut (w.tape w.drawn (.appendCap (len + n) cap el))) w.drew := by
    rw [run_choose]
    rfl
  refine ⟨(Question.appendCap (len + n) cap el).cut (w.tape w.drawn (.appendCap (len + n) cap el)),
    (Builtin.zeroCells zv.cells ((Question.appendCap (len + n) cap el).cut (w.tape w.drawn (.appendCap (len + n) cap el)) - (len + n))).toList, by simp [Question.cut], ?_, by simp [Builtin.zeroCells]⟩
  have happ : (if n * tsz P el = 0 then pure #[] else do pure (Builtin.zeroCells (← zeroValue el).cells n) : Sem (Array Value)).run P w.drew = .ok (List.replicate n zv.cells.toList).flatten.toArray w.drew := by
    by_cases h0 : n * tsz P el = 0
    · have hn0 : n = 0 := by
        rcases Nat.mul_eq_zero.1 h0 with h | h
        · exact h
        · exact absurd h (by rw [hsz]; exact he.pos)
      subst hn0
      simp
    · simp only [h0, if_false, Sem.run_bind, hzero, Result.andThen_ok, Sem.run_pure, Builtin.zeroCells]
      have e := zeros_list zv.cells n (by rw [hzs]; exact he.pos)
      rw [← e]
  rw [hsz] at happ
  simp only [Builtin.append_]
  simp only [List.getElem?_toArray, List.getElem?_cons_zero, List.getElem?_cons_succ, Sem.run_bind, run_under ht1, Result.andThen_ok, run_size hk, run_under ht2, Sem.run_pure, if_true, run_asInt, hw, h1, if_false, hinf, h2, hnn, hnf, Bool.not_true, Bool.false_eq_true, hmax, false_and, hcap,
    hch, run_askRoom, hsz, ho, happ, hzero, newRow, run_newObj]
  have e : (olds.toArray ++ (List.replicate n zv.cells.toList).flatten.toArray ++ Builtin.zeroCells zv.cells ((Question.appendCap (len + n) cap el).cut (w.tape w.drawn (.appendCap (len + n) cap el)) - (len + n))) =
    (olds ++ (List.replicate n zv.cells.toList).flatten ++ (Builtin.zeroCells zv.cells ((Question.appendCap (len + n) cap el).cut (w.tape w.drawn (.appendCap (len + n) cap el)) - (len + n))).toList).toArray := by
    apply Array.toList_inj.1
    simp
  rw [e]
  rfl

theorem ok_appendZ (hrel : Rel H.glob S B φ h w) (ht : TR S φ h w t a.tmps) (t1 t2 el : TypeId) (s x : Operand) (ho : o.op = .call { callee := .builtin .append, args := #[s, x], argTypes := #[t1, t2] })
    (ht1 : P.underlying t1 = some (.slice el)) {j : IntKind} (ht2 : P.underlying t2 = some (.int j)) (hk : known P el = true) {z : AV} {i : TypeInfo} {zv : Value} (he : ElOK P el (tsz P el) (tbytes P el) z i zv)
    (h' : Heap) (r : AV) (n : Nat) (hn : asNat (opd t (cOpd H x)) = some n) (hn1 : n ≤ 1099511627776) (hn2 : n * tbytes P el ≤ 281474976710656)
    (happ : appendV el (tsz P el) (tbytes P el) (opd t (cOpd H s)) (List.replicate n z) h = some (r, h')) : OpOK P H.glob S B φ h w a o h' r := by
  obtain ⟨k, hx⟩ := asNat_val (opd_VR hrel ht x) hn
  have hrun : ∀ (w' : World) (v : Value), (Builtin.append_ #[t1, t2] o.type #[a.eval s, a.eval x]).run P w = .ok v w' → (execOp a.eval o).run P w = .ok (.value v) w' := fun w' v hv => run_callBuiltin .append _ _ ho _ _ fun cs => by
    simp only [builtin]
    have e : (#[s, x].map a.eval) = #[a.eval s, a.eval x] := by simp
    rw [e]
    simp only [Sem.run_bind, hv, Result.andThen_ok]
    rfl
  rw [hx] at hrun
  have hzr : z = ofVal zv := he.zvr
  refine ok_appendV hrel el hk he _ _ (opd_VR hrel ht s) (List.replicate n z) (List.replicate n zv.cells.toList).flatten ⟨fun base len cap w' hsv hfit hst => hrun _ _ ?_, fun base len cap olds hsv hgrow hroom hold => ?_⟩
    ⟨fun e hm => by rw [(List.mem_replicate.1 hm).2]; exact he.zok, ?_⟩ h' r happ
  · rw [hsv]
    rw [List.length_replicate] at hfit ⊢
    exact run_append_zfits t1 t2 el ht1 ht2 hk he base len cap k n o.type hn1 hn2 hfit w' hst
  · rw [List.length_replicate] at hgrow hroom ⊢
    obtain ⟨nc, rest, k1, k2, k3⟩ := run_append_zgrows (P := P) (w := w) t1 t2 el ht1 ht2 hk he base len cap k n o.type hn1 hn2 hgrow hroom olds hold
    exact ⟨nc, rest, k1, hrun _ _ (by rw [hsv]; exact k2), k3⟩
  · subst hzr
    exact rep_VRs (zero_VRs he.zok) n

theorem ok_mkSlice (hrel : Rel H.glob S B φ h w) (ht : TR S φ h w t a.tmps) (ty el : TypeId) (x y : Operand) (ho : o.op = .makeSlice ty x y) (hty : P.underlying ty = some (.slice el)) (hk : known P el = true)
    {z : AV} {i : TypeInfo} {zv : Value} (he : ElOK P el (tsz P el) (tbytes P el) z i zv) (l c : Nat) (hl : asNat (opd t (cOpd H x)) = some l) (hc : asNat (opd t (cOpd H y)) = some c) (h1 : l ≤ c) (h2 : c ≤ 1099511627776)
    (h3 : c * tbytes P el ≤ 281474976710656) :
    OpOK P H.glob S B φ h w a o (h ++ [.arr { gen := 0, els := List.replicate c z, sz := tsz P el, el, lock := 0, cap := some c }]) (.osl h.length 0 (tsz P el) 0 l) := by
  obtain ⟨k, hx⟩ := asNat_val (opd_VR hrel ht x) hl
  obtain ⟨k', hy⟩ := asNat_val (opd_VR hrel ht y) hc
  have hzs : zv.cells.size = tsz P el := ofVal_cells zv (by rw [← he.zvr]; exact he.zok)
  have hinf : ∀ w1 : World, (typeInfo el).run P w1 = .ok i w1 := fun w1 => by simp [typeInfo, he.info]
  have hzero : ∀ w1 : World, (zeroValue el).run P w1 = .ok zv w1 := fun w1 => by simp [zeroValue, typeInfo, he.info, he.zero]
  have hrun : (execOp a.eval o).run P w = .ok (.value (.slice (some ⟨w.heap.size, 0, none⟩) l c)) (w.alloc (.cells ((List.replicate c zv.cells.toList).flatten ++ []).toArray el)) := by
    have hb : ¬ ((((i.bytes : Nat) : Int) * (c : Int)) > 2 ^ 48) := by
      have e : ((i.bytes : Nat) : Int) * (c : Int) = ((c * i.bytes : Nat) : Int) := by simp [Int.mul_comm]
      rw [e, he.bytes]
      have : (2 : Int) ^ 48 = 281474976710656 := by decide
      omega
    have g1 : ¬ ((c : Int) < 0) := by omega
    have g2 : ¬ ((l : Int) < 0) := by omega
    have g3 : ¬ ((l : Int) > (c : Int)) := by omega
    have w1 := wrap64 l (by omega)
    have w2 := wrap64 c h2
    simp only [execOp, ho, Instr.makeSlice, Sem.run_bind, run_under hty, Result.andThen_ok, hx, hy, run_asInt, hinf, w1, w2, hb, g1, g2, g3, decide_false, Bool.or_false, Bool.or_self, Bool.false_eq_true, if_false, run_askRoom, run_size hk, Sem.run_pure]
    by_cases h0 : c * tsz P el = 0
    · have hc0 : c = 0 := by
        rcases Nat.mul_eq_zero.1 h0 with h | h
        · exact h
        · exact absurd h he.pos
      subst hc0
      simp [newRow]
      congr 1
      all_goals first | rfl | simp [Array.range]
    · have e := zeros_list zv.cells c (by rw [hzs]; exact he.pos)
      have e2 : ((Array.range (c * tsz P el)).map (zv.cells[· % zv.cells.size]!)) = ((List.replicate c zv.cells.toList).flatten ++ []).toArray := by
        rw [List.append_nil, ← e, hzs]
      simp only [Int.toNat_natCast, h0, if_false, Sem.run_bind, hzero, Result.andThen_ok, Sem.run_pure, newRow, run_newObj]
      rw [e2]
      rfl
  have hzr : z = ofVal zv := he.zvr
  have hv : VRs S φ h w ((List.replicate c z).flatMap AV.cells) (List.replicate c zv.cells.toList).flatten := by subst hzr; exact rep_VRs (zero_VRs he.zok) c
  have hok : ∀ e ∈ List.replicate c z, okEl (tsz P el) e = true := fun e hm => by rw [(List.mem_replicate.1 hm).2]; exact he.zok
  have hlen : ((List.replicate c zv.cells.toList).flatten).length = c * tsz P el := by
    rw [← hv.length, flat_length hok, List.length_replicate]
  obtain ⟨q1, q2, q3⟩ := new_arr hrel (List.replicate c z) (tsz P el) el (some c) (List.replicate c zv.cells.toList).flatten [] hok hv (fun c' hc' => by
    injection hc' with hc'
    subst hc'
    simpa using hlen)
  intro K Q hK
  unfold Oper.wp
  rw [hrun]
  refine hK _ _ _ ⟨q1, q2, .osl _ _ _ _ _ _ _ (by simp) (fun _ _ => Nat.zero_le _) h1 rfl ?_, q3⟩
  intro x hx
  rw [getA_push _ 0 rfl] at hx
  injection hx with hx
  subst hx
  refine ⟨rfl, by simpa using h1, w.heap.size, ((List.replicate c zv.cells.toList).flatten ++ []).toArray, (0, 0), ?_, by simp, ?_, ?_⟩
  · rw [List.getElem?_append_right (by rw [hrel.len]; exact Nat.le_refl _), hrel.len]
    simp
  · show (w.heap.push _)[w.heap.size]? = _
    simp
  · simp only [List.append_nil, List.size_toArray]
    rw [hlen, Nat.zero_add]

theorem ok_capSl (hrel : Rel H.glob S B φ h w) (ht : TR S φ h w t a.tmps) (x : Operand) (ty el : TypeId) (ho : o.op = .call { callee := .builtin .cap, args := #[x], argTypes := #[ty] })
    (hty : P.underlying ty = some (.slice el)) (s : Nat) (xs : List AV) (hx : opd t (cOpd H x) = .sl true s xs) : OpOK P H.glob S B φ h w a o h (.int .i64 xs.length) := by
  have hu := opd_VR hrel ht x
  generalize hu' : a.eval x = u at hu
  rw [hx] at hu
  obtain ⟨ad, c, rfl, hc, _, _⟩ := hu.sl_inv
  have := hc rfl
  subst this
  refine ok_same hrel (run_callBuiltin .cap _ _ ho _ _ fun cs => ?_) (.int _ _)
  simp [builtin, Builtin.cap_, run_under hty, hu', goInt]

theorem ok_capOsl (hrel : Rel H.glob S B φ h w) (ht : TR S φ h w t a.tmps) (x : Operand) (ty el : TypeId) (ho : o.op = .call { callee := .builtin .cap, args := #[x], argTypes := #[ty] })
    (hty : P.underlying ty = some (.slice el)) (id gen s i n : Nat) (hx : opd t (cOpd H x) = .osl id gen s i n) (ob : Arr) (hob : getA h id gen = some ob) (c : Nat) (hc : ob.cap = some c) (hic : i ≤ c) (hs0 : s ≠ 0) :
    OpOK P H.glob S B φ h w a o h (.int .i64 (c - i : Nat)) := by
  have hu := opd_VR hrel ht x
  generalize hu' : a.eval x = u at hu
  rw [hx] at hu
  cases hu with | osl _ _ _ _ _ ad c' hid hg hn hsm ha =>
  obtain ⟨g1, g2, b, cs, fr, g3, rfl, g5, g6⟩ := ha ob hob
  have hoa := hrel.arr id ob b (getA_some hob).1 g3
  obtain ⟨vs, rest, fr2, k1, k2, k3, k4⟩ := hoa.at_
  have hcs : Go.Obj.cells cs ob.el fr = Go.Obj.cells (vs ++ rest).toArray ob.el fr2 := Option.some.inj (g5.symm.trans k1)
  injection hcs with hcs1 _ hcs3
  subst hcs1
  have := k4 c hc
  simp only [List.size_toArray] at g6
  rw [this, g1] at g6
  have hcc : i + c' = c := Nat.eq_of_mul_eq_mul_right (by omega) g6
  have : c - i = c' := by omega
  rw [this]
  refine ok_same hrel (run_callBuiltin .cap _ _ ho _ _ fun cs => ?_) (.int _ _)
  simp [builtin, Builtin.cap_, run_under hty, hu', goInt]

end
end Go.Proofs.VmX

/- The small machine's ranges over texts, and its maps, against the model's. -/
set_option linter.unusedVariables false
set_option linter.unusedSimpArgs false
set_option linter.unusedSectionVars false
namespace Go.Proofs.VmX
open Go.RowKit
section
variable {P : Program} {H : Hints} {S : Nat → Nat → Prop} {B : Nat} {φ : Phi} {h : Heap} {w : World} {t : List AV} {a : Act} {o : Oper}

theorem new_iter (hrel : Rel H.glob S B φ h w) (s0 : List UInt8) (p0 : Nat) :
    Rel H.glob S B (φ ++ [w.heap.size]) (h ++ [.iter s0 p0]) (w.alloc (.stringIter ⟨s0.toArray⟩ p0)) ∧
    Ext S φ h w (φ ++ [w.heap.size]) (h ++ [.iter s0 p0]) (w.alloc (.stringIter ⟨s0.toArray⟩ p0)) ∧
    Below B w (w.alloc (.stringIter ⟨s0.toArray⟩ p0)) := by
  have he := Ext.push hrel (.iter s0 p0) (fun _ => True) (.stringIter ⟨s0.toArray⟩ p0)
  have hl := hrel.len
  have old : ∀ k, k < w.heap.size → (w.alloc (.stringIter ⟨s0.toArray⟩ p0)).heap[k]? = w.heap[k]? := fun k hk => Below.heap_alloc w _ k hk
  have hnew : (w.alloc (.stringIter ⟨s0.toArray⟩ p0)).heap[w.heap.size]? = some (.stringIter ⟨s0.toArray⟩ p0) := by
    show (w.heap.push _)[w.heap.size]? = _
    simp
  refine ⟨⟨by simp [hl], fun i j b hi hj => ?_, fun i b hi => ?_, ?_, hrel.own, fun i x b hi hb => ?_, fun i s p b hi hb => ?_, fun g => (hrel.glob g).mono he⟩, he, (Below.refl B w).alloc hrel.base _⟩
  · rcases Nat.lt_or_ge i φ.length with h1 | h1 <;> rcases Nat.lt_or_ge j φ.length with h2 | h2
    · rw [List.getElem?_append_left h1] at hi
      rw [List.getElem?_append_left h2] at hj
      exact hrel.inj i j b hi hj
    · rw [List.getElem?_append_left h1] at hi
      rw [List.getElem?_append_right h2] at hj
      have := (hrel.low i b hi).2
      have h3 : j - φ.length = 0 := by
        have := (List.getElem?_eq_some_iff.1 hj).1
        simp at this; omega
      rw [h3] at hj; simp at hj; omega
    · rw [List.getElem?_append_right h1] at hi
      rw [List.getElem?_append_left h2] at hj
      have := (hrel.low j b hj).2
      have h3 : i - φ.length = 0 := by
        have := (List.getElem?_eq_some_iff.1 hi).1
        simp at this; omega
      rw [h3] at hi; simp at hi; omega
    · rw [List.getElem?_append_right h1] at hi
      rw [List.getElem?_append_right h2] at hj
      have := (List.getElem?_eq_some_iff.1 hi).1
      have := (List.getElem?_eq_some_iff.1 hj).1
      simp at *
      omega
  · rcases Nat.lt_or_ge i φ.length with h1 | h1
    · rw [List.getElem?_append_left h1] at hi
      have := hrel.low i b hi
      exact ⟨this.1, by simp; omega⟩
    · rw [List.getElem?_append_right h1] at hi
      have := (List.getElem?_eq_some_iff.1 hi).1
      simp at this
      have h3 : i - φ.length = 0 := by omega
      rw [h3] at hi
      simp at hi
      subst hi
      exact ⟨hrel.base, by simp⟩
  · have := hrel.base
    simp
    omega
  · have h1 : i < h.length := by
      rcases Nat.lt_or_ge i h.length with h1 | h1
      · exact h1
      · rw [List.getElem?_append_right h1] at hi
        have h2 := (List.getElem?_eq_some_iff.1 hi).1
        simp at h2
        have h3 : i - h.length = 0 := by omega
        rw [h3] at hi
        simp at hi
    rw [List.getElem?_append_left h1] at hi
    rw [List.getElem?_append_left (by omega)] at hb
    exact (hrel.arr i x b hi hb).mono he (old b (hrel.low i b hb).2)
  · rcases Nat.lt_or_ge i h.length with h1 | h1
    · rw [List.getElem?_append_left h1] at hi
      rw [List.getElem?_append_left (by omega)] at hb
      exact (old b (hrel.low i b hb).2).trans (hrel.itr i s p b hi hb)
    · rw [List.getElem?_append_right h1] at hi
      have h2 := (List.getElem?_eq_some_iff.1 hi).1
      simp at h2
      have h3 : i = h.length := by omega
      subst h3
      simp at hi
      obtain ⟨rfl, rfl⟩ := hi
      rw [List.getElem?_append_right (by omega), hl] at hb
      simp at hb
      subst hb
      exact hnew

theorem ok_rangeS (hrel : Rel H.glob S B φ h w) (ht : TR S φ h w t a.tmps) (ty : TypeId) (x : Operand) (ho : o.op = .range ty x) (hty : P.underlying ty = some .string) (s : List UInt8) (hx : opd t (cOpd H x) = .str s) :
    OpOK P H.glob S B φ h w a o (h ++ [.iter s 0]) (.it h.length) := by
  have hu := (hx ▸ opd_VR hrel ht x : VR S φ h w (.str s) (a.eval x)).str_inv
  obtain ⟨q1, q2, q3⟩ := new_iter hrel s 0
  have hrun : (execOp a.eval o).run P w = .ok (.value (.pointer (some ⟨w.heap.size, 0, none⟩))) (w.alloc (.stringIter ⟨s.toArray⟩ 0)) := by
    simp [execOp, ho, Instr.range, run_under hty, hu]
  intro K Q hK
  unfold Oper.wp
  rw [hrun]
  refine hK _ _ _ ⟨q1, q2, .it _ w.heap.size s 0 ?_ (by simp), q3⟩
  rw [List.getElem?_append_right (by rw [hrel.len]; exact Nat.le_refl _), hrel.len]
  simp

theorem nextV_over (id : Nat) (s : List UInt8) (p : Nat) (hi : h[id]? = some (.iter s p)) (hp : ¬ p < s.length) : nextV (.it id) h = some (.tup [.bool false], h) := by
  simp [nextV, hi, hp]

/-- The iterator goes on. -/
theorem upd_iter {G : Nat → AV} (hrel : Rel G S B φ h w) {id b : Nat} {s : List UInt8} {p p' : Nat} (hi : h[id]? = some (.iter s p)) (hb : φ[id]? = some b) (w' : World)
    (hsame : ∀ k, k ≠ b → w'.heap[k]? = w.heap[k]?) (hsz : w'.heap.size = w.heap.size) (hat : w'.heap[b]? = some (.stringIter ⟨s.toArray⟩ p')) (hos : w'.os = w.os) (htape : w'.tape = w.tape) (hout : w'.output = w.output) :
    Rel G S B φ (h.set id (.iter s p')) w' ∧ Ext S φ h w φ (h.set id (.iter s p')) w' ∧ Below B w w' := by
  have hidlt := (List.getElem?_eq_some_iff.1 hi).1
  have hw := hrel.itr id s p b hi hb
  have hlen : (h.set id (.iter s p')).length = h.length := by simp
  have hget : ∀ i, i ≠ id → (h.set id (.iter s p'))[i]? = h[i]? := fun i hne => by rw [List.getElem?_set_ne (Ne.symm hne)]
  have hself : (h.set id (.iter s p'))[id]? = some (.iter s p') := by simp [hidlt]
  have hcell : ∀ (q : Addr) v, w.cell? q = some v → w'.cell? q = some v := by
    intro q v hq
    have hne : q.block ≠ b := by
      intro he
      simp only [World.cell?, he, hw] at hq
      cases hq
    simp only [World.cell?, hsame q.block hne] at hq ⊢
    exact hq
  have he : Ext S φ h w φ (h.set id (.iter s p')) w' := by
    refine ⟨by simp, fun i x' hlt hx' => ?_, fun b' cs el fr hc => ?_, fun b' off v hc hs => ⟨hcell _ _ hc, hs.1, fun i x hpi hx => ?_⟩, fun r es c hr => ?_, fun i b' s' p'' hi' hb' => ⟨?_, hb'⟩⟩
    · by_cases h1 : i = id
      · subst h1
        rw [hself] at hx'
        cases hx'
      · rw [hget i h1] at hx'
        exact ⟨x', hx', Nat.le_refl _, fun _ => ⟨rfl, rfl, rfl, rfl⟩⟩
    · have hne : b' ≠ b := fun he => by subst he; rw [hw] at hc; cases hc
      exact ⟨cs, fr, (hsame b' hne).trans hc, rfl⟩
    · by_cases h1 : i = id
      · subst h1
        rw [hself] at hx
        cases hx
      · rw [hget i h1] at hx
        exact hs.2 i x hpi hx
    · have hne : r ≠ b := fun he => by subst he; rw [hw] at hr; cases hr
      exact (hsame r hne).trans hr
    · by_cases h1 : i = id
      · subst h1
        exact ⟨s, p', hself⟩
      · exact ⟨s', p'', (hget i h1).trans hi'⟩
  refine ⟨⟨by rw [hlen]; exact hrel.len, hrel.inj, fun i b' hi' => by rw [hsz]; exact hrel.low i b' hi', by rw [hsz]; exact hrel.base, hrel.own, fun i x b' hi' hb' => ?_, fun i s' p'' b' hi' hb' => ?_, fun g => (hrel.glob g).mono he⟩, he, ?_⟩
  · by_cases h1 : i = id
    · subst h1
      rw [hself] at hi'
      cases hi'
    · rw [hget i h1] at hi'
      have hne : b' ≠ b := fun he2 => h1 (hrel.inj i id b' hb' (he2 ▸ hb))
      exact (hrel.arr i x b' hi' hb').mono he (hsame b' hne)
  · by_cases h1 : i = id
    · subst h1
      rw [hself] at hi'
      injection hi' with hi'
      injection hi' with h2 h3
      subst h2
      subst h3
      rw [hb] at hb'
      injection hb' with hb'
      subst hb'
      exact hat
    · rw [hget i h1] at hi'
      have hne : b' ≠ b := fun he2 => h1 (hrel.inj i id b' hb' (he2 ▸ hb))
      exact (hsame b' hne).trans (hrel.itr i s' p'' b' hi' hb')
  · have hlow := (hrel.low id b hb).1
    exact ⟨hos, htape, hout, by omega, fun k hk => hsame k (by omega)⟩

theorem ok_nextS (hrel : Rel H.glob S B φ h w) (ht : TR S φ h w t a.tmps) (x : Operand) (ho : o.op = .next x true) (h' : Heap) (r : AV) (hr : nextV (opd t (cOpd H x)) h = some (r, h')) :
    OpOK P H.glob S B φ h w a o h' r := by
  have hu := opd_VR hrel ht x
  generalize hX : opd t (cOpd H x) = v at hr hu
  generalize hU : a.eval x = u at hu
  cases v <;> simp only [nextV] at hr <;> try (cases hr; done)
  rename_i id
  cases hu with | it _ b s p hb hi =>
  rw [hi] at hr
  simp only at hr
  have hw := hrel.itr id s p b hi hb
  have hgo : (getObj b).run P w = .ok (.stringIter ⟨s.toArray⟩ p) w := by simp only [getObj, Sem.run, hw]
  have hso : ∀ q, (setObj b q).run P w = .ok () { w with heap := w.heap.setIfInBounds b q } := fun q => by simp only [setObj, Sem.run, hw]
  split at hr
  · rename_i hlt
    injection hr with hr
    simp only [Prod.mk.injEq] at hr
    obtain ⟨rfl, rfl⟩ := hr
    have hlt2 : p < (ByteArray.mk s.toArray).size := by rw [bytes_size]; exact hlt
    let w' : World := { w with heap := w.heap.setIfInBounds b (.stringIter ⟨s.toArray⟩ (p + (Utf8.decode ⟨s.toArray⟩ p).2)) }
    have hbl := (hrel.low id b hb).2
    obtain ⟨q1, q2, q3⟩ := upd_iter (p' := p + (Utf8.decode ⟨s.toArray⟩ p).2) hrel hi hb w' (fun k hk => by
      show (w.heap.setIfInBounds b _)[k]? = _
      simp [Ne.symm hk]) (by show (w.heap.setIfInBounds b _).size = _; simp) (by
      show (w.heap.setIfInBounds b _)[b]? = _
      simp [hbl]) rfl rfl rfl
    have hrun : (execOp a.eval o).run P w = .ok (.value (.tuple #[.bool true, .int .i64 p, .int .i32 (Utf8.decode ⟨s.toArray⟩ p).1])) w' := by
      simp only [execOp, ho, hU, Instr.next, Sem.run_bind, hgo, Result.andThen_ok, hlt2, if_true, Sem.run_pure, hso, goInt]
      rfl
    intro K Q hK
    unfold Oper.wp
    rw [hrun]
    refine hK _ _ _ ⟨q1, q2, .tup _ [.bool true, .int .i64 p, .int .i32 (Utf8.decode ⟨s.toArray⟩ p).1] (.cons _ _ _ _ (.bool _) (.cons _ _ _ _ (.int _ _) (.cons _ _ _ _ (.int _ _) .nil))), q3⟩
  · rename_i hlt
    injection hr with hr
    simp only [Prod.mk.injEq] at hr
    obtain ⟨rfl, rfl⟩ := hr
    have hlt2 : ¬ p < (ByteArray.mk s.toArray).size := by rw [bytes_size]; exact hlt
    refine ok_same hrel (v := .tuple #[.bool false]) ?_ (.tup [.bool false] [.bool false] (.cons _ _ _ _ (.bool _) .nil))
    simp only [execOp, ho, hU, Instr.next, Sem.run_bind, hgo, Result.andThen_ok, hlt2, if_false, Sem.run_pure]

/-! Looking up. -/
theorem keyIs_same {k b : AV} {u v : Value} {r : Bool} (hu : VR S φ h w k u) (hv : VR S φ h w b v) (hk : keyIs k b = some r) (kind : TypeDesc) (hkind : (∃ j, kind = .int j ∧ ∃ i n, k = .int i n) ∨ (kind = .string ∧ ∃ s, k = .str s)) :
    Instr.sameNow kind u v = some r := by
  cases k <;> cases b <;> simp only [keyIs] at hk <;> try (cases hk; done)
  · rename_i j m j' n
    have h1 := hu.int_inv
    have h2 := hv.int_inv
    subst h1
    subst h2
    rcases hkind with ⟨j, rfl, _⟩ | ⟨_, s, hs⟩
    · simpa [Instr.sameNow] using hk
    · cases hs
  · rename_i m n
    have h1 := hu.str_inv
    have h2 := hv.str_inv
    subst h1
    subst h2
    rcases hkind with ⟨_, _, i, n, hs⟩ | ⟨rfl, _⟩
    · cases hs
    · injection hk with hk
      subst hk
      simp only [Instr.sameNow, beq_toListBytes]
      simp

theorem findK_now {k : AV} {u : Value} (hu : VR S φ h w k u) (kind : TypeDesc) (hkind : (∃ j, kind = .int j ∧ ∃ i n, k = .int i n) ∨ (kind = .string ∧ ∃ s, k = .str s)) :
    ∀ (es : List MapEntry) (ks vs : List AV) (i : Nat) (r : Option AV), VRs S φ h w ks (es.map (·.key)) → VRs S φ h w vs (es.map (·.val)) → findK k ks vs = some r →
      ∃ q, Instr.findNow kind u es i = some q ∧ (r = none → q = none) ∧ ∀ x, r = some x → ∃ j v, q = some (j, v) ∧ VR S φ h w x v := by
  intro es
  induction es with
  | nil =>
    intro ks vs i r h1 h2 hf
    cases h1
    cases h2
    simp only [findK] at hf
    injection hf with hf
    subst hf
    exact ⟨none, rfl, fun _ => rfl, fun x hx => by cases hx⟩
  | cons e es ih =>
    intro ks vs i r h1 h2 hf
    cases h1 with | cons a _ az _ g1 g2 =>
    cases h2 with | cons c _ cs _ g3 g4 =>
    simp only [findK, Option.bind_eq_some_iff] at hf
    obtain ⟨b, hb, hf⟩ := hf
    have hs := keyIs_same hu g1 hb kind hkind
    cases b with
    | true =>
      simp only [if_true] at hf
      injection hf with hf
      subst hf
      refine ⟨some (i, e.val), by simp [Instr.findNow, hs], ?_, ?_⟩
      · intro hh; cases hh
      · intro x hx; injection hx with hx; subst hx; exact ⟨i, e.val, rfl, g3⟩
    | false =>
      simp only [Bool.false_eq_true, if_false] at hf
      obtain ⟨q, q1, q2, q3⟩ := ih az cs (i + 1) r g2 g4 hf
      exact ⟨q, by simp [Instr.findNow, hs, q1], q2, q3⟩

theorem same_of_keyIs {k a : AV} (hk : keyIs k a = some true) : k = a := by
  cases k <;> cases a <;> simp only [keyIs, reduceCtorEq] at hk
  · split at hk
    · rename_i h1; simp only [Option.some.injEq, beq_iff_eq] at hk; subst h1; subst hk; rfl
    · cases hk
  · simp only [Option.some.injEq, beq_iff_eq] at hk; subst hk; rfl

/-- Where one key, and no other, is the one asked for. -/
theorem findNow_perm {kind : TypeDesc} {u : Value} : ∀ {es es0 : List MapEntry}, es.Perm es0 → (∀ e ∈ es, Instr.sameNow kind u e.key = some false) → ∀ i, Instr.findNow kind u es0 i = some none := by
  intro es es0 hp hall
  have hall0 : ∀ e ∈ es0, Instr.sameNow kind u e.key = some false := fun e he => hall e (hp.mem_iff.2 he)
  clear hp hall
  induction es0 with
  | nil => intro i; rfl
  | cons e l ih =>
    intro i
    simp only [Instr.findNow, hall0 e (by simp)]
    exact ih (fun e he => hall0 e (by simp [he])) (i + 1)
theorem findNow_one {kind : TypeDesc} {u : Value} {A B es0 : List MapEntry} {e : MapEntry} (hp : (A ++ e :: B).Perm es0) (he : Instr.sameNow kind u e.key = some true)
    (hall : ∀ x ∈ A ++ B, Instr.sameNow kind u x.key = some false) : ∀ i, ∃ j, Instr.findNow kind u es0 i = some (some (j, e.val)) := by
  have hm : e ∈ es0 := hp.mem_iff.1 (by simp)
  obtain ⟨C, D, rfl⟩ := List.append_of_mem hm
  have hp2 : (A ++ B).Perm (C ++ D) := by
    have h1 : (e :: (A ++ B)).Perm (e :: (C ++ D)) := List.perm_middle.symm.trans (hp.trans List.perm_middle)
    exact (List.perm_cons e).1 h1
  have hC : ∀ x ∈ C, Instr.sameNow kind u x.key = some false := fun x hx => hall x (hp2.mem_iff.2 (by simp [hx]))
  clear hp hp2 hm hall
  induction C with
  | nil => intro i; exact ⟨i, by simp only [List.nil_append, Instr.findNow, he]⟩
  | cons c C ih =>
    intro i
    obtain ⟨j, hj⟩ := ih (fun x hx => hC x (by simp [hx])) (i + 1)
    exact ⟨j, by simp only [List.cons_append, Instr.findNow, hC c (by simp), hj]⟩
theorem findK_apart {k : AV} {u : Value} (hu : VR S φ h w k u) (kind : TypeDesc) (hkind : (∃ j, kind = .int j ∧ ∃ i n, k = .int i n) ∨ (kind = .string ∧ ∃ s, k = .str s)) :
    ∀ (es : List MapEntry) (ks vs : List AV) (r : Option AV), VRs S φ h w ks (es.map (·.key)) → VRs S φ h w vs (es.map (·.val)) → keysApart ks = true → findK k ks vs = some r →
      (r = none ∧ ∀ e ∈ es, Instr.sameNow kind u e.key = some false) ∨
      ∃ A e B x, es = A ++ e :: B ∧ r = some x ∧ VR S φ h w x e.val ∧ Instr.sameNow kind u e.key = some true ∧ ∀ y ∈ A ++ B, Instr.sameNow kind u y.key = some false := by
  intro es
  induction es with
  | nil =>
    intro ks vs r h1 h2 _ hf
    cases h1
    cases h2
    simp only [findK] at hf
    injection hf with hf
    exact .inl ⟨hf.symm, by simp⟩
  | cons e es ih =>
    intro ks vs r h1 h2 hap hf
    cases h1 with | cons a _ az _ g1 g2 =>
    cases h2 with | cons c _ cs _ g3 g4 =>
    simp only [keysApart, Bool.and_eq_true] at hap
    simp only [findK, Option.bind_eq_some_iff] at hf
    obtain ⟨b, hb, hf⟩ := hf
    have hs := keyIs_same hu g1 hb kind hkind
    cases b with
    | true =>
      simp only [if_true] at hf
      injection hf with hf
      subst hf
      refine .inr ⟨[], e, es, c, rfl, rfl, g3, by simpa using hs, fun y hy => ?_⟩
      obtain rfl := same_of_keyIs hb
      rw [List.nil_append] at hy
      have hall := List.all_eq_true.1 hap.1.2
      obtain ⟨n, hn, rfl⟩ := List.getElem_of_mem hy
      have hlen := g2.length
      simp only [List.length_map] at hlen
      obtain ⟨v, hv1, hv2⟩ := g2.get n az[n] (List.getElem?_eq_getElem (by omega))
      rw [List.getElem?_map, List.getElem?_eq_getElem hn, Option.map_some, Option.some.injEq] at hv1
      subst hv1
      have hk := hall az[n] (List.getElem_mem _)
      have hk' : keyIs k az[n] = some false := by
        split at hk
        · assumption
        · cases hk
      have := keyIs_same hu hv2 hk' kind hkind
      simpa using this
    | false =>
      simp only [Bool.false_eq_true, if_false] at hf
      rcases ih az cs r g2 g4 hap.2 hf with ⟨h1, h2⟩ | ⟨A, e', B, x, h1, h2, h3, h4, h5⟩
      · refine .inl ⟨h1, fun y hy => ?_⟩
        rcases List.mem_cons.1 hy with rfl | hy
        · simpa using hs
        · exact h2 y hy
      · refine .inr ⟨e :: A, e', B, x, by rw [h1]; rfl, h2, h3, h4, fun y hy => ?_⟩
        rcases List.mem_cons.1 (by simpa using hy : y ∈ e :: (A ++ B)) with rfl | hy
        · simpa using hs
        · exact h5 y hy

theorem ok_lookup (hrel : Rel H.glob S B φ h w) (ht : TR S φ h w t a.tmps) (ty kt el : TypeId) (m k : Operand) (ok : Bool) (ho : o.op = .lookup ty m k ok) (hty : P.underlying ty = some (.map kt el)) (kd : TypeDesc) (hkt : P.underlying kt = some kd)
    (z : AV) (hz : tzero P el = some z) (ks vs : List AV) (hm : opd t (cOpd H m) = .mp ks vs) (r : Option AV) (hr : findK (opd t (cOpd H k)) ks vs = some r)
    (hkd : (∃ j, kd = .int j ∧ ∃ i n, opd t (cOpd H k) = .int i n) ∨ (kd = .string ∧ ∃ s, opd t (cOpd H k) = .str s)) :
    OpOK P H.glob S B φ h w a o h (match (match r with | some v => (v, true) | none => (z, false) : AV × Bool) with | (v, b) => if ok then .tup [v, .bool b] else v) := by
  obtain ⟨i, zv, z1, z2, rfl⟩ := tzero_spec hz
  have hzero : (zeroValue el).run P w = .ok zv w := by simp [zeroValue, typeInfo, z1, z2]
  have hu := opd_VR hrel ht m
  rw [hm] at hu
  generalize hU : a.eval m = u at hu
  cases hu with | mp _ _ rr es1 es clock hrr hp hd h1 h2 =>
  have hkv := opd_VR hrel ht k
  obtain ⟨q, q1, q2, q3⟩ : ∃ q, Instr.findNow kd (a.eval k) es 0 = some q ∧ (r = none → q = none) ∧ ∀ x, r = some x → ∃ j v, q = some (j, v) ∧ VR S φ h w x v := by
    rcases findK_apart hkv kd hkd es1 ks vs r h1 h2 hd hr with ⟨g1, g2⟩ | ⟨A, e, B, x, rfl, g2, g3, g4, g5⟩
    · exact ⟨none, findNow_perm hp g2 0, fun _ => rfl, fun x hx => by rw [g1] at hx; cases hx⟩
    · obtain ⟨j, hj⟩ := findNow_one hp g4 g5 0
      exact ⟨_, hj, (fun e0 => by rw [g2] at e0; cases e0), (fun y hy => by rw [g2] at hy; cases hy; exact ⟨j, e.val, rfl, g3⟩)⟩
  have hgo : (getObj rr).run P w = .ok (.map es.toArray clock) w := by simp only [getObj, Sem.run, hrr]
  have hck : ∀ b, (Instr.checkKey b 10000 kt (a.eval k)).run P w = .ok () w := by
    intro b
    unfold Instr.checkKey
    simp only [Sem.run_bind, run_under hkt, Result.andThen_ok]
    rcases hkd with ⟨j, rfl, _⟩ | ⟨rfl, _⟩ <;> rfl
  have hfk : (Instr.findKey kt (a.eval k) es).run P w = .ok q w := by
    simp only [Instr.findKey, Sem.run_bind, run_under hkt, Result.andThen_ok, q1, Sem.run_pure]
  cases r with
  | none =>
    have := q2 rfl
    subst this
    refine ok_same hrel (v := if ok then .tuple #[zv, .bool false] else zv) ?_ ?_
    · simp only [execOp, ho, Instr.lookup, hU, Sem.run_bind, run_under hty, Result.andThen_ok, hgo, Sem.run_pure, hck, hfk, hzero]
    · cases ok
      · exact ofVal_VR zv
      · exact .tup _ [zv, .bool false] (.cons _ _ _ _ (ofVal_VR zv) (.cons _ _ _ _ (.bool _) .nil))
  | some x =>
    obtain ⟨j, v, rfl, hv⟩ := q3 x rfl
    refine ok_same hrel (v := if ok then .tuple #[v, .bool true] else v) ?_ ?_
    · simp only [execOp, ho, Instr.lookup, hU, Sem.run_bind, run_under hty, Result.andThen_ok, hgo, Sem.run_pure, hck, hfk]
    · cases ok
      · exact hv
      · exact .tup _ [v, .bool true] (.cons _ _ _ _ hv (.cons _ _ _ _ (.bool _) .nil))

end
end Go.Proofs.VmX

/- The small machine's comparisons of structs, and of slices with nil; a text's bytes; against the model's. -/
set_option linter.unusedVariables false
set_option linter.unusedSimpArgs false
set_option linter.unusedSectionVars false
namespace Go.Proofs.VmX
open Go.RowKit
section
variable {P : Program} {H : Hints} {S : Nat → Nat → Prop} {B : Nat} {φ : Phi} {h : Heap} {w : World} {t : List AV} {a : Act} {o : Oper}

theorem eqKind_spec {ty : TypeId} {k : Nat} (hk : eqKind P ty = some k) : known P ty = true ∧ ((k = 1 ∧ P.underlying ty = some .bool) ∨ (k = 2 ∧ ∃ i, P.underlying ty = some (.int i)) ∨ (k = 3 ∧ P.underlying ty = some .string)) := by
  unfold eqKind at hk
  by_cases h1 : known P ty = true
  · rw [if_pos h1] at hk
    refine ⟨h1, ?_⟩
    split at hk
    · rename_i h2; injection hk with hk; exact .inl ⟨hk.symm, h2⟩
    · rename_i i h2; injection hk with hk; exact .inr (.inl ⟨hk.symm, i, h2⟩)
    · rename_i h2; injection hk with hk; exact .inr (.inr ⟨hk.symm, h2⟩)
    · cases hk
  · rw [if_neg h1] at hk; cases hk

theorem eqCell_run {ty : TypeId} {k : Nat} (hk : eqKind P ty = some k) {x y : AV} {u v : Value} (hu : VR S φ h w x u) (hv : VR S φ h w y v) {r : Bool} (hr : eqCell k x y = some r) (d : Nat) :
    (Op.equalIn (d + 1) ty u v).run P w = .ok r w := by
  obtain ⟨_, hk⟩ := eqKind_spec hk
  cases x <;> cases y <;> simp only [eqCell] at hr <;> try (cases hr; done)
  · have := hu.bool_inv; subst this
    have := hv.bool_inv; subst this
    split at hr
    · rename_i h1
      injection hr with hr; subst hr
      rcases hk with ⟨_, hd⟩ | ⟨h2, _⟩ | ⟨h2, _⟩
      · simp [Op.equalIn, run_under hd]
      · omega
      · omega
    · cases hr
  · have := hu.int_inv; subst this
    have := hv.int_inv; subst this
    split at hr
    · rename_i h1
      injection hr with hr; subst hr
      rcases hk with ⟨h2, _⟩ | ⟨_, i, hd⟩ | ⟨h2, _⟩
      · omega
      · simp [Op.equalIn, run_under hd, h1.2]
      · omega
    · cases hr
  · have := hu.str_inv; subst this
    have := hv.str_inv; subst this
    split at hr
    · rename_i h1
      injection hr with hr; subst hr
      rcases hk with ⟨h2, _⟩ | ⟨h2, _⟩ | ⟨_, hd⟩
      · omega
      · omega
      · simp only [Op.equalIn, run_under hd, Sem.run_bind, Result.andThen_ok, Sem.run_pure, beq_toListBytes]
        simp
    · cases hr

theorem eqFields_run (xs ys : List Value) (d : Nat) : ∀ (fs : List Field) (i : Nat) (ks : List Nat) (az bs : List AV) (r : Bool), eqKinds P fs i = some ks → VRs S φ h w az (xs.drop i) → VRs S φ h w bs (ys.drop i) → eqCells ks az bs = some r →
    (Op.eqFields (d + 1) xs.toArray ys.toArray fs).run P w = .ok r w := by
  intro fs
  induction fs with
  | nil =>
    intro i ks az bs r hk h1 h2 hr
    simp only [eqKinds] at hk
    injection hk with hk
    subst hk
    unfold eqCells at hr
    split at hr
    · injection hr with hr; subst hr; simp [Op.eqFields]
    · rename_i h3; cases h3
    · cases hr
  | cons f fs ih =>
    intro i ks az bs r hk h1 h2 hr
    simp only [eqKinds] at hk
    split at hk
    rotate_left
    · cases hk
    rename_i hc
    simp only [Bool.and_eq_true, beq_iff_eq, bne_iff_ne, ne_eq] at hc
    obtain ⟨hoff, hname⟩ := hc
    simp only [Option.bind_eq_some_iff, Option.map_eq_some_iff] at hk
    obtain ⟨k, hk1, ks', hk2, rfl⟩ := hk
    cases az with
    | nil => simp [eqCells] at hr
    | cons a az =>
      cases bs with
      | nil => simp [eqCells] at hr
      | cons b bs =>
        simp only [eqCells, Option.bind_eq_some_iff] at hr
        obtain ⟨q, hq, hr⟩ := hr
        generalize hX : xs.drop i = X at h1
        generalize hY : ys.drop i = Y at h2
        cases h1 with | cons _ u _ us g1 g2 =>
        cases h2 with | cons _ v _ vs g3 g4 =>
        have hxi : xs[i]? = some u := by
          have := congrArg (·[0]?) hX
          simpa using this
        have hyi : ys[i]? = some v := by
          have := congrArg (·[0]?) hY
          simpa using this
        have hxd : xs.drop (i + 1) = us := by rw [← List.tail_drop, hX]; rfl
        have hyd : ys.drop (i + 1) = vs := by rw [← List.tail_drop, hY]; rfl
        obtain ⟨hkn, hkk⟩ := eqKind_spec hk1
        have hagg : tagg P f.type = false := by
          unfold tagg
          rcases hkk with ⟨_, hd⟩ | ⟨_, _, hd⟩ | ⟨_, hd⟩ <;> rw [hd]
        have p1 : (part f.type xs.toArray f.offset).run P w = .ok u w := by
          simp only [part, Sem.run_bind, run_agg hkn, Result.andThen_ok, hagg, Bool.false_eq_true, if_false, hoff]
          simp [hxi]
        have p2 : (part f.type ys.toArray f.offset).run P w = .ok v w := by
          simp only [part, Sem.run_bind, run_agg hkn, Result.andThen_ok, hagg, Bool.false_eq_true, if_false, hoff]
          simp [hyi]
        have e := eqCell_run hk1 g1 g3 hq d
        have hname' : f.name ≠ "_" := hname
        simp only [Op.eqFields, hname', ne_eq, not_false_eq_true, if_true, Sem.run_bind, p1, p2, e, Result.andThen_ok]
        cases q with
        | true =>
          simp only [if_true] at hr
          simp only [Bool.not_true, Bool.false_eq_true, if_false]
          exact ih (i + 1) ks' az bs r hk2 (by rw [hxd]; exact g2) (by rw [hyd]; exact g4) hr
        | false =>
          simp only [Bool.false_eq_true, if_false] at hr
          injection hr with hr
          subst hr
          simp

theorem ok_eqs (hrel : Rel H.glob S B φ h w) (ht : TR S φ h w t a.tmps) (neg : Bool) (ty yty : TypeId) (x y : Operand) (ho : o.op = .binOp (if neg then .neq else .eql) ty x y yty) (ks : List Nat) (hks : eqType P ty = some ks)
    (az bs : List AV) (hx : opd t (cOpd H x) = .agg az) (hy : opd t (cOpd H y) = .agg bs) (r : Bool) (hr : eqCells ks az bs = some r) : OpOK P H.glob S B φ h w a o h (.bool (if neg then !r else r)) := by
  obtain ⟨us, hu, h1⟩ := (hx ▸ opd_VR hrel ht x : VR S φ h w (.agg az) (a.eval x)).agg_inv
  obtain ⟨vs, hv, h2⟩ := (hy ▸ opd_VR hrel ht y : VR S φ h w (.agg bs) (a.eval y)).agg_inv
  unfold eqType at hks
  cases hd : P.underlying ty with
  | none => rw [hd] at hks; cases hks
  | some d =>
    rw [hd] at hks
    cases d <;> simp only at hks <;> try (cases hks; done)
    rename_i fields
    split at hks
    rotate_left
    · cases hks
    rename_i hc
    simp only [Bool.and_eq_true, Bool.not_eq_true'] at hc
    have hf : P.fieldsOf ty = fields := by simp [Program.fieldsOf, hd]
    have key : ∀ n, (Op.equalIn (n + 2) ty (.agg us.toArray) (.agg vs.toArray)).run P w = .ok r w := fun n => by
      rw [run_equalIn_struct w (n + 1) ty _ _ (by rw [hf]; exact hd) hc.1, hf]
      exact eqFields_run us vs n fields.toList 0 ks az bs r hks (by simpa using h1) (by simpa using h2) hr
    have heq : (Op.equal ty (.agg us.toArray) (.agg vs.toArray)).run P w = .ok r w := key 9998
    have hg : ∀ op, (eqGuard op ty x y (.agg us.toArray) (.agg vs.toArray)).run P w = .ok () w := fun op => by
      unfold eqGuard
      cases op <;> simp [hc.2]
    refine ok_same hrel (v := .bool (if neg then !r else r)) ?_ (.bool _)
    cases neg
    · simp only [Bool.false_eq_true, if_false] at ho ⊢
      simp only [execOp, ho, hu, hv, Sem.run_bind, hg, Result.andThen_ok, binOp, heq, Sem.run_pure]
    · simp only [if_true] at ho ⊢
      simp only [execOp, ho, hu, hv, Sem.run_bind, hg, Result.andThen_ok, binOp, heq, Sem.run_pure]

/-! Slices, and nil. -/
theorem ok_nil (hrel : Rel H.glob S B φ h w) (ht : TR S φ h w t a.tmps) (op : BinOp) (ty yty el : TypeId) (x y : Operand) (ho : o.op = .binOp op ty x y yty) (hty : P.underlying ty = some (.slice el)) (e : Bool)
    (hy : opd t (cOpd H y) = .sl e 0 []) (b : Bool) (hx : (∃ e' s xs, opd t (cOpd H x) = .sl e' s xs ∧ b = (s == 0 && xs.isEmpty)) ∨ (∃ id gen s i n, opd t (cOpd H x) = .osl id gen s i n ∧ b = false)) (r : AV) (hr : eqB op b = some r) :
    OpOK P H.glob S B φ h w a o h r := by
  have hv := opd_VR hrel ht y
  rw [hy] at hv
  have hnil : ∃ n c, a.eval y = .slice none n c := by
    obtain ⟨ad, c, hu, _⟩ := hv.sl_inv
    rw [hu] at hv
    have := hv.sl_nil.1 rfl
    subst this
    exact ⟨_, c, hu⟩
  obtain ⟨n0, c0, hyv⟩ := hnil
  have hu := opd_VR hrel ht x
  have hxv : ∃ ad n c, a.eval x = .slice ad n c ∧ ad.isNone = b := by
    rcases hx with ⟨e', s, xs, hx, rfl⟩ | ⟨id, gen, s, i, n, hx, rfl⟩
    · rw [hx] at hu
      obtain ⟨ad, c, huv, _, _, hne⟩ := hu.sl_inv
      refine ⟨ad, _, c, huv, ?_⟩
      by_cases h0 : xs = []
      · subst h0
        rw [huv] at hu
        have := hu.sl_nil
        cases ad with
        | none => simp [this.2 rfl]
        | some q =>
          have hs : s ≠ 0 := fun hs => by have := this.1 hs; cases this
          simp [hs]
      · obtain ⟨b', off, rfl, _⟩ := hne h0
        simp [h0]
    · rw [hx] at hu
      generalize hX : a.eval x = X at hu
      cases hu with | osl _ _ _ _ _ ad c hid hg hn hs ha =>
      refine ⟨ad, n, c, rfl, ?_⟩
      cases ad
      · cases hs
      · rfl
  obtain ⟨ad, n, c, hxv, hb⟩ := hxv
  have key : ∀ d, (Op.equalIn (d + 1) ty (.slice ad n c) (.slice none n0 c0)).run P w = .ok b w := fun d => by
    subst hb
    cases ad <;> simp [Op.equalIn, run_under hty]
  obtain ⟨z, hz, hzr⟩ := eq_run (S := S) (φ := φ) (h := h) (P := P) (w := w) op ty (.slice ad n c) (.slice none n0 c0) b r hr (by simp) (by simp) (by simp) (by simp) (key 9999)
  refine ok_same hrel (v := z) ?_ hzr
  have hg : (eqGuard op ty x y (.slice ad n c) (.slice none n0 c0)).run P w = .ok () w := run_eqGuard_plain op ty x y _ _ (by simp) (by simp)
  simp only [execOp, ho, hxv, hyv, Sem.run_bind, hg, Result.andThen_ok, hz, Sem.run_pure]

/-! A text's bytes. -/
theorem push_modify {α : Type} (xs : Array α) (x : α) (f : α → α) : (xs.push x).modify xs.size f = xs.push (f x) := by
  apply Array.ext_getElem?
  intro i
  rw [Array.getElem?_modify, Array.getElem?_push, Array.getElem?_push]
  by_cases h1 : i = xs.size
  · simp [h1]
  · rw [if_neg (fun h => h1 h.symm), if_neg h1, if_neg h1]

theorem ok_strBytes (hrel : Rel H.glob S B φ h w) (ht : TR S φ h w t a.tmps) (s d e : TypeId) (x : Operand) (ho : o.op = .convert s d x) (hs : P.underlying s = some .string) (hd : P.underlying d = some (.slice e)) (he : P.underlying e = some (.int .u8)) (l : List UInt8)
    (hx : opd t (cOpd H x) = .str l) : OpOK P H.glob S B φ h w a o h (.sl false 1 (l.map byteAV)) := by
  have hu := (hx ▸ opd_VR hrel ht x : VR S φ h w (.str l) (a.eval x)).str_inv
  have hch : (choose (.appendCap l.length 0 e)).run P w = .ok ((Question.appendCap l.length 0 e).cut (w.tape w.drawn (.appendCap l.length 0 e))) w.drew := by
    rw [run_choose]
    rfl
  generalize hc : (Question.appendCap l.length 0 e).cut (w.tape w.drawn (.appendCap l.length 0 e)) = c at hch
  have hcl : l.length ≤ c := by rw [← hc]; simp [Question.cut]
  have hrun : ∃ fr rest, (execOp a.eval o).run P w = .ok (.value (.slice (some ⟨w.heap.size, 0, none⟩) l.length c)) (w.drew.alloc (.cells ((l.map fun b => Value.int .u8 b.toNat) ++ rest).toArray e fr)) := by
    have e1 : (convert s d (a.eval x)).run P w = (Conv.stringToBytes e ⟨l.toArray⟩).run P w := by
      rw [hu]
      simp only [convert, Sem.run_bind, run_under hs, run_under hd, Result.andThen_ok, run_under he]
    have e2 : ((⟨l.toArray⟩ : ByteArray).data.map fun b => Value.int .u8 b.toNat) ++ Array.replicate (c - l.length) (Value.int .u8 0) = ((l.map fun b => Value.int .u8 b.toNat) ++ List.replicate (c - l.length) (Value.int .u8 0)).toArray := by
      apply Array.toList_inj.1
      simp
    have e3 : ∃ fr, (Conv.stringToBytes e ⟨l.toArray⟩).run P w = .ok (.slice (some ⟨w.heap.size, 0, none⟩) l.length c) (w.drew.alloc (.cells ((l.map fun b => Value.int .u8 b.toNat) ++ List.replicate (c - l.length) (Value.int .u8 0)).toArray e fr)) := by
      simp only [Conv.stringToBytes, bytes_size, Sem.run_bind, hch, Result.andThen_ok, e2, newRow, run_newObj, markStringish, run_shape, Sem.run_pure]
      have hsh : ∀ (o' : Go.Obj) (w0 : World), ({ w0 with heap := w0.heap.push o' } : World).heap[w0.heap.size]? = some o' := fun o' w0 => by simp
      simp only [World.shape?, Array.getElem?_push_size, run_freeze, Result.andThen_ok]
      refine ⟨((l.map fun b => Value.int .u8 b.toNat) ++ List.replicate (c - l.length) (Value.int .u8 0)).toArray.size |> fun n => (n, n + 1), ?_⟩
      simp only [World.freeze, Nat.succ_ne_zero, if_false, push_modify]
      rfl
    obtain ⟨fr, e3⟩ := e3
    refine ⟨fr, _, run_conv ho _ _ (e1.trans e3)⟩
  obtain ⟨fr, rest, hrun⟩ := hrun
  have hrel' := drew_rel hrel
  intro K Q hK
  unfold Oper.wp
  rw [hrun]
  have hvr : VRs S φ h w.drew ((l.map byteAV).flatMap AV.cells) (l.map fun b => Value.int .u8 b.toNat) := bytes_VRs l
  have := imm_new hrel' false 1 e (l.map byteAV) _ rest (fun y hy => by obtain ⟨b, _, rfl⟩ := List.mem_map.1 hy; rfl) hvr c (by simpa using hcl) (fun h => by cases h) (by decide) fr
  rw [List.length_map] at this
  exact hK φ _ _ ⟨alloc_rel hrel' _, drew_ext.trans (alloc_ext _), this, ((Below.refl B w).drew).alloc hrel.base _⟩

end
end Go.Proofs.VmX

/- The small machine's values without references, against the model's. -/
set_option linter.unusedVariables false
set_option linter.unusedSimpArgs false
set_option linter.unusedSectionVars false
namespace Go.Proofs.VmX
open Go.RowKit

def AV.isAgg : AV → Bool
  | .agg _ => true
  | _ => false

theorem cells_of {e : AV} (h : e.isAgg = false) : e.cells = [e] := by cases e <;> first | rfl | (simp [AV.isAgg] at h)
theorem agg_of {e : AV} (h : e.isAgg = true) : ∃ cs, e = .agg cs := by cases e <;> first | exact ⟨_, rfl⟩ | (simp [AV.isAgg] at h)
theorem snap_keys {hh : Heap} {m : Nat} : ∀ {az az' : List AV}, keysApart az = true → seqO (snap hh m) az = some az' → az' = az := by
  intro az
  induction az with
  | nil => intro az' _ h; simp only [seqO] at h; injection h with h; exact h.symm
  | cons a l ih =>
    intro az' hk h
    simp only [keysApart, Bool.and_eq_true] at hk
    simp only [seqO, Option.bind_eq_some_iff, Option.map_eq_some_iff] at h
    obtain ⟨b, hb, l', hl, rfl⟩ := h
    rw [ih hk.2 hl]
    have hr : rf a = true := by
      have := hk.1.1
      cases a <;> first | rfl | (simp [keyOK] at this)
    cases m with
    | zero => simp [snap] at hb
    | succ m =>
      unfold snap at hb
      rw [if_pos hr] at hb
      injection hb with hb
      rw [hb]


section
variable {G : Nat → AV} {S S2 : Nat → Nat → Prop} {B : Nat} {φ φ2 : Phi} {h h2 : Heap} {w : World}

def RefOK (S2 : Nat → Nat → Prop) (φ φ2 : Phi) (h h2 : Heap) (p : Nat × Nat) : Prop :=
  ∀ (x : Arr) (b : Nat), h[p.1]? = some (.arr x) → φ[p.1]? = some b → ∀ off, off < p.2 * x.sz → Safe S2 φ2 h2 b off

/-- What a value becomes. -/
structure Snapped (S2 : Nat → Nat → Prop) (φ2 : Phi) (h2 : Heap) (w : World) (a a' : AV) (v : Value) : Prop where
  vr : VR S2 φ2 h2 w a' v
  noref : VmX.rf a' = true
  agg : a'.isAgg = a.isAgg
  one : a'.cells.map AV.one = a.cells.map AV.one

theorem Snapped.single {a a' : AV} {v : Value} (h1 : VR S2 φ2 h2 w a' v) (h2' : rf a' = true) (h3 : a.isAgg = false) (h4 : a'.isAgg = false) (h5 : a'.one = a.one) : Snapped S2 φ2 h2 w a a' v :=
  ⟨h1, h2', h4.trans h3.symm, by rw [cells_of h3, cells_of h4]; simp [h5]⟩

theorem rfs_append {a b : List AV} (ha : rfs a = true) (hb : rfs b = true) : rfs (a ++ b) = true := by
  induction a with
  | nil => exact hb
  | cons x l ih => simp only [rfs, Bool.and_eq_true] at ha; simp only [List.cons_append, rfs, Bool.and_eq_true]; exact ⟨ha.1, ih ha.2⟩

section list
variable {n : Nat}

theorem snaps_VRs (ih : ∀ (a : AV) (v : Value) (a' : AV), VR S φ h w a v → snap h n a = some a' → (∀ p ∈ refs h n a, RefOK S2 φ φ2 h h2 p) → Snapped S2 φ2 h2 w a a' v) : ∀ {az : List AV} {vs : List Value} {az' : List AV}, VRs S φ h w az vs → seqO (snap h n) az = some az' → (∀ p ∈ az.flatMap (refs h n), RefOK S2 φ φ2 h h2 p) →
    VRs S2 φ2 h2 w az' vs ∧ rfs az' = true ∧ az'.length = az.length ∧ az'.map AV.one = az.map AV.one := by
  intro az
  induction az with
  | nil =>
    intro vs az' hv hs _
    cases hv
    simp only [seqO] at hs
    injection hs with hs
    subst hs
    exact ⟨.nil, rfl, rfl, rfl⟩
  | cons a az iha =>
    intro vs az' hv hs hr
    cases hv with | cons _ v _ vs g1 g2 =>
    simp only [seqO, Option.bind_eq_some_iff, Option.map_eq_some_iff] at hs
    obtain ⟨a', h1, az', h2', rfl⟩ := hs
    have k := ih a v a' g1 h1 (fun p hp => hr p (by rw [List.flatMap_cons]; exact List.mem_append_left _ hp))
    obtain ⟨k1, k2, k3, k4⟩ := iha g2 h2' (fun p hp => hr p (by rw [List.flatMap_cons]; exact List.mem_append_right _ hp))
    refine ⟨.cons _ _ _ _ k.vr k1, by simp [rfs, k.noref, k2], by simp [k3], ?_⟩
    have : a'.one = a.one := by
      have e := k.agg
      cases ha : a.isAgg with
      | true =>
        rw [ha] at e
        obtain ⟨c1, rfl⟩ := agg_of e
        obtain ⟨c2, rfl⟩ := agg_of ha
        rfl
      | false =>
        rw [ha] at e
        have := k.one
        rw [cells_of e, cells_of ha] at this
        simpa using this
    simp [this, k4]

theorem els_VRs (ih : ∀ (a : AV) (v : Value) (a' : AV), VR S φ h w a v → snap h n a = some a' → (∀ p ∈ refs h n a, RefOK S2 φ φ2 h h2 p) → Snapped S2 φ2 h2 w a a' v) : ∀ {sz : Nat} {az : List AV} {vs : List Value} {az' : List AV}, (∀ e ∈ az, okEl sz e = true) → VRs S φ h w (az.flatMap AV.cells) vs → seqO (snap h n) az = some az' → (∀ p ∈ az.flatMap (refs h n), RefOK S2 φ φ2 h h2 p) →
    VRs S2 φ2 h2 w (az'.flatMap AV.cells) vs ∧ rfs az' = true ∧ az'.length = az.length ∧ ∀ e ∈ az', okEl sz e = true := by
  intro sz az
  induction az with
  | nil =>
    intro vs az' _ hv hs _
    cases hv
    simp only [seqO] at hs
    injection hs with hs
    subst hs
    exact ⟨.nil, rfl, rfl, by simp⟩
  | cons a az iha =>
    intro vs az' hok hv hs hr
    simp only [seqO, Option.bind_eq_some_iff, Option.map_eq_some_iff] at hs
    obtain ⟨a', h1, az', h2', rfl⟩ := hs
    rw [List.flatMap_cons] at hv
    obtain ⟨g1, g2⟩ := hv.split
    obtain ⟨k1, k2, k3, k4⟩ := iha (fun e he => hok e (List.mem_cons_of_mem _ he)) g2 h2' (fun p hp => hr p (by rw [List.flatMap_cons]; exact List.mem_append_right _ hp))
    have hoka := hok a (by simp)
    have hra : ∀ p ∈ refs h n a, RefOK S2 φ φ2 h h2 p := fun p hp => hr p (by rw [List.flatMap_cons]; exact List.mem_append_left _ hp)
    have key : VRs S2 φ2 h2 w a'.cells (vs.take a.cells.length) ∧ rf a' = true ∧ okEl sz a' = true := by
      have fin : ∀ (u : Value), Snapped S2 φ2 h2 w a a' u → VRs S2 φ2 h2 w a'.cells (vs.take a.cells.length) → VRs S2 φ2 h2 w a'.cells (vs.take a.cells.length) ∧ rf a' = true ∧ okEl sz a' = true := by
        intro u k hvr
        refine ⟨hvr, k.noref, ?_⟩
        simp only [okEl, Bool.and_eq_true, beq_iff_eq] at hoka ⊢
        have h3 := congrArg List.length k.one
        simp only [List.length_map] at h3
        refine ⟨h3.trans hoka.1, ?_⟩
        have h4 : (a'.cells.map AV.one).all id = true := by rw [k.one]; simpa using hoka.2
        simpa using h4
      cases ha : a.isAgg with
      | true =>
        obtain ⟨cs, rfl⟩ := agg_of ha
        have k := ih (.agg cs) _ a' (.agg _ _ g1) h1 hra
        have e := k.agg
        rw [ha] at e
        obtain ⟨cs', rfl⟩ := agg_of e
        obtain ⟨us, hu, hv2⟩ := k.vr.agg_inv
        injection hu with hu
        have hu : vs.take (AV.agg cs).cells.length = us := by simpa using hu
        exact fin _ k (by rw [hu]; exact hv2)
      | false =>
        have hc := cells_of ha
        rw [hc] at g1
        generalize hV : vs.take [a].length = V at g1
        cases g1 with | cons _ v _ _ q1 q2 =>
        cases q2
        have k := ih a v a' q1 h1 hra
        have e := k.agg
        rw [ha] at e
        refine fin _ k ?_
        rw [hc, hV, cells_of e]
        exact .cons _ _ _ _ k.vr .nil
    obtain ⟨r1, r2, r3⟩ := key
    refine ⟨?_, by simp [rfs, r2, k2], by simp [k3], fun e he => ?_⟩
    · have := r1.append k1
      rw [List.take_append_drop] at this
      rwa [List.flatMap_cons]
    · rcases List.mem_cons.1 he with rfl | he
      · exact r3
      · exact k4 e he
end list

/-- The values of a stretch, with where they lie. -/
theorem VC.parts {b : Nat} : ∀ {l : List AV} {off : Nat}, VC S φ h w l b off → ∃ vs, VRs S φ h w l vs ∧ (∀ x ∈ l, x.one = true) ∧ ∀ k v, vs[k]? = some v → w.cell? ⟨b, off + k, none⟩ = some v ∧ Safe S φ h b (off + k)
  | _, _, .nil b o => ⟨[], .nil, by simp, by simp⟩
  | _, _, .cons a l _ o v h1 hone hc hs hr => by
    obtain ⟨vs, k1, k2, k3⟩ := VC.parts hr
    refine ⟨v :: vs, .cons _ _ _ _ h1 k1, fun x hx => ?_, fun k u hk => ?_⟩
    · rcases List.mem_cons.1 hx with rfl | hx
      · exact hone
      · exact k2 x hx
    · cases k with
      | zero => simp at hk; subst hk; exact ⟨hc, hs⟩
      | succ k =>
        have := k3 k u (by simpa using hk)
        rwa [show o + (k + 1) = o + 1 + k by omega]

theorem VC.of_parts {b : Nat} : ∀ {l : List AV} {vs : List Value} {off : Nat}, VRs S φ h w l vs → (∀ x ∈ l, x.one = true) → (∀ k v, vs[k]? = some v → w.cell? ⟨b, off + k, none⟩ = some v ∧ Safe S φ h b (off + k)) → VC S φ h w l b off := by
  intro l
  induction l with
  | nil => intro vs off _ _ _; exact .nil _ _
  | cons x l ih =>
    intro vs off hv h1 hc
    cases hv with | cons _ v _ vs' g1 g2 =>
    have h0 := hc 0 v (by simp)
    refine .cons _ _ _ _ _ g1 (h1 x (by simp)) (by simpa using h0.1) (by simpa using h0.2) (ih g2 (fun y hy => h1 y (List.mem_cons_of_mem _ hy)) (fun k u hk => ?_))
    have := hc (k + 1) u (by simpa using hk)
    rwa [show off + (k + 1) = off + 1 + k by omega] at this

theorem snap_VR (hrel : Rel G S B φ h w) (hcell : ∀ (b o : Nat) (v : Value), w.cell? ⟨b, o, none⟩ = some v → Safe S φ h b o → Safe S2 φ2 h2 b o) :
    ∀ (n : Nat) (a : AV) (v : Value) (a' : AV), VR S φ h w a v → snap h n a = some a' → (∀ p ∈ refs h n a, RefOK S2 φ φ2 h h2 p) → Snapped S2 φ2 h2 w a a' v := by
  intro n
  induction n with
  | zero => intro a v a' _ hs; simp [snap] at hs
  | succ n ih =>
    intro a v a' hv hs hr
    unfold snap at hs
    by_cases hrf : rf a = true
    · rw [if_pos hrf] at hs
      injection hs with hs
      subst hs
      exact ⟨hv.shift (fun b o u hc hsafe => ⟨hc, hcell b o u hc hsafe⟩) (fun _ _ _ hm => hm) hrf, hrf, rfl, rfl⟩
    · rw [if_neg hrf] at hs
      unfold refs at hr
      rw [if_neg hrf] at hr
      have elist := @els_VRs S S2 φ φ2 h h2 w n ih
      have vlist := @snaps_VRs S S2 φ φ2 h h2 w n ih
      cases a with
      | osl id gen sz i len =>
        simp only [Option.bind_eq_some_iff] at hs
        obtain ⟨x, hx, hs⟩ := hs
        split at hs
        rotate_left
        · cases hs
        rename_i hle0
        obtain ⟨hsz0, hle⟩ := hle0
        simp only [Option.map_eq_some_iff] at hs
        obtain ⟨l', hl, rfl⟩ := hs
        simp only [hx] at hr
        cases hv with | osl _ _ _ _ _ ad c hid hg hn hsome ha =>
        obtain ⟨g1, g2, b, cs, fr, g3, rfl, g5, g6⟩ := ha x hx
        have hx0 := (getA_some hx).1
        have hoa := hrel.arr id x b hx0 g3
        subst g1
        have hok : ∀ e ∈ (x.els.drop i).take len, okEl x.sz e = true := fun y hy => hoa.ok y (List.mem_of_mem_drop (List.mem_of_mem_take hy))
        have hrd : RD S φ h w b (i * x.sz) (((x.els.drop i).take len).flatMap AV.cells) := by
          have h0 : RD S φ h w b 0 (x.els.flatMap AV.cells) := fun k c hk => by
            obtain ⟨v, k1, k2⟩ := hoa.cell k c hk
            exact ⟨v, by simpa using k1, k2⟩
          have h1 := h0.sub (i * x.sz) (len * x.sz)
          rw [flat_drop i hoa.ok, flat_take len (fun y hy => hoa.ok y (List.mem_of_mem_drop hy))] at h1
          simpa using h1
        obtain ⟨vals, k1, k2⟩ := hrd.vals
        obtain ⟨e1, e2, e3, e4⟩ := elist hok k1 hl (fun p hp => hr p (List.mem_cons_of_mem _ hp))
        have hll : ((x.els.drop i).take len).length = len := by simp; omega
        have hvl : vals.length = len * x.sz := by rw [← k1.length, flat_length hok, hll]
        have hsafe : RefOK S2 φ φ2 h h2 (id, i + len) := hr _ List.mem_cons_self
        have hll' : l'.length = len := e3.trans hll
        refine .single ?_ (by simpa [rf] using e2) rfl rfl rfl
        by_cases h0 : l' = []
        · subst h0
          have hl0 : len = 0 := by simpa using hll'.symm
          subst hl0
          refine .sl0 _ _ _ _ (by simp) ?_
          simp [hsz0]
        · have := VR.sl (S := S2) (φ := φ2) (h := h2) (w := w) false x.sz l' b (i * x.sz) c h0 e4 (.of_parts e1 (flat_one e4) (fun k v hk => ⟨k2 k v hk, hsafe x b hx0 g3 _ (by
            have := (List.getElem?_eq_some_iff.1 hk).1
            rw [Nat.add_mul]
            omega)⟩)) (by omega) (by simp)
          rwa [hll'] at this
      | sl e sz xs =>
        simp only [Option.map_eq_some_iff] at hs
        obtain ⟨l', hl, rfl⟩ := hs
        simp only at hr
        refine .single ?_ ?_ rfl rfl rfl
        · cases hv with
          | sl0 _ _ ad c hx hz =>
            simp only [seqO] at hl
            injection hl with hl
            subst hl
            exact .sl0 _ _ _ _ hx hz
          | sl _ _ _ b off c hn he hc hl2 hx =>
            obtain ⟨vals, k1, k2, k3⟩ := hc.parts
            obtain ⟨e1, e2, e3, e4⟩ := elist he k1 hl hr
            have := VR.sl (S := S2) (φ := φ2) (h := h2) (w := w) e sz l' b off c (by intro h0; subst h0; exact hn (List.eq_nil_of_length_eq_zero e3.symm)) e4
              (.of_parts e1 (flat_one e4) (fun k v hk => ⟨(k3 k v hk).1, hcell _ _ _ (k3 k v hk).1 (k3 k v hk).2⟩)) (by omega) (by rw [e3]; exact hx)
            rwa [e3] at this
        · cases hv with
          | sl0 _ _ ad c hx hz =>
            simp only [seqO] at hl
            injection hl with hl
            subst hl
            rfl
          | sl _ _ _ b off c hn he hc hl2 hx =>
            obtain ⟨vals, k1, k2, k3⟩ := hc.parts
            obtain ⟨e1, e2, e3, e4⟩ := elist he k1 hl hr
            simpa [rf] using e2
      | vptr e off =>
        simp only [Option.map_eq_some_iff] at hs
        obtain ⟨e', he, rfl⟩ := hs
        simp only at hr
        cases hv with | vptr _ _ b o hc =>
        obtain ⟨vals, k1, k2, k3⟩ := hc.parts
        have hok : ∀ y ∈ [e], okEl e.cells.length y = true := fun y hy => by
          have : y = e := by simpa using hy
          subst this
          simp only [okEl, beq_self_eq_true, Bool.true_and, List.all_eq_true]
          exact k2
        obtain ⟨e1, e2, e3, e4⟩ := elist (az := [e]) (az' := [e']) hok (by simpa using k1) (by simp [seqO, he]) (by simpa using hr)
        refine .single (.vptr _ _ _ _ (.of_parts (by simpa using e1) (okEl_one (e4 e' (by simp))) (fun k v hk => ⟨(k3 k v hk).1, hcell _ _ _ (k3 k v hk).1 (k3 k v hk).2⟩))) ?_ rfl rfl rfl
        simpa [rf, rfs] using e2
      | fn f az bs =>
        simp only [Option.bind_eq_some_iff, Option.map_eq_some_iff] at hs
        obtain ⟨az', h1, bs', h2', rfl⟩ := hs
        simp only at hr
        cases hv with | fn _ _ _ vs ws g1 g2 =>
        obtain ⟨e1, e2, _, _⟩ := vlist g1 h1 (fun p hp => hr p (List.mem_append_left _ hp))
        obtain ⟨f1, f2, _, _⟩ := vlist g2 h2' (fun p hp => hr p (List.mem_append_right _ hp))
        exact .single (.fn _ _ _ _ _ e1 f1) (by simp [rf, e2, f2]) rfl rfl rfl
      | mp az bs =>
        simp only [Option.bind_eq_some_iff, Option.map_eq_some_iff] at hs
        obtain ⟨az', h1, bs', h2', rfl⟩ := hs
        simp only at hr
        cases hv with | mp _ _ r es es0 clock hrr hp hd g1 g2 =>
        obtain ⟨e1, e2, _, _⟩ := vlist g1 h1 (fun p hp => hr p (List.mem_append_left _ hp))
        obtain ⟨f1, f2, _, _⟩ := vlist g2 h2' (fun p hp => hr p (List.mem_append_right _ hp))
        obtain rfl := snap_keys hd h1
        exact .single (.mp _ _ _ _ _ _ hrr hp hd e1 f1) (by simp [rf, e2, f2]) rfl rfl rfl
      | agg cs =>
        simp only [Option.map_eq_some_iff] at hs
        obtain ⟨l', hl, rfl⟩ := hs
        simp only at hr
        cases hv with | agg _ vs g1 =>
        obtain ⟨e1, e2, e3, e4⟩ := vlist g1 hl hr
        exact ⟨.agg _ _ e1, by simpa [rf] using e2, rfl, e4⟩
      | tup cs =>
        simp only [Option.map_eq_some_iff] at hs
        obtain ⟨l', hl, rfl⟩ := hs
        simp only at hr
        cases hv with | tup _ vs g1 =>
        obtain ⟨e1, e2, e3, e4⟩ := vlist g1 hl hr
        exact .single (.tup _ _ e1) (by simpa [rf] using e2) rfl rfl rfl
      | _ => simp only at hs; cases hs

end
end Go.Proofs.VmX

/- The small machine's calls, against the model's. -/
set_option linter.unusedVariables false
set_option linter.unusedSimpArgs false
set_option linter.unusedSectionVars false
namespace Go.Proofs.VmX
open Go.RowKit

section
variable {P : Program} {G : Nat → AV} {S : Nat → Nat → Prop} {B : Nat} {φ : Phi} {h : Heap} {w : World}

/-! Locking. -/
theorem lock_step (hrel : Rel G S B φ h w) {id : Nat} {x : Arr} (hx : h[id]? = some (.arr x)) (m : Nat) :
    Rel G S B φ (h.set id (.arr { x with lock := max x.lock m })) w ∧ Ext S φ h w φ (h.set id (.arr { x with lock := max x.lock m })) w := by
  have hidlt := (List.getElem?_eq_some_iff.1 hx).1
  have hget : ∀ i, i ≠ id → (h.set id (.arr { x with lock := max x.lock m }))[i]? = h[i]? := fun i hne => by rw [List.getElem?_set_ne (Ne.symm hne)]
  have hself : (h.set id (.arr { x with lock := max x.lock m }))[id]? = some (.arr { x with lock := max x.lock m }) := by simp [hidlt]
  have he : Ext S φ h w φ (h.set id (.arr { x with lock := max x.lock m })) w := by
    refine ⟨by simp, fun i x' hlt hx' => ?_, fun b cs el fr hc => ⟨cs, fr, hc, rfl⟩, fun b off v hc hs => ⟨hc, hs.1, fun i y hpi hy => ?_⟩, fun r es c hr => hr, fun i b s p hi hb => ⟨?_, hb⟩⟩
    · by_cases h1 : i = id
      · subst h1
        rw [hself] at hx'
        injection hx' with hx'
        injection hx' with hx'
        subst hx'
        exact ⟨x, hx, Nat.le_refl _, fun _ => ⟨rfl, rfl, rfl, rfl⟩⟩
      · rw [hget i h1] at hx'
        exact ⟨x', hx', Nat.le_refl _, fun _ => ⟨rfl, rfl, rfl, rfl⟩⟩
    · by_cases h1 : i = id
      · subst h1
        rw [hself] at hy
        injection hy with hy
        injection hy with hy
        subst hy
        have := hs.2 i x hpi hx
        exact Nat.lt_of_lt_of_le this (Nat.mul_le_mul_right _ (Nat.le_max_left _ _))
      · rw [hget i h1] at hy
        exact hs.2 i y hpi hy
    · by_cases h1 : i = id
      · subst h1
        rw [hx] at hi
        cases hi
      · exact ⟨s, p, (hget i h1).trans hi⟩
  refine ⟨⟨by simpa using hrel.len, hrel.inj, hrel.low, hrel.base, hrel.own, fun i y b hi hb => ?_, fun i s p b hi hb => ?_, fun g => (hrel.glob g).mono he⟩, he⟩
  · by_cases h1 : i = id
    · subst h1
      rw [hself] at hi
      injection hi with hi
      injection hi with hi
      subst hi
      have hoa := hrel.arr i x b hx hb
      obtain ⟨vs, rest, fr, k1, k2, k3, k4⟩ := hoa.at_
      exact ⟨hoa.ok, vs, rest, fr, k1, k2.mono he, fun j hj hj2 => k3 j (Nat.le_trans (Nat.mul_le_mul_right _ (Nat.le_max_left _ _)) hj) hj2, k4⟩
    · rw [hget i h1] at hi
      exact (hrel.arr i y b hi hb).mono he rfl
  · by_cases h1 : i = id
    · subst h1
      rw [hself] at hi
      cases hi
    · rw [hget i h1] at hi
      exact hrel.itr i s p b hi hb

theorem lock_all : ∀ (l : List (Nat × Nat)) (h : Heap), Rel G S B φ h w → Rel G S B φ (lockO h l) w ∧ Ext S φ h w φ (lockO h l) w ∧
    (∀ (i : Nat) (x : Arr), h[i]? = some (.arr x) → ∃ x' : Arr, (lockO h l)[i]? = some (.arr x') ∧ x'.sz = x.sz ∧ x.lock ≤ x'.lock) ∧
    ∀ p ∈ l, ∀ x' : Arr, (lockO h l)[p.1]? = some (.arr x') → p.2 ≤ x'.lock := by
  intro l
  induction l with
  | nil => intro h hrel; exact ⟨hrel, Ext.refl .., fun i x hx => ⟨x, hx, rfl, Nat.le_refl _⟩, by simp⟩
  | cons p l ih =>
    intro h hrel
    obtain ⟨id, m⟩ := p
    unfold lockO
    split
    · rename_i x hx
      obtain ⟨q1, q2⟩ := lock_step hrel hx m
      obtain ⟨k1, k2, k3, k4⟩ := ih _ q1
      have hidlt := (List.getElem?_eq_some_iff.1 hx).1
      refine ⟨k1, q2.trans k2, fun i y hy => ?_, fun p hp x' hx' => ?_⟩
      · by_cases h1 : i = id
        · subst h1
          obtain ⟨x', g1, g2, g3⟩ := k3 i { x with lock := max x.lock m } (by simp [hidlt])
          rw [hx] at hy
          injection hy with hy
          injection hy with hy
          subst hy
          exact ⟨x', g1, g2, Nat.le_trans (Nat.le_max_left _ _) g3⟩
        · exact k3 i y (by rw [List.getElem?_set_ne (Ne.symm h1)]; exact hy)
      · rcases List.mem_cons.1 hp with rfl | hp
        · obtain ⟨x2, g1, g2, g3⟩ := k3 id { x with lock := max x.lock m } (by simp [hidlt])
          have hx' : (lockO (h.set id (.arr { x with lock := max x.lock m })) l)[id]? = some (.arr x') := hx'
          rw [g1] at hx'
          injection hx' with hx'
          injection hx' with hx'
          subst hx'
          exact Nat.le_trans (Nat.le_max_right _ _) g3
        · exact k4 p hp x' hx'
    · rename_i hno
      obtain ⟨k1, k2, k3, k4⟩ := ih h hrel
      refine ⟨k1, k2, k3, fun p hp x' hx' => ?_⟩
      rcases List.mem_cons.1 hp with rfl | hp
      · -- no array there, then and now
        have hlt : id < h.length := by
          have h1 := (List.getElem?_eq_some_iff.1 hx').1
          have h2 := k1.len
          have h3 := hrel.len
          have h1 : id < (lockO h l).length := h1
          omega
        obtain ⟨x, g1, _⟩ := k2.arrs id x' hlt hx'
        exact absurd g1 (hno x)
      · exact k4 p hp x' hx'

/-- What has been locked may be read by others. -/
theorem lock_ref (hrel : Rel G S B φ h w) (l : List (Nat × Nat)) : ∀ p ∈ l, RefOK S φ φ h (lockO h l) p := by
  intro p hp x b hx hb off hoff
  obtain ⟨k1, k2, k3, k4⟩ := lock_all l h hrel
  have hlow := hrel.low p.1 b hb
  refine ⟨hrel.own b off hlow.1, fun i y hpi hy => ?_⟩
  have : i = p.1 := hrel.inj i p.1 b hpi hb
  subst this
  obtain ⟨x', g1, g2, g3⟩ := k3 p.1 x hx
  rw [g1] at hy
  injection hy with hy
  injection hy with hy
  subst hy
  have h4 := k4 p hp x' g1
  rw [g2]
  exact Nat.lt_of_lt_of_le hoff (Nat.mul_le_mul_right _ h4)

/-- Others' work above. -/
theorem below_ext (hrel : Rel G S B φ h w) {w' : World} (hb : Below w.heap.size w w') : Rel G S B φ h w' ∧ Ext S φ h w φ h w' := by
  have old : ∀ b o, w.heap[b]? = some o → w'.heap[b]? = some o := fun b o ho => (hb.block b (Array.getElem?_eq_some_iff.1 ho).1).trans ho
  have he : Ext S φ h w φ h w' := by
    refine ⟨Nat.le_refl _, fun id x' _ h1 => ⟨x', h1, Nat.le_refl _, fun _ => ⟨rfl, rfl, rfl, rfl⟩⟩, fun b cs el fr h1 => ⟨cs, fr, old b _ h1, rfl⟩, fun b off v h1 h2 => ⟨?_, h2⟩,
      fun r es c hr => old r _ hr, fun id b s p h1 h2 => ⟨⟨s, p, h1⟩, h2⟩⟩
    have hlt := World.block_lt_of_cell? w ⟨b, off, none⟩ h1
    rw [World.cell?_of_block (w := w) (hb.block b hlt)]
    exact h1
  refine ⟨⟨hrel.len, hrel.inj, fun i b hi => ?_, Nat.le_trans hrel.base hb.size, hrel.own, fun i x b hi hb' => (hrel.arr i x b hi hb').mono he (hb.block b (hrel.low i b hb').2), fun i s p b hi hb' => old b _ (hrel.itr i s p b hi hb'),
    fun g => (hrel.glob g).mono he⟩, he⟩
  have := hrel.low i b hi
  exact ⟨this.1, Nat.lt_of_lt_of_le this.2 hb.size⟩

/-! A call, as the model makes it. -/
def CallOK (P : Program) (G : Nat → AV) (S : Nat → Nat → Prop) (B : Nat) (φ : Phi) (h : Heap) (w : World) (f : Nat) (vs : Array Value) (h' : Heap) (r : AV) : Prop :=
  (∃ v w' φ', (callFunc f vs).run P w = .ok (.value v) w' ∧ Good G S B φ h w h' r φ' w' v) ∨
  ((callFunc f vs).run P w = .ok (.enter f vs) w ∧ Calls P f vs w fun e w' => ∃ v φ', e = .returned v ∧ Good G S B φ h w h' r φ' w' v)

def SimCall (P : Program) (H : Hints) (call : CallT) : Prop :=
  ∀ (f : Nat) (args : List AV) (h : Heap) (r : AV) (h' : Heap), call f args h = some (r, h') → ∀ (S : Nat → Nat → Prop) (B : Nat) (φ : Phi) (w : World) (vs : List Value),
    Rel H.glob S B φ h w → VRs S φ h w args vs → CallOK P H.glob S B φ h w f vs.toArray h' r

theorem CallOK.map {S2 : Nat → Nat → Prop} {B2 : Nat} {φ2 : Phi} {h2 h2' : Heap} {r r2 : AV} {f : Nat} {vs : Array Value} {h' : Heap} (hc : CallOK P G S B φ h w f vs h' r)
    (hm : ∀ φ' w' v, Good G S B φ h w h' r φ' w' v → ∃ φ2', Good G S2 B2 φ2 h2 w h2' r2 φ2' w' v) : CallOK P G S2 B2 φ2 h2 w f vs h2' r2 := by
  rcases hc with ⟨v, w', φ', h1, h3⟩ | ⟨h1, h3⟩
  · obtain ⟨φ2', h4⟩ := hm _ _ _ h3
    exact .inl ⟨v, w', φ2', h1, h4⟩
  · refine .inr ⟨h1, Calls.mono h3 fun e w' ⟨v, φ', he, hg⟩ => ?_⟩
    obtain ⟨φ2', h4⟩ := hm _ _ _ hg
    exact ⟨v, φ2', he, h4⟩

variable {H : Hints} {t : List AV} {a : Act} {o : Oper}

theorem op_of_call {f : Nat} {vs : Array Value} {h' : Heap} {r : AV} (hc : CallOK P G S B φ h w f vs h' r) (hrun : (execOp a.eval o).run P w = (callFunc f vs).run P w) : OpOK P G S B φ h w a o h' r := by
  intro K Q hK
  unfold Oper.wp
  rw [hrun]
  rcases hc with ⟨v, w', φ', h1, h3⟩ | ⟨h1, h3⟩
  · rw [h1]
    exact hK _ _ _ h3
  · rw [h1]
    show Calls P f vs w _
    exact Calls.mono h3 fun e w' ⟨v, φ', he, hg⟩ => by subst he; exact hK _ _ _ hg

/-- A call of its own. -/
theorem pure_ok (hrel : Rel H.glob S B φ h w) (hgr : ∀ g, rf (H.glob g) = true) {call : CallT} (hsim : SimCall P H call) {f : Nat} {az : List AV} {vs : List Value} {r : AV} (hr : pureCall call f az = some r) (has : rfs az = true)
    (hv : VRs S φ h w az vs) : CallOK P H.glob S B φ h w f vs.toArray h r := by
  simp only [pureCall, Option.bind_eq_some_iff] at hr
  obtain ⟨⟨r0, hc⟩, hcall, hsnap⟩ := hr
  let S' : Nat → Nat → Prop := fun b o => w.heap.size ≤ b ∨ Safe S φ h b o
  have hcell : ∀ (b o : Nat) (v : Value), w.cell? ⟨b, o, none⟩ = some v → Safe S φ h b o → w.cell? ⟨b, o, none⟩ = some v ∧ Safe S' [] [] b o := fun b o v h1 h2 => ⟨h1, .inr h2, fun id x hid _ => by simp at hid⟩
  have hrel' : Rel H.glob S' w.heap.size [] [] w := by
    refine ⟨rfl, fun i j b hi _ => by simp at hi, fun i b hi => by simp at hi, Nat.le_refl _, fun b o hb => .inl hb, fun i o b hi _ => by simp at hi, fun i s p b hi _ => by simp at hi, fun g => ?_⟩
    exact (hrel.glob g).shift hcell (fun _ _ _ hm => hm) (hgr g)
  have hv' : VRs S' [] [] w az vs := hv.shift hcell (fun _ _ _ hm => hm) has
  have main : ∀ φ' w' v, Good H.glob S' w.heap.size [] [] w hc r0 φ' w' v → ∃ φ2', Good H.glob S B φ h w h r φ2' w' v := by
    intro φ' w' v hg
    obtain ⟨k1, k2⟩ := below_ext hrel hg.below
    have hs := snap_VR hg.rel (S2 := S) (φ2 := φ) (h2 := h) (fun b o u hcu hsafe => by
      rcases hsafe.1 with hb | hb
      · refine ⟨hrel.own b o (Nat.le_trans hrel.base hb), fun id x hid _ => ?_⟩
        have := (hrel.low id b hid).2
        omega
      · exact hb) deep r0 v r hg.vr hsnap (fun p _ x b hx hb off hoff => by
      have hlow := hg.rel.low p.1 b hb
      refine ⟨hrel.own b off (Nat.le_trans hrel.base hlow.1), fun id y hid _ => ?_⟩
      have := (hrel.low id b hid).2
      omega)
    exact ⟨φ, k1, k2, hs.vr, hg.below.mono hrel.base⟩
  exact (hsim f az [] r0 hc hcall S' w.heap.size [] w vs hrel' hv').map main

end
end Go.Proofs.VmX

/- The small machine's call operations, against the model's. -/
set_option linter.unusedVariables false
set_option linter.unusedSimpArgs false
set_option linter.unusedSectionVars false
namespace Go.Proofs.VmX
open Go.RowKit

section
variable {P : Program} {H : Hints} {S : Nat → Nat → Prop} {B : Nat} {φ : Phi} {h : Heap} {w : World} {t : List AV} {a : Act} {o : Oper}

/-- A new relation over an old one. -/
theorem CallOK.after {h1 h2 : Heap} {r : AV} {f : Nat} {vs : Array Value} (he : Ext S φ h w φ h1 w) (hc : CallOK P H.glob S B φ h1 w f vs h2 r) : CallOK P H.glob S B φ h w f vs h2 r :=
  hc.map fun φ' w' v hg => ⟨φ', hg.rel, he.trans hg.ext, hg.vr, hg.below⟩

theorem doCall_ok (hrel : Rel H.glob S B φ h w) (hgr : ∀ g, rf (H.glob g) = true) {call : CallT} (hsim : SimCall P H call) {f : Nat} {inl : Bool} {args : List AV} {vs : List Value} {r : AV} {h' : Heap} (hd : doCall call f inl args h = some (r, h'))
    (hv : VRs S φ h w args vs) : CallOK P H.glob S B φ h w f vs.toArray h' r := by
  unfold doCall at hd
  cases inl with
  | true =>
    simp only [if_true] at hd
    exact hsim f args h r h' hd S B φ w vs hrel hv
  | false =>
    simp only [Bool.false_eq_true, if_false, Option.bind_eq_some_iff, Option.map_eq_some_iff] at hd
    obtain ⟨⟨az, h1⟩, hsn, r0, hp, hd⟩ := hd
    simp only [Prod.mk.injEq] at hd
    obtain ⟨rfl, rfl⟩ := hd
    unfold snaps at hsn
    by_cases hrf : rfs args = true
    · rw [if_pos hrf] at hsn
      injection hsn with hsn
      simp only [Prod.mk.injEq] at hsn
      obtain ⟨rfl, rfl⟩ := hsn
      exact pure_ok hrel hgr hsim hp hrf hv
    · rw [if_neg hrf] at hsn
      simp only [Option.map_eq_some_iff] at hsn
      obtain ⟨az', hseq, hsn⟩ := hsn
      simp only [Prod.mk.injEq] at hsn
      obtain ⟨rfl, rfl⟩ := hsn
      obtain ⟨k1, k2, k3, k4⟩ := lock_all (args.flatMap (refs h deep)) h hrel
      have hlr := lock_ref hrel (args.flatMap (refs h deep))
      obtain ⟨e1, e2, _, _⟩ := snaps_VRs (S2 := S) (φ2 := φ) (h2 := lockO h (args.flatMap (refs h deep))) (snap_VR hrel (fun b o v hc hs => (k2.cell b o v hc hs).2) deep) hv hseq hlr
      exact (pure_ok k1 hgr hsim hp e2 e1).after k2

theorem run_callFn {f : Nat} {first cap : List Value} (args : List Operand) (tys : Array TypeId) {callee : Operand} (ho : o.op = .call { callee := .value callee, args := args.toArray, argTypes := tys })
    (hf : a.eval callee = .func (.func f) first.toArray cap.toArray) : (execOp a.eval o).run P w = (callFunc f (first ++ args.map a.eval ++ cap).toArray).run P w := by
  have e : (first.toArray ++ args.toArray.map a.eval) ++ cap.toArray = (first ++ args.map a.eval ++ cap).toArray := by
    apply Array.toList_inj.1
    simp
  simp only [execOp, ho, resolve, hf, Deferred.ofValue, Sem.run_bind, Sem.run_pure, Result.andThen_ok, invoke, e]

theorem ok_callF (hrel : Rel H.glob S B φ h w) (ht : TR S φ h w t a.tmps) (hgr : ∀ g, rf (H.glob g) = true) {call : CallT} (hsim : SimCall P H call) (f : Nat) (inl : Bool) (args : List Operand) (tys : Array TypeId)
    (ho : o.op = .call { callee := .value (.func f), args := args.toArray, argTypes := tys }) (r : AV) (h' : Heap) (hd : doCall call f inl ((args.map (cOpd H)).map (opd t)) h = some (r, h')) : OpOK P H.glob S B φ h w a o h' r := by
  have hc := doCall_ok hrel hgr hsim hd (opds_VRs hrel ht args)
  refine op_of_call hc ?_
  have := run_callFn (P := P) (w := w) (a := a) (o := o) (f := f) (first := []) (cap := []) args tys ho rfl
  simpa using this

theorem ok_callP (hrel : Rel H.glob S B φ h w) (ht : TR S φ h w t a.tmps) (hgr : ∀ g, rf (H.glob g) = true) {call : CallT} (hsim : SimCall P H call) (f : Nat) (args : List Operand) (tys : Array TypeId)
    (ho : o.op = .call { callee := .value (.func f), args := args.toArray, argTypes := tys }) (r : AV) (has : rfs ((args.map (cOpd H)).map (opd t)) = true) (hd : pureCall call f ((args.map (cOpd H)).map (opd t)) = some r) : OpOK P H.glob S B φ h w a o h r := by
  refine op_of_call (pure_ok hrel hgr hsim hd has (opds_VRs hrel ht args)) ?_
  have := run_callFn (P := P) (w := w) (a := a) (o := o) (f := f) (first := []) (cap := []) args tys ho rfl
  simpa using this

theorem ok_callV (hrel : Rel H.glob S B φ h w) (ht : TR S φ h w t a.tmps) (hgr : ∀ g, rf (H.glob g) = true) {call : CallT} (hsim : SimCall P H call) (callee : Operand) (f : Nat) (first cap : List AV) (hx : opd t (cOpd H callee) = .fn f first cap) (inl : Bool)
    (args : List Operand) (tys : Array TypeId) (ho : o.op = .call { callee := .value callee, args := args.toArray, argTypes := tys }) (r : AV) (h' : Heap) (hd : doCall call f inl (first ++ (args.map (cOpd H)).map (opd t) ++ cap) h = some (r, h')) :
    OpOK P H.glob S B φ h w a o h' r := by
  have hu := opd_VR hrel ht callee
  rw [hx] at hu
  generalize hU : a.eval callee = u at hu
  cases hu with | fn _ _ _ vs ws h1 h2 =>
  have hc := doCall_ok hrel hgr hsim hd ((h1.append (opds_VRs hrel ht args)).append h2)
  exact op_of_call hc (run_callFn args tys ho hU)

end
end Go.Proofs.VmX

/- Each operation of the small machine, against the model's. -/
set_option linter.unusedVariables false
set_option linter.unusedSimpArgs false
set_option linter.unusedSectionVars false
namespace Go.Proofs.VmX
open Go.RowKit

section
variable {P : Program} {H : Hints} {S : Nat → Nat → Prop} {B : Nat} {φ : Phi} {h : Heap} {w : World} {t : List AV} {a : Act} {o : Oper} {E : Env} {call : CallT} {r : AV} {h' : Heap}

theorem some_pair {α β : Type} {x : α} {y : β} {p : α × β} (h : some (x, y) = some p) : x = p.1 ∧ y = p.2 := by
  injection h with h
  subst h
  exact ⟨rfl, rfl⟩

theorem sim_bin (hrel : Rel H.glob S B φ h w) (ht : TR S φ h w t a.tmps) (op : BinOp) (ty yty : TypeId) (x y : Operand) (ho : o.op = .binOp op ty x y yty) (hev : evOp E call t h (cBin P H op ty x y) = some (r, h')) :
    OpOK P H.glob S B φ h w a o h' r := by
  -- the plain ones
  have plain : ∀ k, (k = 1 → P.underlying ty = some .bool) → (k = 2 → ∃ e, P.underlying ty = some (.pointer e) ∧ known P e = true ∧ tsz P e ≠ 0) → (k = 3 → ∃ p q z, P.underlying ty = some (.func p q z)) → (k = 4 → ∃ e, P.underlying ty = some (.slice e)) →
      evOp E call t h (.bin k op (cOpd H x) (cOpd H y)) = some (r, h') → OpOK P H.glob S B φ h w a o h' r := by
    intro k k1 k2 k3 k4 hev
    simp only [evOp, Option.map_eq_some_iff] at hev
    obtain ⟨v, hv, hev⟩ := hev
    simp only [Prod.mk.injEq] at hev
    obtain ⟨rfl, rfl⟩ := hev
    unfold binE at hv
    split at hv
    · rename_i i g c d i' g' c' d' hx hy
      split at hv
      · rename_i hc
        obtain ⟨hk, rfl, rfl, rfl, rfl, hl⟩ := hc
        obtain ⟨e, e1, e2, e3⟩ := k2 hk
        exact ok_ptreq hrel ht op ty yty x y ho e e1 e2 e3 i g c d hx hy hl v hv
      · cases hv
    · rename_i e1 s xs e2 hx hy
      split at hv
      · rename_i hk
        obtain ⟨el, hel⟩ := k4 hk
        exact ok_nil hrel ht op ty yty el x y ho hel _ hy _ (.inl ⟨_, _, _, hx, rfl⟩) v hv
      · cases hv
    · rename_i id gen s i n e2 hx hy
      split at hv
      · rename_i hk
        obtain ⟨el, hel⟩ := k4 hk
        exact ok_nil hrel ht op ty yty el x y ho hel _ hy _ (.inr ⟨_, _, _, _, _, hx, rfl⟩) v hv
      · cases hv
    · exact ok_bin hrel ht op ty yty x y ho k v hv k1 (fun hk => by obtain ⟨e, e1, _⟩ := k2 hk; exact ⟨e, e1⟩) k3
  unfold cBin at hev
  split at hev
  · rename_i hd; exact plain 1 (fun _ => hd) (fun q => by cases q) (fun q => by cases q) (fun q => by cases q) hev
  · rename_i e hd
    split at hev
    · rename_i hc; exact plain 2 (fun q => by cases q) (fun _ => ⟨e, hd, hc.1, hc.2⟩) (fun q => by cases q) (fun q => by cases q) hev
    · simp [evOp] at hev
  · rename_i p q z hd; exact plain 3 (fun q => by cases q) (fun q => by cases q) (fun _ => ⟨p, q, z, hd⟩) (fun q => by cases q) hev
  · exact plain 0 (fun q => by cases q) (fun q => by cases q) (fun q => by cases q) (fun q => by cases q) hev
  · exact plain 0 (fun q => by cases q) (fun q => by cases q) (fun q => by cases q) (fun q => by cases q) hev
  · split at hev
    · rename_i ks hks
      simp only [evOp] at hev
      split at hev
      · rename_i az bs hx hy
        simp only [Option.map_eq_some_iff] at hev
        obtain ⟨q, hq, hev⟩ := hev
        simp only [Prod.mk.injEq, Bool.false_eq_true, if_false] at hev
        obtain ⟨rfl, rfl⟩ := hev
        exact ok_eqs hrel ht false ty yty x y ho ks hks az bs hx hy q hq
      · cases hev
    · rename_i ks hks
      simp only [evOp] at hev
      split at hev
      · rename_i az bs hx hy
        simp only [Option.map_eq_some_iff] at hev
        obtain ⟨q, hq, hev⟩ := hev
        simp only [Prod.mk.injEq, if_true] at hev
        obtain ⟨rfl, rfl⟩ := hev
        exact ok_eqs hrel ht true ty yty x y ho ks hks az bs hx hy q hq
      · cases hev
    · simp [evOp] at hev
  · rename_i e hd; exact plain 4 (fun q => by cases q) (fun q => by cases q) (fun q => by cases q) (fun _ => ⟨e, hd⟩) hev
  · simp [evOp] at hev
  · simp [evOp] at hev
  · simp [evOp] at hev
  · exact plain 0 (fun q => by cases q) (fun q => by cases q) (fun q => by cases q) (fun q => by cases q) hev

theorem sim_conv (hrel : Rel H.glob S B φ h w) (ht : TR S φ h w t a.tmps) (s d : TypeId) (x : Operand) (ho : o.op = .convert s d x) (hev : evOp E call t h (cConv P H s d x) = some (r, h')) : OpOK P H.glob S B φ h w a o h' r := by
  unfold cConv at hev
  split at hev
  · rename_i j k hs hd
    simp only [evOp, Option.map_eq_some_iff] at hev
    obtain ⟨v, hv, hev⟩ := hev
    simp only [Prod.mk.injEq] at hev
    obtain ⟨rfl, rfl⟩ := hev
    generalize hX : opd t (cOpd H x) = X at hv
    cases X <;> simp only [conv] at hv <;> try (cases hv; done)
    injection hv with hv
    subst hv
    exact ok_convInt hrel ht s d x ho j k hs hd _ _ hX
  · rename_i j hs hd
    simp only [evOp, Option.map_eq_some_iff] at hev
    obtain ⟨v, hv, hev⟩ := hev
    simp only [Prod.mk.injEq] at hev
    obtain ⟨rfl, rfl⟩ := hev
    generalize hX : opd t (cOpd H x) = X at hv
    cases X <;> simp only [conv] at hv <;> try (cases hv; done)
    injection hv with hv
    subst hv
    exact ok_convIntStr hrel ht s d x ho j hs hd _ _ hX
  · rename_i hs hd
    simp only [evOp, Option.map_eq_some_iff] at hev
    obtain ⟨v, hv, hev⟩ := hev
    simp only [Prod.mk.injEq] at hev
    obtain ⟨rfl, rfl⟩ := hev
    generalize hX : opd t (cOpd H x) = X at hv
    cases X <;> simp only [conv] at hv <;> try (cases hv; done)
    injection hv with hv
    subst hv
    exact ok_convStr hrel ht s d x ho hs hd _ hX
  · rename_i e hs hd
    split at hev
    · rename_i he
      simp only [evOp, Option.map_eq_some_iff] at hev
      obtain ⟨v, hv, hev⟩ := hev
      simp only [Prod.mk.injEq] at hev
      obtain ⟨rfl, rfl⟩ := hev
      generalize hX : opd t (cOpd H x) = X at hv
      cases X <;> simp only [conv] at hv <;> try (cases hv; done)
      injection hv with hv
      subst hv
      exact ok_strBytes hrel ht s d e x ho hs hd he _ hX
    · simp only [evOp, Option.map_eq_some_iff] at hev
      obtain ⟨v, hv, hev⟩ := hev
      generalize hX : opd t (cOpd H x) = X at hv
      cases X <;> simp only [conv] at hv <;> cases hv
    · simp [evOp] at hev
  · rename_i e hs hd
    split at hev
    · rename_i he
      simp only [evOp, Option.map_eq_some_iff] at hev
      obtain ⟨v, hv, hev⟩ := hev
      simp only [Prod.mk.injEq] at hev
      obtain ⟨rfl, rfl⟩ := hev
      have hns : ∀ l, opd t (cOpd H x) ≠ .str l := by
        intro l hl
        rw [hl] at hv
        simp [conv] at hv
      have hv2 : (elsOf (opd t (cOpd H x)) h).bind (fun l => (seqO toByte l).map AV.str) = some v := by
        generalize opd t (cOpd H x) = X at hv hns
        cases X <;> first | exact hv | exact absurd rfl (hns _)
      simp only [Option.bind_eq_some_iff, Option.map_eq_some_iff] at hv2
      obtain ⟨ys, hy, l, hl, rfl⟩ := hv2
      exact ok_convBytes hrel ht s d e x ho hs he hd ys hy hns l hl
    · rename_i he
      simp only [evOp, Option.map_eq_some_iff] at hev
      obtain ⟨v, hv, hev⟩ := hev
      simp only [Prod.mk.injEq] at hev
      obtain ⟨rfl, rfl⟩ := hev
      have hns : ∀ l, opd t (cOpd H x) ≠ .str l := by
        intro l hl
        rw [hl] at hv
        simp [conv] at hv
      have hv2 : (elsOf (opd t (cOpd H x)) h).bind (fun l => (seqO toRune l).map fun m => AV.str m.flatten) = some v := by
        generalize opd t (cOpd H x) = X at hv hns
        cases X <;> first | exact hv | exact absurd rfl (hns _)
      simp only [Option.bind_eq_some_iff, Option.map_eq_some_iff] at hv2
      obtain ⟨ys, hy, l, hl, rfl⟩ := hv2
      exact ok_convRunes hrel ht s d e x ho hs he hd ys hy hns l hl
    · simp [evOp] at hev
  · simp [evOp] at hev

end
end Go.Proofs.VmX

/- Each operation of the small machine, against the model's: calls, and the whole. -/
set_option linter.unusedVariables false
set_option linter.unusedSimpArgs false
set_option linter.unusedSectionVars false
namespace Go.Proofs.VmX
open Go.RowKit

section
variable {P : Program} {H : Hints} {S : Nat → Nat → Prop} {B : Nat} {φ : Phi} {h : Heap} {w : World} {t : List AV} {a : Act} {o : Oper} {E : Env} {call : CallT} {r : AV} {h' : Heap}

theorem list_arr {α : Type} {xs : Array α} {l : List α} (h : xs.toList = l) : xs = l.toArray := by subst h; simp

theorem sim_builtin (hrel : Rel H.glob S B φ h w) (ht : TR S φ h w t a.tmps) (c : Call) (b : Builtin) (hc : c.callee = .builtin b) (ho : o.op = .call c) (f : Nat) (strict : Bool) (dst : Option Nat)
    (hev : evOp E call t h (cCall P H f strict dst c) = some (r, h')) : OpOK P H.glob S B φ h w a o h' r := by
  obtain ⟨callee, args, argTypes⟩ := c
  simp only at hc
  subst hc
  unfold cCall at hev
  simp only at hev
  split at hev
  · -- len
    rename_i x ty hxs hts
    have e1 := list_arr hxs
    have e2 := list_arr hts
    subst e1
    subst e2
    split at hev
    · rename_i hty
      simp only [evOp] at hev
      split at hev
      · rename_i hb _; cases hb
      · rename_i hb _; cases hb
      · rename_i s _ hx
        obtain ⟨rfl, rfl⟩ := some_pair hev
        exact ok_len hrel ht x ty ho (.inl hty) _ (.inr (.inr ⟨s, hx, rfl, hty⟩))
      · cases hev
    · rename_i e hty
      simp only [evOp] at hev
      split at hev
      · rename_i e' s xs _ hx
        obtain ⟨rfl, rfl⟩ := some_pair hev
        exact ok_len hrel ht x ty ho (.inr ⟨e, hty⟩) _ (.inl ⟨_, _, _, hx, rfl, e, hty⟩)
      · rename_i id gen s i n _ hx
        obtain ⟨rfl, rfl⟩ := some_pair hev
        exact ok_len hrel ht x ty ho (.inr ⟨e, hty⟩) _ (.inr (.inl ⟨_, _, _, _, _, hx, rfl, e, hty⟩))
      · rename_i hb _; cases hb
      · cases hev
    · simp [evOp] at hev
  · -- cap
    rename_i x ty hxs hts
    have e1 := list_arr hxs
    have e2 := list_arr hts
    subst e1
    subst e2
    split at hev
    · rename_i el hty
      simp only [evOp] at hev
      split at hev
      · rename_i s xs hx
        obtain ⟨rfl, rfl⟩ := some_pair hev
        exact ok_capSl hrel ht x ty el ho hty s xs hx
      · rename_i id gen s i n hx
        simp only [Option.bind_eq_some_iff] at hev
        obtain ⟨ob, hob, c, hc, hev⟩ := hev
        split at hev
        · rename_i hcc
          obtain ⟨rfl, rfl⟩ := some_pair hev
          have hs0 : s ≠ 0 := by
            have hu := opd_VR hrel ht x
            rw [hx] at hu
            generalize a.eval x = u at hu
            cases hu with | osl _ _ _ _ _ ad c' hid hg hn hsm ha =>
            have := (ha ob hob).1
            rw [← this]
            exact hcc.2
          exact ok_capOsl hrel ht x ty el ho hty id gen s i n hx ob hob c hc hcc.1 hs0
        · cases hev
      · cases hev
    · simp [evOp] at hev
  · -- append
    rename_i s x t1 t2 hxs hts
    have e1 := list_arr hxs
    have e2 := list_arr hts
    subst e1
    subst e2
    split at hev
    rotate_left
    · simp [evOp] at hev
    rename_i el ht1
    split at hev
    · simp [evOp] at hev
    rename_i z hz
    split at hev
    rotate_left
    · simp [evOp] at hev
    rename_i hcond
    obtain ⟨hk, hok, hpos⟩ := hcond
    obtain ⟨i, zv, he⟩ := elOK_of hz hk hok hpos
    have gen : (∃ d, P.underlying t2 = some d ∧ ∀ k, d ≠ .int k) → evOp E call t h (.append el (tsz P el) (tbytes P el) (cOpd H s) (cOpd H x)) = some (r, h') → OpOK P H.glob S B φ h w a o h' r := by
      intro ht2 hev
      simp only [evOp] at hev
      split at hev
      · rename_i e s0 ys hx
        split at hev
        · rename_i hs0
          exact ok_append hrel ht t1 t2 el s x ho ht1 ht2 hk he h' r ys (.inl ⟨e, s0, hx, hs0⟩) hev
        · cases hev
      · rename_i id gen s0 i len hx
        split at hev
        · rename_i hs0
          subst hs0
          simp only [Option.bind_eq_some_iff] at hev
          obtain ⟨ys, hy, hev⟩ := hev
          exact ok_append hrel ht t1 t2 el s x ho ht1 ht2 hk he h' r ys (.inr (.inl ⟨id, gen, i, len, hx, hy⟩)) hev
        · cases hev
      · rename_i bs hx
        split at hev
        · rename_i hs0
          exact ok_append hrel ht t1 t2 el s x ho ht1 ht2 hk he h' r _ (.inr (.inr ⟨bs, hx, hs0, rfl⟩)) hev
        · cases hev
      · cases hev
    split at hev
    · rename_i j ht2
      simp only [evOp, Option.bind_eq_some_iff] at hev
      obtain ⟨n, hn, hev⟩ := hev
      split at hev
      · rename_i hc
        exact ok_appendZ hrel ht t1 t2 el s x ho ht1 ht2 hk he h' r n hn hc.1 hc.2.1 hev
      · cases hev
    · rename_i e2 ht2
      exact gen ⟨_, ht2, fun k hk => by cases hk⟩ hev
    · rename_i ht2
      exact gen ⟨_, ht2, fun k hk => by cases hk⟩ hev
    · simp [evOp] at hev
  · -- copy
    split at hev
    · split at hev <;> simp [evOp] at hev
    · simp [evOp] at hev
  · -- max
    rename_i x xs hxs
    have e1 := list_arr hxs
    subst e1
    simp only [evOp] at hev
    split at hev
    · rename_i k m hx
      simp only [Option.map_eq_some_iff, Prod.mk.injEq] at hev
      obtain ⟨q, hq, rfl, rfl⟩ := hev
      exact ok_mm hrel ht true x xs argTypes ho k m q hx hq
    · cases hev
  · -- min
    rename_i x xs hxs
    have e1 := list_arr hxs
    subst e1
    simp only [evOp] at hev
    split at hev
    · rename_i k m hx
      simp only [Option.map_eq_some_iff, Prod.mk.injEq] at hev
      obtain ⟨q, hq, rfl, rfl⟩ := hev
      exact ok_mm hrel ht false x xs argTypes ho k m q hx hq
    · cases hev
  · simp [evOp] at hev

theorem sim_call (hrel : Rel H.glob S B φ h w) (ht : TR S φ h w t a.tmps) (hgr : ∀ g, rf (H.glob g) = true) (hsim : SimCall P H call) (hE : E.inl = H.inl) (c : Call) (ho : o.op = .call c) (f : Nat) (strict : Bool) (dst : Option Nat)
    (hev : evOp E call t h (cCall P H f strict dst c) = some (r, h')) : OpOK P H.glob S B φ h w a o h' r := by
  cases hc : c.callee with
  | builtin b => exact sim_builtin hrel ht c b hc ho f strict dst hev
  | invoke rv m =>
    unfold cCall at hev
    simp only [hc, evOp] at hev
    cases hev
  | value callee =>
    obtain ⟨callee', args, argTypes⟩ := c
    simp only at hc
    subst hc
    have hargs : args = args.toList.toArray := by simp
    have general : ∀ x, callee = x → evOp E call t h (.callV (cOpd H x) (args.toList.map (cOpd H))) = some (r, h') → OpOK P H.glob S B φ h w a o h' r := by
      intro x hx hev
      subst hx
      simp only [evOp] at hev
      split at hev
      · rename_i g first cap hx
        exact ok_callV hrel ht hgr hsim callee g first cap hx (E.inl g) args.toList argTypes (by first | rw [ho] | (rw [ho]; simp)) r h' hev
      · cases hev
    unfold cCall at hev
    simp only at hev
    split at hev
    · rename_i hh; cases hh
    · rename_i g hcal
      injection hcal with hcal
      subst hcal
      split at hev
      · simp only [evOp] at hev
        split at hev
        · rename_i hrf
          simp only [Option.map_eq_some_iff, Prod.mk.injEq] at hev
          obtain ⟨q, hq, rfl, rfl⟩ := hev
          exact ok_callP hrel ht hgr hsim g args.toList argTypes (by first | rw [ho] | (rw [ho]; simp)) q hrf hq
        · cases hev
      · simp only [evOp] at hev
        exact ok_callF hrel ht hgr hsim g (H.inl g) args.toList argTypes (by first | rw [ho] | (rw [ho]; simp)) r h' hev
    · rename_i x hno hcal
      injection hcal with hcal
      exact general _ hcal hev
    · rename_i hh; cases hh

end
end Go.Proofs.VmX

/- Each operation of the small machine, against the model's: the whole. -/
set_option linter.unusedVariables false
set_option linter.unusedSimpArgs false
set_option linter.unusedSectionVars false
namespace Go.Proofs.VmX
open Go.RowKit

section
variable {P : Program} {H : Hints} {S : Nat → Nat → Prop} {B : Nat} {φ : Phi} {h : Heap} {w : World} {t : List AV} {a : Act} {o : Oper} {E : Env} {call : CallT} {r : AV} {h' : Heap}

theorem sim_slice (hrel : Rel H.glob S B φ h w) (ht : TR S φ h w t a.tmps) (ty : TypeId) (x : Operand) (lo hi mx : Option Operand) (ho : o.op = .slice ty x lo hi mx) (f : Nat) (strict : Bool)
    (hev : evOp E call t h (cOp P H f strict o) = some (r, h')) : OpOK P H.glob S B φ h w a o h' r := by
  unfold cOp at hev
  simp only [ho] at hev
  split at hev
  · -- a text
    rename_i hty
    simp only [evOp] at hev
    split at hev
    · rename_i s hx
      simp only [Option.bind_eq_some_iff] at hev
      obtain ⟨l, hl, q, hq, hev⟩ := hev
      split at hev
      · rename_i hc
        obtain ⟨rfl, rfl⟩ := some_pair hev
        exact ok_sliceStr hrel ht ty x lo hi ho hty s hx l q hl hq hc.1 hc.2
      · cases hev
    · cases hev
  · rename_i mx _ _ el hty
    split at hev
    rotate_left
    · simp [evOp] at hev
    rename_i hc
    obtain ⟨hk, hz, himp⟩ := hc
    simp only [evOp] at hev
    cases mx with
    | none =>
      simp only [Option.map_none] at hev
      split at hev
      · rename_i e s xs hx
        simp only [Option.bind_eq_some_iff] at hev
        obtain ⟨l, hl, q, hq, hev⟩ := hev
        split at hev
        · rename_i hs
          simp only [Option.map_eq_some_iff, Prod.mk.injEq, sliceV] at hev
          obtain ⟨v, hv, rfl, rfl⟩ := hev
          split at hv
          · rename_i hlr
            injection hv with hv
            subst hv
            exact ok_sliceSl hrel ht ty el x lo hi ho hty hk e s xs hx hs l q hl hq hlr.1 hlr.2 hz
          · cases hv
        · cases hev
      · rename_i id gen s i len hx
        simp only [Option.bind_eq_some_iff] at hev
        obtain ⟨l, hl, q, hq, hev⟩ := hev
        split at hev
        · rename_i hs
          subst hs
          simp only [Option.map_eq_some_iff, Prod.mk.injEq] at hev
          obtain ⟨v, hv, rfl, rfl⟩ := hev
          exact ok_sliceOsl hrel ht ty el x lo hi ho hty hk id gen i len hx l q hl hq v hv hz
        · cases hev
      · cases hev
    | some m =>
      simp only [Option.map_some] at hev
      have hhi : ∃ hi', hi = some hi' := by
        have := himp rfl
        exact Option.isSome_iff_exists.1 this
      obtain ⟨hi', rfl⟩ := hhi
      split at hev
      · rename_i e s xs hx
        simp only [Option.bind_eq_some_iff] at hev
        obtain ⟨l, hl, q, hq, hev⟩ := hev
        split at hev
        · rename_i hs
          simp only [Option.bind_eq_some_iff, Option.map_eq_some_iff, Prod.mk.injEq] at hev
          obtain ⟨m', hm, v, hv, rfl, rfl⟩ := hev
          exact ok_slice3 hrel ht ty el x lo hi' m ho hty hk l q m' hl (by simpa [bnd] using hq) hm v (by rw [hx]; exact hv) (fun e2 s2 xs2 h2 => by
            rw [hx] at h2
            injection h2 with _ h3 h4
            subst h3
            subst h4
            exact hs) hz (fun id gen s2 i len h2 => by rw [hx] at h2; cases h2)
        · cases hev
      · rename_i id gen s i len hx
        simp only [Option.bind_eq_some_iff] at hev
        obtain ⟨l, hl, q, hq, hev⟩ := hev
        split at hev
        · rename_i hs
          subst hs
          simp only [Option.bind_eq_some_iff, Option.map_eq_some_iff, Prod.mk.injEq] at hev
          obtain ⟨m', hm, v, hv, rfl, rfl⟩ := hev
          exact ok_slice3 hrel ht ty el x lo hi' m ho hty hk l q m' hl (by simpa [bnd] using hq) hm v (by rw [hx]; exact hv) (fun e2 s2 xs2 h2 => by rw [hx] at h2; cases h2) hz (fun id gen s2 i len h2 => by
            rw [hx] at h2
            injection h2 with _ _ h3
            exact h3.symm)
        · cases hev
      · cases hev
  · split at hev <;> simp [evOp] at hev
  · simp [evOp] at hev

theorem sim_idx (hrel : Rel H.glob S B φ h w) (ht : TR S φ h w t a.tmps) (ty : TypeId) (x i : Operand) (ho : o.op = .indexAddr ty x i ∨ o.op = .index ty x i) (f : Nat) (strict : Bool)
    (hev : evOp E call t h (cOp P H f strict o) = some (r, h')) : OpOK P H.glob S B φ h w a o h' r := by
  unfold cOp at hev
  rcases ho with ho | ho
  · simp only [ho] at hev
    split at hev
    · rename_i el hty
      split at hev
      rotate_left
      · simp [evOp] at hev
      rename_i hc
      simp only [evOp, Option.bind_eq_some_iff] at hev
      obtain ⟨k, hk, hev⟩ := hev
      split at hev
      · rename_i e s xs hx
        split at hev
        · rename_i hs
          subst hs
          simp only [Option.map_eq_some_iff, Prod.mk.injEq] at hev
          obtain ⟨y, hy, rfl, rfl⟩ := hev
          exact ok_idxS hrel ht ty x i ho el hty hc.1 k hk _ (.inl ⟨_, _, _, hx, hy, rfl⟩)
        · cases hev
      · rename_i id gen s b len hx
        split at hev
        · rename_i hs
          obtain ⟨rfl, hlt⟩ := hs
          obtain ⟨rfl, rfl⟩ := some_pair hev
          exact ok_idxS hrel ht ty x i ho el hty hc.1 k hk _ (.inr ⟨_, _, _, _, hx, hlt, rfl⟩)
        · cases hev
      · cases hev
    · rename_i n el hty
      split at hev
      rotate_left
      · simp [evOp] at hev
      rename_i hc
      simp only [evOp, Option.bind_eq_some_iff] at hev
      obtain ⟨k, hk, hev⟩ := hev
      split at hev
      rotate_left
      · cases hev
      rename_i hlt
      split at hev
      · rename_i b c d e hx
        obtain ⟨rfl, rfl⟩ := some_pair hev
        exact ok_idxA hrel ht ty x i ho n el hty hc.1 k hk hlt _ (.inl ⟨_, _, _, _, hx, rfl⟩)
      · rename_i e g hx
        obtain ⟨rfl, rfl⟩ := some_pair hev
        exact ok_idxA hrel ht ty x i ho n el hty hc.1 k hk hlt _ (.inr ⟨_, _, hx, rfl⟩)
      · cases hev
    · simp [evOp] at hev
  · simp only [ho] at hev
    split at hev
    · rename_i hty
      simp only [evOp, Option.bind_eq_some_iff] at hev
      obtain ⟨k, hk, hev⟩ := hev
      split at hev
      · rename_i s hx
        simp only [Option.map_eq_some_iff, Prod.mk.injEq] at hev
        obtain ⟨b, hb, rfl, rfl⟩ := hev
        exact ok_idxStr hrel ht ty x i ho hty k hk s hx b hb
      · cases hev
    · rename_i n el hty
      split at hev
      rotate_left
      · simp [evOp] at hev
      rename_i hc
      simp only [evOp, Option.bind_eq_some_iff] at hev
      obtain ⟨k, hk, hev⟩ := hev
      split at hev
      rotate_left
      · cases hev
      rename_i hlt
      split at hev
      · rename_i cs hx
        simp only [Option.map_eq_some_iff, Prod.mk.injEq] at hev
        obtain ⟨v, hv, rfl, rfl⟩ := hev
        exact ok_idxAgg hrel ht ty x i ho n el hty hc.1 k hk hlt cs hx v hv
      · cases hev
    · simp [evOp] at hev

theorem op_sim (hrel : Rel H.glob S B φ h w) (ht : TR S φ h w t a.tmps) (hgr : ∀ g, rf (H.glob g) = true) (hsim : SimCall P H call) (hE : E.inl = H.inl) (f : Nat) (strict : Bool)
    (hev : evOp E call t h (cOp P H f strict o) = some (r, h')) : OpOK P H.glob S B φ h w a o h' r := by
  have hev0 := hev
  unfold cOp at hev
  cases ho : o.op <;> simp only [ho] at hev
  case move x =>
    simp only [evOp] at hev
    obtain ⟨rfl, rfl⟩ := some_pair hev
    exact ok_mv hrel ht x (.inl ho)
  case assign x =>
    simp only [evOp] at hev
    obtain ⟨rfl, rfl⟩ := some_pair hev
    exact ok_mv hrel ht x (.inr ho)
  case pick c x y =>
    simp only [evOp] at hev
    split at hev
    · rename_i b hc
      obtain ⟨rfl, rfl⟩ := some_pair hev
      exact ok_pick hrel ht c x y ho hc
    · cases hev
  case alloc el =>
    split at hev
    · rename_i z hz
      simp only [evOp] at hev
      split at hev
      · rename_i hk
        obtain ⟨rfl, rfl⟩ := some_pair hev
        exact ok_alloc hrel el ho z hz (tsz P el) hk
      · cases hev
    · simp [evOp] at hev
  case box el x =>
    simp only [evOp] at hev
    split at hev
    · rename_i hk
      obtain ⟨rfl, rfl⟩ := some_pair hev
      exact ok_box hrel ht el x ho (tsz P el) hk
    · cases hev
  case build ty parts =>
    generalize hb : cBuild P H ty parts.toList = op at hev
    have hop : (∃ z l, op = .build z l) ∨ op = .bad := by
      rw [← hb]
      unfold cBuild
      split
      · split
        · split
          · exact .inl ⟨_, _, rfl⟩
          · exact .inr rfl
        · exact .inr rfl
      · split
        · exact .inl ⟨_, _, rfl⟩
        · exact .inr rfl
      · exact .inr rfl
    rcases hop with ⟨z, l, rfl⟩ | rfl
    · simp only [evOp] at hev
      split at hev
      · rename_i hall
        simp only [Option.map_eq_some_iff, Prod.mk.injEq] at hev
        obtain ⟨cs, hf, rfl, rfl⟩ := hev
        exact ok_build hrel ht ty parts ho z l hb cs hf (fun q hq => List.all_eq_true.1 hall q hq)
      · cases hev
    · simp [evOp] at hev
  case buildSlice ty n parts =>
    split at hev
    · rename_i el hty
      split at hev
      · rename_i hc
        obtain ⟨c1, c2, c3, c4, c5⟩ := hc
        obtain ⟨z, hz⟩ := Option.isSome_iff_exists.1 c5
        simp only [evOp] at hev
        split at hev
        · rename_i hok
          obtain ⟨rfl, rfl⟩ := some_pair hev
          exact ok_bsl hrel ht ty el n parts ho hty c1 c2 c3 c4 z hz hok
        · cases hev
      · simp [evOp] at hev
    · simp [evOp] at hev
  case load ty x =>
    split at hev
    · rename_i hk
      simp only [evOp, Option.map_eq_some_iff, Prod.mk.injEq] at hev
      obtain ⟨v, hv, rfl, rfl⟩ := hev
      exact ok_load hrel ht ty x ho hk v hv
    · simp [evOp] at hev
  case store ty p x =>
    split at hev
    · rename_i hk
      simp only [evOp] at hev
      split at hev
      · rename_i hc
        simp only [Option.map_eq_some_iff, Prod.mk.injEq] at hev
        obtain ⟨h2, hs, rfl, rfl⟩ := hev
        exact ok_store hrel ht ty p x ho hk hc.1 hc.2 h2 hs
      · cases hev
    · simp [evOp] at hev
  case nilCheck x =>
    simp only [evOp] at hev
    split at hev
    · rename_i i j k l hx
      obtain ⟨rfl, rfl⟩ := some_pair hev
      exact ok_nilCheck hrel ht x ho hx (.inl ⟨_, _, _, _, rfl⟩)
    · rename_i e g hx
      obtain ⟨rfl, rfl⟩ := some_pair hev
      exact ok_nilCheck hrel ht x ho hx (.inr (.inl ⟨_, _, rfl⟩))
    · rename_i g az bs hx
      obtain ⟨rfl, rfl⟩ := some_pair hev
      exact ok_nilCheck hrel ht x ho hx (.inr (.inr ⟨_, _, _, rfl⟩))
    · cases hev
  case binOp op ty x y yty => exact sim_bin hrel ht op ty yty x y ho hev
  case unOp op ty x =>
    simp only [evOp, Option.map_eq_some_iff, Prod.mk.injEq] at hev
    obtain ⟨v, hv, rfl, rfl⟩ := hev
    exact ok_un hrel ht op ty x ho v hv
  case convert s d x => exact sim_conv hrel ht s d x ho hev
  case makeInterface ty x =>
    split at hev
    · simp [evOp] at hev
    · rename_i d hd hty
      simp only [evOp] at hev
      obtain ⟨rfl, rfl⟩ := some_pair hev
      exact ok_iface hrel ty x ho _ hty (fun m hm => by subst hm; exact hd m rfl)
    · simp [evOp] at hev
  case makeFunc fn first cap =>
    cases fn with
    | func g =>
      simp only [evOp] at hev
      obtain ⟨rfl, rfl⟩ := some_pair hev
      exact ok_mkFn hrel ht g first cap ho
    | _ => simp [evOp] at hev
  case makeSlice ty x y =>
    split at hev
    · rename_i el hty
      split at hev
      · rename_i z hz
        split at hev
        · rename_i hc
          simp only [evOp, Option.bind_eq_some_iff] at hev
          obtain ⟨l, hl, c, hcc, hev⟩ := hev
          split at hev
          · rename_i hq
            obtain ⟨q1, q2, q3, q4⟩ := hq
            obtain ⟨rfl, rfl⟩ := some_pair hev
            obtain ⟨i, zv, he⟩ := elOK_of hz hc.1 q4 hc.2
            exact ok_mkSlice hrel ht ty el x y ho hty hc.1 he l c hl hcc q1 q2 q3
          · cases hev
        · simp [evOp] at hev
      · simp [evOp] at hev
    · simp [evOp] at hev
  case slice ty x lo hi mx => exact sim_slice hrel ht ty x lo hi mx ho f strict hev0
  case fieldAddr s x i =>
    split at hev
    · rename_i off n ft hf
      simp only [evOp] at hev
      split at hev
      · rename_i b c d e hx
        obtain ⟨rfl, rfl⟩ := some_pair hev
        exact ok_fld hrel ht s x i ho off n ft hf _ (.inl ⟨_, _, _, _, hx, rfl⟩)
      · rename_i e g hx
        obtain ⟨rfl, rfl⟩ := some_pair hev
        exact ok_fld hrel ht s x i ho off n ft hf _ (.inr ⟨_, _, hx, rfl⟩)
      · cases hev
    · simp [evOp] at hev
  case field s x i =>
    split at hev
    · rename_i off n ft hf
      simp only [evOp] at hev
      split at hev
      · rename_i cs hx
        simp only [Option.map_eq_some_iff, Prod.mk.injEq] at hev
        obtain ⟨v, hv, rfl, rfl⟩ := hev
        exact ok_part hrel ht s x i ho off n ft hf cs hx v hv
      · cases hev
    · simp [evOp] at hev
  case indexAddr ty x i => exact sim_idx hrel ht ty x i (.inl ho) f strict hev0
  case index ty x i => exact sim_idx hrel ht ty x i (.inr ho) f strict hev0
  case lookup ty m k ok =>
    split at hev
    · rename_i kt el hty
      have fin : ∀ (kind : Nat) (kd : TypeDesc) (z : AV), tzero P el = some z → P.underlying kt = some kd → (kind = 2 → ∃ j, kd = .int j) → (kind = 3 → kd = .string) → (kind = 2 ∨ kind = 3) →
          evOp E call t h (.lookup kind z ok (cOpd H m) (cOpd H k)) = some (r, h') → OpOK P H.glob S B φ h w a o h' r := by
        intro kind kd z hz hkt k2 k3 hkk hev
        simp only [evOp] at hev
        split at hev
        · rename_i ks vs hm
          split at hev
          · rename_i hkind
            simp only [Option.map_eq_some_iff, Prod.mk.injEq] at hev
            obtain ⟨q, hq, rfl, rfl⟩ := hev
            have hkd : (∃ j, kd = .int j ∧ ∃ i n, opd t (cOpd H k) = .int i n) ∨ (kd = .string ∧ ∃ s, opd t (cOpd H k) = .str s) := ?_
            · cases q with
              | none => exact ok_lookup hrel ht ty kt el m k ok ho hty kd hkt z hz ks vs hm none hq hkd
              | some v => exact ok_lookup hrel ht ty kt el m k ok ho hty kd hkt z hz ks vs hm (some v) hq hkd
            generalize opd t (cOpd H k) = K at hkind ⊢
            cases K <;> simp only [keyKind] at hkind
            case int i n =>
              obtain ⟨j, hj⟩ := k2 hkind.symm
              exact .inl ⟨j, hj, i, n, rfl⟩
            case str s => exact .inr ⟨k3 hkind.symm, s, rfl⟩
            all_goals (exfalso; omega)
          · cases hev
        · cases hev
      split at hev
      · rename_i j z hkt hz
        exact fin 2 _ z hz hkt (fun _ => ⟨j, rfl⟩) (fun q => by cases q) (.inl rfl) hev
      · rename_i z hkt hz
        exact fin 3 _ z hz hkt (fun q => by cases q) (fun _ => rfl) (.inr rfl) hev
      · simp [evOp] at hev
    · simp [evOp] at hev
  case range ty x =>
    split at hev
    · rename_i hty
      simp only [evOp] at hev
      split at hev
      · rename_i s hx
        obtain ⟨rfl, rfl⟩ := some_pair hev
        exact ok_rangeS hrel ht ty x ho hty s hx
      · cases hev
    · simp [evOp] at hev
  case next it b =>
    cases b with
    | true =>
      simp only [evOp] at hev
      exact ok_nextS hrel ht it ho h' r hev
    | false => simp [evOp] at hev
  case extract x i =>
    simp only [evOp] at hev
    split at hev
    · rename_i vs hx
      simp only [Option.map_eq_some_iff, Prod.mk.injEq] at hev
      obtain ⟨v, hv, rfl, rfl⟩ := hev
      exact ok_extract hrel ht x i ho vs hx v hv
    · cases hev
  case call c => exact sim_call hrel ht hgr hsim hE c ho f strict o.dst hev
  all_goals (simp [evOp] at hev)

end
end Go.Proofs.VmX

/- The small machine's regions in the text's order, against the model's. -/
set_option linter.unusedVariables false
set_option linter.unusedSimpArgs false
set_option linter.unusedSectionVars false
namespace Go.Proofs.VmX
open Go.RowKit

/-- How far a call of ours has come. -/
structure Pst (H : Hints) (S : Nat → Nat → Prop) (B N : Nat) (φ0 : Phi) (h0 : Heap) (w0 : World) (d0 : List Deferred) (st : St) (a : Act) (φ : Phi) (w : World) : Prop where
  rel : Rel H.glob S B φ st.h w
  ext : Ext S φ0 h0 w0 φ st.h w
  tr : TR S φ st.h w st.t a.tmps
  size : N ≤ a.tmps.size
  defers : a.defers = d0
  below : Below B w0 w

section
variable {P : Program} {H : Hints} {S : Nat → Nat → Prop} {B N : Nat} {φ0 φ : Phi} {h0 h : Heap} {w0 w : World} {d0 : List Deferred} {t : List AV} {a : Act} {o : Oper} {E : Env} {call : CallT}

theorem tr_put {tm : Array Value} (ht : TR S φ h w t a.tmps) (dst : Option Nat) {r : AV} {v : Value} (hr : VR S φ h w r v) (hd : ∀ d, dst = some d → d < a.tmps.size) : TR S φ h w (putO t dst r) (a.put dst v).tmps := by
  intro i
  cases dst with
  | none => exact ht i
  | some d =>
    have hlt := hd d rfl
    simp only [putO, get_put, Act.put]
    by_cases h1 : d = i
    · subst h1
      rw [if_pos rfl]
      simpa [Array.getD, hlt] using hr
    · rw [if_neg h1]
      have := ht i
      simpa [Array.getD_eq_getD_getElem?, Array.getElem?_setIfInBounds_ne h1] using this

theorem tr_mono {φ' : Phi} {h' : Heap} {w' : World} {tm : Array Value} (e : Ext S φ h w φ' h' w') (ht : TR S φ h w t tm) : TR S φ' h' w' t tm := fun i => (ht i).mono e

theorem wanted_sim {ops : Array Oper} (ht : TR S φ h w t a.tmps) {g : Option (Nat × Bool)} (hg : cGuard ops o.guard = some g) {b : Bool} (hw : wantedA t g = some b) : Region.wanted o (yielded ops a.tmps) = b := by
  unfold Region.wanted
  cases hgo : o.guard with
  | none =>
    rw [hgo] at hg
    simp only [cGuard] at hg
    injection hg with hg
    subst hg
    simp only [wantedA] at hw
    injection hw
  | some p =>
    obtain ⟨j, want⟩ := p
    rw [hgo] at hg
    simp only [cGuard, Option.map_eq_some_iff] at hg
    obtain ⟨d, hd, rfl⟩ := hg
    have hv := ht d
    simp only [wantedA] at hw
    simp only [yielded, hd, Option.bind_some]
    generalize get t d = x at hw hv
    rw [Array.getD_eq_getD_getElem?] at hv
    cases x with
    | bool c =>
      simp only at hw
      injection hw with hw
      subst hw
      have := hv.bool_inv
      cases hq : a.tmps[d]? with
      | none => rw [hq] at this; simp [undef] at this
      | some u =>
        rw [hq] at this
        simp only [Option.getD_some] at this
        subst this
        cases c <;> cases want <;> rfl
    | tup l =>
      cases l with
      | nil =>
        simp only at hw
        injection hw with hw
        subst hw
        obtain ⟨vs, hu, _⟩ := hv.tup_inv
        cases hq : a.tmps[d]? with
        | none => cases want <;> rfl
        | some u =>
          rw [hq] at hu
          simp only [Option.getD_some] at hu
          subst hu
          cases want <;> rfl
      | cons _ _ => cases hw
    | _ => cases hw

theorem put_size (a : Act) (dst : Option Nat) (v : Value) : (a.put dst v).tmps.size = a.tmps.size := by cases dst <;> simp [Act.put]
theorem put_defers (a : Act) (dst : Option Nat) (v : Value) : (a.put dst v).defers = a.defers := by cases dst <;> simp [Act.put]

theorem cOper_spec {f : Nat} {strict : Bool} {ops : Array Oper} {o : Oper} : (∃ g, cGuard ops o.guard = some g ∧ cOper P H f strict ops o = { dst := o.dst, op := cOp P H f strict o, g }) ∨ cOper P H f strict ops o = { dst := none, op := .bad, g := none } := by
  unfold cOper
  cases hg : cGuard ops o.guard with
  | none => exact .inr rfl
  | some g => exact .inl ⟨g, rfl, rfl⟩

/-- After one operation. -/
theorem Pst.put {st : St} (hp : Pst H S B N φ0 h0 w0 d0 st a φ w) {dst : Option Nat} (hd : ∀ d, dst = some d → d < N) {h' : Heap} {r : AV} {φ' : Phi} {w' : World} {v : Value} (hg : Good H.glob S B φ st.h w h' r φ' w' v) :
    Pst H S B N φ0 h0 w0 d0 ⟨putO st.t dst r, h'⟩ (a.put dst v) φ' w' :=
  ⟨hg.rel, hp.ext.trans hg.ext, tr_put (tm := a.tmps) (tr_mono hg.ext hp.tr) dst hg.vr (fun d h1 => Nat.lt_of_lt_of_le (hd d h1) hp.size), by rw [put_size]; exact hp.size, by rw [put_defers]; exact hp.defers, hp.below.trans hg.below⟩

/-- After one that was not wanted. -/
theorem Pst.skip {st : St} (hp : Pst H S B N φ0 h0 w0 d0 st a φ w) {dst : Option Nat} (hd : ∀ d, dst = some d → d < N) :
    Pst H S B N φ0 h0 w0 d0 ⟨putO st.t dst (.tup []), st.h⟩ (a.put dst undef) φ w :=
  ⟨hp.rel, hp.ext, tr_put (tm := a.tmps) hp.tr dst (.tup [] [] .nil) (fun d h1 => Nat.lt_of_lt_of_le (hd d h1) hp.size), by rw [put_size]; exact hp.size, by rw [put_defers]; exact hp.defers, hp.below⟩

theorem ops_sim (hgr : ∀ g, rf (H.glob g) = true) (hsim : SimCall P H call) (hE : E.inl = H.inl) (f : Nat) (ops : Array Oper) (hd : dstsIn N ops = true) :
    ∀ (l : List Nat) (st st' : St), (∀ i ∈ l, i < ops.size) → evOps E call (l.map fun i => cOper P H f false ops (ops.getD i default)) st = some st' → ∀ (φ : Phi) (w : World) (a : Act), Pst H S B N φ0 h0 w0 d0 st a φ w →
      wpOps P ops (fun e a' w' => e = .normal ∧ ∃ φ', Pst H S B N φ0 h0 w0 d0 st' a' φ' w') l a w := by
  intro l
  induction l with
  | nil =>
    intro st st' _ hev φ w a hp
    simp only [List.map_nil, evOps] at hev
    injection hev with hev
    subst hev
    exact ⟨rfl, φ, hp⟩
  | cons i l ih =>
    intro st st' hlt hev φ w a hp
    have hi := hlt i (by simp)
    have hoi : ops[i]? = some ops[i] := Array.getElem?_eq_getElem hi
    have hget : ops.getD i default = ops[i] := by simp [Array.getD, hi]
    rw [List.map_cons, hget] at hev
    have hdi : ∀ d, ops[i].dst = some d → d < N := by
      intro d h1
      have := List.all_eq_true.1 hd ops[i] (by simp)
      rw [h1] at this
      simpa using this
    rcases cOper_spec (P := P) (H := H) (f := f) (strict := false) (ops := ops) (o := ops[i]) with ⟨g, hg, hc⟩ | hc
    · rw [hc] at hev
      simp only [evOps, Option.bind_eq_some_iff] at hev
      obtain ⟨b, hb, hev⟩ := hev
      have hwant := wanted_sim hp.tr hg hb
      simp only [wpOps, hoi]
      cases b with
      | true =>
        simp only [if_true, Option.bind_eq_some_iff] at hev
        obtain ⟨⟨r, h'⟩, hop, hev⟩ := hev
        rw [if_pos hwant]
        refine .inl (op_sim hp.rel hp.tr hgr hsim hE f false hop _ _ fun φ' w' v hg' => ?_)
        exact ih _ st' (fun j hj => hlt j (List.mem_cons_of_mem _ hj)) hev φ' w' _ (hp.put hdi hg')
      | false =>
        simp only [Bool.false_eq_true, if_false] at hev
        rw [if_neg (by rw [hwant]; simp)]
        exact ih _ st' (fun j hj => hlt j (List.mem_cons_of_mem _ hj)) hev φ w _ (hp.skip hdi)
    · rw [hc] at hev
      simp [evOps, wantedA, evOp] at hev


end
end Go.Proofs.VmX

/- What the small machine's operations look at. -/
set_option linter.unusedVariables false
set_option linter.unusedSimpArgs false
set_option linter.unusedSectionVars false
namespace Go.Proofs.VmX

mutual
theorem same_eq : ∀ (a b : AV), same a b = true → a = b
  | .bool a, b, h => by cases b <;> simp_all [same]
  | .int k n, b, h => by cases b <;> simp_all [same]
  | .str s, b, h => by cases b <;> simp_all [same]
  | .nilp, b, h => by cases b <;> simp_all [same]
  | .nili, b, h => by cases b <;> simp_all [same]
  | .nilfn, b, h => by cases b <;> simp_all [same]
  | .ptr i g j o, b, h => by cases b <;> simp_all [same]
  | .vptr e o, b, h => by
    cases b <;> simp only [same, Bool.and_eq_true, beq_iff_eq] at h <;> try (cases h; done)
    rw [same_eq e _ h.1, h.2]
  | .sl x s xs, b, h => by
    cases b <;> simp only [same, Bool.and_eq_true, beq_iff_eq] at h <;> try (cases h; done)
    rw [sames_eq xs _ h.2, h.1.1, h.1.2]
  | .osl i g s j n, b, h => by cases b <;> simp_all [same]
  | .it i, b, h => by cases b <;> simp_all [same]
  | .fn f az bs, b, h => by
    cases b <;> simp only [same, Bool.and_eq_true, beq_iff_eq] at h <;> try (cases h; done)
    rw [sames_eq az _ h.1.2, sames_eq bs _ h.2, h.1.1]
  | .mp az bs, b, h => by
    cases b <;> simp only [same, Bool.and_eq_true] at h <;> try (cases h; done)
    rw [sames_eq az _ h.1, sames_eq bs _ h.2]
  | .agg az, b, h => by
    cases b <;> simp only [same] at h <;> try (cases h; done)
    rw [sames_eq az _ h]
  | .tup az, b, h => by
    cases b <;> simp only [same] at h <;> try (cases h; done)
    rw [sames_eq az _ h]
  | .junk, b, h => by cases b <;> simp [same] at h
theorem sames_eq : ∀ (l m : List AV), sames l m = true → l = m
  | [], m, h => by cases m <;> simp_all [sames]
  | a :: l, m, h => by
    cases m with
    | nil => simp [sames] at h
    | cons b m =>
      simp only [sames, Bool.and_eq_true] at h
      rw [same_eq a b h.1, sames_eq l m h.2]
end

section
variable {E : Env} {call : CallT} {t t' : List AV} {h h2 h' : Heap} {r : AV}

theorem opd_congr {x : Opd} (hx : ∀ s ∈ x.slots, get t s = get t' s) : opd t x = opd t' x := by
  cases x with
  | t i => exact hx i (by simp [Opd.slots])
  | c v => rfl

theorem opds_congr {xs : List Opd} (hx : ∀ s ∈ xs.flatMap Opd.slots, get t s = get t' s) : xs.map (opd t) = xs.map (opd t') :=
  List.map_congr_left fun x hm => opd_congr fun s hs => hx s (List.mem_flatMap.2 ⟨x, hm, hs⟩)

theorem bnd_congr {d : Nat} {x : Option Opd} (hx : ∀ s ∈ oslots x, get t s = get t' s) : bnd t d x = bnd t' d x := by
  cases x with
  | none => rfl
  | some x => simp only [bnd]; rw [opd_congr hx]

theorem evOp_congr (op : COp) (hs : ∀ s ∈ op.slots, get t s = get t' s) : evOp E call t h op = evOp E call t' h op := by
  have two : ∀ {l m : List Nat}, (∀ s ∈ l ++ m, get t s = get t' s) → (∀ s ∈ l, get t s = get t' s) ∧ ∀ s ∈ m, get t s = get t' s :=
    fun h => ⟨fun s hs => h s (List.mem_append_left _ hs), fun s hs => h s (List.mem_append_right _ hs)⟩
  cases op <;> simp only [COp.slots] at hs
  case mv x => simp only [evOp]; rw [opd_congr hs]
  case nilCheck x => simp only [evOp]; rw [opd_congr hs]
  case pick c a b =>
    obtain ⟨h1, h3⟩ := two hs
    obtain ⟨h1, h2⟩ := two h1
    simp only [evOp]; rw [opd_congr h1, opd_congr h2, opd_congr h3]
  case alloc => rfl
  case box s el x => simp only [evOp]; rw [opd_congr hs]
  case build z parts =>
    have e1 : (parts.map fun p => (p.1, p.2.1, opd t p.2.2)) = parts.map fun p => (p.1, p.2.1, opd t' p.2.2) := List.map_congr_left fun p hp => by
      rw [opd_congr fun s hs' => hs s (List.mem_flatMap.2 ⟨p, hp, hs'⟩)]
    have e2 : (parts.all fun p => (opd t p.2.2).cells.all AV.one) = parts.all fun p => (opd t' p.2.2).cells.all AV.one := by
      rw [Bool.eq_iff_iff]
      simp only [List.all_eq_true]
      constructor
      · intro h p hp
        have := h p hp
        rwa [opd_congr fun s hs' => hs s (List.mem_flatMap.2 ⟨p, hp, hs'⟩)] at this
      · intro h p hp
        have := h p hp
        rwa [← opd_congr fun s hs' => hs s (List.mem_flatMap.2 ⟨p, hp, hs'⟩)] at this
    simp only [evOp]; rw [e1, e2]
  case bsl s parts => simp only [evOp]; rw [opds_congr hs]
  case load g n x => simp only [evOp]; rw [opd_congr hs]
  case store n x y => obtain ⟨h1, h2⟩ := two hs; simp only [evOp]; rw [opd_congr h1, opd_congr h2]
  case bin ty op x y => obtain ⟨h1, h2⟩ := two hs; simp only [evOp]; rw [opd_congr h1, opd_congr h2]
  case eqs n ks x y => obtain ⟨h1, h2⟩ := two hs; simp only [evOp]; rw [opd_congr h1, opd_congr h2]
  case un op x => simp only [evOp]; rw [opd_congr hs]
  case conv c x => simp only [evOp]; rw [opd_congr hs]
  case fld off x => simp only [evOp]; rw [opd_congr hs]
  case part g n off x => simp only [evOp]; rw [opd_congr hs]
  case idxS s x y => obtain ⟨h1, h2⟩ := two hs; simp only [evOp]; rw [opd_congr h1, opd_congr h2]
  case idxA l s x y => obtain ⟨h1, h2⟩ := two hs; simp only [evOp]; rw [opd_congr h1, opd_congr h2]
  case idxStr x y => obtain ⟨h1, h2⟩ := two hs; simp only [evOp]; rw [opd_congr h1, opd_congr h2]
  case idxAgg g l s x y => obtain ⟨h1, h2⟩ := two hs; simp only [evOp]; rw [opd_congr h1, opd_congr h2]
  case sliceStr x lo hi =>
    obtain ⟨h1, h3⟩ := two hs
    obtain ⟨h1, h2⟩ := two h1
    have e2 : ∀ d, bnd t d lo = bnd t' d lo := fun d => bnd_congr h2
    have e3 : ∀ d, bnd t d hi = bnd t' d hi := fun d => bnd_congr h3
    simp only [evOp, e2, e3]; rw [opd_congr h1]
  case slice s x lo hi mx =>
    obtain ⟨h1, h4⟩ := two hs
    obtain ⟨h1, h3⟩ := two h1
    obtain ⟨h1, h2⟩ := two h1
    have e2 : ∀ d, bnd t d lo = bnd t' d lo := fun d => bnd_congr h2
    have e3 : ∀ d, bnd t d hi = bnd t' d hi := fun d => bnd_congr h3
    cases mx with
    | none => simp only [evOp, e2, e3]; rw [opd_congr h1]
    | some m =>
      have e4 : opd t m = opd t' m := opd_congr h4
      simp only [evOp, e2, e3, e4]; rw [opd_congr h1]
  case sliceArr => rfl
  case extract x i => simp only [evOp]; rw [opd_congr hs]
  case len b x => simp only [evOp]; rw [opd_congr hs]
  case cap x => simp only [evOp]; rw [opd_congr hs]
  case append el s b x y => obtain ⟨h1, h2⟩ := two hs; simp only [evOp]; rw [opd_congr h1, opd_congr h2]
  case appendZ el s b z x y => obtain ⟨h1, h2⟩ := two hs; simp only [evOp]; rw [opd_congr h1, opd_congr h2]
  case copy => rfl
  case mm m x xs => obtain ⟨h1, h2⟩ := two hs; simp only [evOp]; rw [opd_congr h1, opds_congr h2]
  case mkSlice el s b z x y => obtain ⟨h1, h2⟩ := two hs; simp only [evOp]; rw [opd_congr h1, opd_congr h2]
  case callF f i args => simp only [evOp]; rw [opds_congr hs]
  case callP f args => simp only [evOp]; rw [opds_congr hs]
  case callV x args => obtain ⟨h1, h2⟩ := two hs; simp only [evOp]; rw [opd_congr h1, opds_congr h2]
  case mkFn f az bs => obtain ⟨h1, h2⟩ := two hs; simp only [evOp]; rw [opds_congr h1, opds_congr h2]
  case lookup k z ok x y => obtain ⟨h1, h2⟩ := two hs; simp only [evOp]; rw [opd_congr h1, opd_congr h2]
  case rangeS x => simp only [evOp]; rw [opd_congr hs]
  case nextS x => simp only [evOp]; rw [opd_congr hs]
  case iface => rfl
  case uSliceData => rfl
  case uString => rfl
  case bad => rfl

theorem map_pair {α : Type} {o : Option AV} {h : Heap} {r : AV} {h' : Heap} (e : o.map (fun v => (v, h)) = some (r, h')) : o = some r ∧ h' = h := by
  simp only [Option.map_eq_some_iff, Prod.mk.injEq] at e
  obtain ⟨v, h1, rfl, rfl⟩ := e
  exact ⟨h1, rfl⟩

theorem binE_heap {ty : Nat} {op : BinOp} {x y : AV} (hp : ¬ ty = 2) : binE ty op x y h = binE ty op x y [] := by
  simp [binE, hp]

/-- What is pure is so at every heap. -/
theorem evOp_pure (op : COp) (hp : op.pure = true) (hev : evOp E call t h op = some (r, h')) : h' = h ∧ ∀ h2, evOp E call t h2 op = some (r, h2) := by
  have key : ∀ (g : Heap → Option (AV × Heap)), (∃ o : Option AV, ∀ h, g h = o.map fun v => (v, h)) → g h = some (r, h') → h' = h ∧ ∀ h2, g h2 = some (r, h2) := by
    rintro g ⟨o, ho⟩ hg
    rw [ho] at hg
    obtain ⟨h1, h2⟩ := map_pair (α := Unit) hg
    refine ⟨h2, fun h3 => ?_⟩
    rw [ho, h1]
    rfl
  refine key (fun h => evOp E call t h op) ?_ hev
  cases op <;> simp only [COp.pure] at hp <;> try (cases hp; done)
  case mv x => exact ⟨some (opd t x), fun h => rfl⟩
  case nilCheck x =>
    simp only [evOp]
    cases opd t x <;> first | exact ⟨some _, fun h => rfl⟩ | exact ⟨none, fun h => rfl⟩
  case pick c a b =>
    simp only [evOp]
    cases opd t c <;> first | exact ⟨some _, fun h => rfl⟩ | exact ⟨none, fun h => rfl⟩
  case build z parts =>
    simp only [evOp]
    split
    · exact ⟨(fillParts z (parts.map fun p => (p.1, p.2.1, opd t p.2.2))).map .agg, fun h => by simp [Option.map_map]; rfl⟩
    · exact ⟨none, fun h => rfl⟩
  case bsl s parts =>
    simp only [evOp]
    split
    · exact ⟨some _, fun h => rfl⟩
    · exact ⟨none, fun h => rfl⟩
  case bin ty op x y =>
    simp only [bne_iff_ne, ne_eq] at hp
    simp only [evOp]
    exact ⟨binE ty op (opd t x) (opd t y) [], fun h => by rw [binE_heap hp]⟩
  case eqs n ks x y =>
    simp only [evOp]
    cases opd t x <;> cases opd t y <;> first | exact ⟨none, fun h => rfl⟩ | skip
    rename_i az bs
    exact ⟨(eqCells ks az bs).map fun r => .bool (if n then !r else r), fun h => by simp [Option.map_map]; rfl⟩
  case un op x => exact ⟨un op (opd t x), fun h => rfl⟩
  case conv c x =>
    simp only [evOp]
    refine ⟨conv c (opd t x) [], fun h => ?_⟩
    congr 1
    cases c <;> simp only at hp <;> cases opd t x <;> first | rfl | (cases hp; done)
  case fld off x =>
    simp only [evOp]
    cases opd t x <;> first | exact ⟨some _, fun h => rfl⟩ | exact ⟨none, fun h => rfl⟩
  case part g n off x =>
    simp only [evOp]
    cases opd t x <;> first | exact ⟨none, fun h => rfl⟩ | skip
    rename_i cs
    exact ⟨ldE g n (.agg cs) off, fun h => rfl⟩
  case idxS s x y =>
    simp only [evOp]
    cases asNat (opd t y) with
    | none => exact ⟨none, fun h => rfl⟩
    | some k =>
      simp only [Option.bind_some]
      cases opd t x <;> first | exact ⟨none, fun h => rfl⟩ | skip
      case sl e0 s0 xs =>
        by_cases hs : s0 = s
        · exact ⟨(xs[k]?).map fun e => .vptr e 0, fun h => by simp only [hs, if_true, Option.map_map]; rfl⟩
        · exact ⟨none, fun h => by simp only [hs, if_false]; rfl⟩
      case osl id gen s0 b len =>
        by_cases hs : s0 = s ∧ k < len
        · exact ⟨some (.ptr id gen (b + k) 0), fun h => by simp only [hs, and_self, if_true]; rfl⟩
        · exact ⟨none, fun h => by simp only [hs, if_false]; rfl⟩
  case idxA l s x y =>
    simp only [evOp]
    cases asNat (opd t y) with
    | none => exact ⟨none, fun h => rfl⟩
    | some k =>
      simp only [Option.bind_some]
      split
      · cases opd t x <;> first | exact ⟨some _, fun h => rfl⟩ | exact ⟨none, fun h => rfl⟩
      · exact ⟨none, fun h => rfl⟩
  case idxStr x y =>
    simp only [evOp]
    cases asNat (opd t y) with
    | none => exact ⟨none, fun h => rfl⟩
    | some k =>
      simp only [Option.bind_some]
      cases opd t x <;> first | exact ⟨none, fun h => rfl⟩ | skip
      rename_i s
      exact ⟨(s[k]?).map byteAV, fun h => by simp [Option.map_map]; rfl⟩
  case idxAgg g l s x y =>
    simp only [evOp]
    cases asNat (opd t y) with
    | none => exact ⟨none, fun h => rfl⟩
    | some k =>
      simp only [Option.bind_some]
      split
      · cases opd t x <;> first | exact ⟨none, fun h => rfl⟩ | skip
        rename_i cs
        exact ⟨ldE g s (.agg cs) (k * s), fun h => rfl⟩
      · exact ⟨none, fun h => rfl⟩
  case sliceStr x lo hi =>
    simp only [evOp]
    cases opd t x <;> first | exact ⟨none, fun h => rfl⟩ | skip
    rename_i s
    cases bnd t 0 lo with
    | none => exact ⟨none, fun h => rfl⟩
    | some l =>
      simp only [Option.bind_some]
      cases bnd t s.length hi with
      | none => exact ⟨none, fun h => rfl⟩
      | some q =>
        simp only [Option.bind_some]
        split
        · exact ⟨some _, fun h => rfl⟩
        · exact ⟨none, fun h => rfl⟩
  case extract x i =>
    simp only [evOp]
    cases opd t x <;> first | exact ⟨none, fun h => rfl⟩ | skip
    rename_i vs
    exact ⟨vs[i]?, fun h => rfl⟩
  case len b x =>
    simp only [evOp]
    cases b <;> cases opd t x <;> first | exact ⟨none, fun h => rfl⟩ | exact ⟨some _, fun h => rfl⟩
  case mm m x xs =>
    simp only [evOp]
    cases opd t x <;> first | exact ⟨none, fun h => rfl⟩ | skip
    rename_i k a
    exact ⟨(minMax m a (xs.map (opd t)) k).map fun r => .int k r, fun h => by simp [Option.map_map]; rfl⟩
  case callP f args =>
    simp only [evOp]
    split
    · exact ⟨pureCall call f (args.map (opd t)), fun h => rfl⟩
    · exact ⟨none, fun h => rfl⟩
  case mkFn f az bs => exact ⟨some _, fun h => rfl⟩
  case lookup k z ok x y =>
    simp only [evOp]
    cases opd t x <;> first | exact ⟨none, fun h => rfl⟩ | skip
    rename_i ks vs
    by_cases hk : keyKind (opd t y) = k
    · exact ⟨(findK (opd t y) ks vs).map fun r => match (match r with | some v => (v, true) | none => (z, false) : AV × Bool) with | (v, b) => if ok then .tup [v, .bool b] else v, fun h => by simp only [hk, if_true, Option.map_map]; rfl⟩
    · exact ⟨none, fun h => by simp only [hk, if_false]; rfl⟩
  case iface => exact ⟨some _, fun h => rfl⟩

/-- What is still turns no heap. -/
theorem evOp_still (op : COp) (hp : op.still = true) (hev : evOp E call t h op = some (r, h')) : h' = h := by
  by_cases hpure : op.pure = true
  · exact (evOp_pure op hpure hev).1
  · cases op <;> simp only [COp.still] at hp <;> first | exact absurd hp hpure | skip
    case load g n x => simp only [evOp] at hev; exact (map_pair (α := Unit) hev).2
    case bin ty op x y => simp only [evOp] at hev; exact (map_pair (α := Unit) hev).2
    case conv c x => simp only [evOp] at hev; exact (map_pair (α := Unit) hev).2
    case slice s x lo hi mx =>
      simp only [evOp] at hev
      cases hx : opd t x <;> rw [hx] at hev <;> simp only at hev <;> try (cases hev; done)
      all_goals
        simp only [Option.bind_eq_some_iff] at hev
        obtain ⟨l, _, q, _, hev⟩ := hev
        split at hev
        · cases mx with
          | none => exact (map_pair (α := Unit) hev).2
          | some m =>
            simp only [Option.bind_eq_some_iff] at hev
            obtain ⟨m', _, hev⟩ := hev
            exact (map_pair (α := Unit) hev).2
        · cases hev
    case cap x =>
      simp only [evOp] at hev
      split at hev
      · exact (some_pair hev).2.symm
      · simp only [Option.bind_eq_some_iff] at hev
        obtain ⟨ob, _, c, _, hev⟩ := hev
        split at hev
        · exact (some_pair hev).2.symm
        · cases hev
      · cases hev

end
end Go.Proofs.VmX

/- A region whose order is drawn: the trace of the small machine's round. -/
set_option linter.unusedVariables false
set_option linter.unusedSimpArgs false
set_option linter.unusedSectionVars false
namespace Go.Proofs.VmX

/-- The slots behind some of a list's operations. -/
def curT (D : Nat → Option Nat) (V : Nat → AV) (p : Nat → Bool) (l : List Nat) (t : List AV) : List AV := l.foldl (fun t i => if p i then putO t (D i) (V i) else t) t

theorem get_putO_ne {t : List AV} {d : Option Nat} {v : AV} {s : Nat} (h : d ≠ some s) : get (putO t d v) s = get t s := by
  cases d with
  | none => rfl
  | some d => simp only [putO, get_put]; rw [if_neg (fun e => h (by rw [e]))]
theorem get_putO_eq {t : List AV} {v : AV} {s : Nat} : get (putO t (some s) v) s = v := by simp [putO, get_put]

section
variable {D : Nat → Option Nat} {V : Nat → AV}

theorem curT_congr {p q : Nat → Bool} {s : Nat} : ∀ (l : List Nat) (t t' : List AV), get t s = get t' s → (∀ j ∈ l, D j = some s → p j = q j) → get (curT D V p l t) s = get (curT D V q l t') s := by
  intro l
  induction l with
  | nil => intro t t' h _; exact h
  | cons j l ih =>
    intro t t' h hpq
    simp only [curT, List.foldl_cons]
    refine ih _ _ ?_ (fun k hk => hpq k (List.mem_cons_of_mem _ hk))
    by_cases hd : D j = some s
    · rw [hpq j (by simp) hd]
      split
      · rw [hd, get_putO_eq, get_putO_eq]
      · exact h
    · have e1 : get (if p j then putO t (D j) (V j) else t) s = get t s := by split; exact get_putO_ne hd; rfl
      have e2 : get (if q j then putO t' (D j) (V j) else t') s = get t' s := by split; exact get_putO_ne hd; rfl
      rw [e1, e2, h]

theorem curT_other {p : Nat → Bool} {s : Nat} : ∀ (l : List Nat) (t : List AV), (∀ j ∈ l, p j = true → D j ≠ some s) → get (curT D V p l t) s = get t s := by
  intro l
  induction l with
  | nil => intro t _; rfl
  | cons j l ih =>
    intro t h
    simp only [curT, List.foldl_cons]
    have := ih (if p j then putO t (D j) (V j) else t) (fun k hk => h k (List.mem_cons_of_mem _ hk))
    rw [curT] at this
    rw [this]
    split
    · rename_i hp
      exact get_putO_ne (h j (by simp) hp)
    · rfl

theorem curT_append {p : Nat → Bool} (a b : List Nat) (t : List AV) : curT D V p (a ++ b) t = curT D V p b (curT D V p a t) := by simp [curT]

theorem curT_add {p q : Nat → Bool} {i : Nat} (a b : List Nat) (t : List AV) (hpi : p i = false) (hqi : q i = true) (ha : ∀ j ∈ a, q j = p j) (hb : ∀ j ∈ b, q j = p j) (hno : ∀ s, D i = some s → ∀ j ∈ b, p j = true → D j ≠ some s) (s : Nat) :
    get (curT D V q (a ++ i :: b) t) s = get (putO (curT D V p (a ++ i :: b) t) (D i) (V i)) s := by
  have ea : curT D V q a t = curT D V p a t := by
    unfold curT
    clear hno hb
    induction a generalizing t with
    | nil => rfl
    | cons j a ih => simp only [List.foldl_cons]; rw [ha j (by simp)]; exact ih _ (fun k hk => ha k (List.mem_cons_of_mem _ hk))
  rw [curT_append, curT_append, ea]
  have e1 : curT D V q (i :: b) (curT D V p a t) = curT D V q b (putO (curT D V p a t) (D i) (V i)) := by simp [curT, hqi]
  have e2 : curT D V p (i :: b) (curT D V p a t) = curT D V p b (curT D V p a t) := by simp [curT, hpi]
  rw [e1, e2]
  by_cases hd : D i = some s
  · rw [hd, get_putO_eq, curT_other b _ (fun j hj hq => hno s hd j hj (by rw [← hb j hj]; exact hq)), get_putO_eq]
  · rw [get_putO_ne hd]
    exact curT_congr b _ _ (get_putO_ne hd) (fun j hj _ => hb j hj)

theorem curT_vals {V2 : Nat → AV} {p : Nat → Bool} : ∀ (l : List Nat) (t : List AV), (∀ j ∈ l, V j = V2 j) → curT D V p l t = curT D V2 p l t := by
  intro l
  induction l with
  | nil => intro t _; rfl
  | cons j l ih => intro t h; simp only [curT, List.foldl_cons]; rw [h j (by simp)]; exact ih _ (fun k hk => h k (List.mem_cons_of_mem _ hk))
end

section
variable {E : Env} {call : CallT}

/-- One operation of the round. -/
structure Step (E : Env) (call : CallT) (c : CI) (lo : Nat) (eff : Bool) (v : AV) (T : List AV) (hs' : List Heap) (cnt : Nat) : Prop where
  ok : ∃ b h, wantedA T c.g = some b ∧ hs'[lo]? = some h ∧ (b = true → ∃ h', evOp E call T h c.op = some (v, h') ∧ (eff = true → hs'[cnt]? = some h')) ∧ (b = false → v = .tup [] ∧ (eff = true → hs'[cnt]? = some h))

theorem evD_trace (c : Nat → CI) (lo : Nat → Nat) (eff : Nat → Bool) : ∀ (m k : Nat) (t : List AV) (hs : List Heap) (t' : List AV) (hs' : List Heap),
    evD E call ((List.range' k m).map fun i => { ci := c i, lo := lo i, eff := eff i }) t hs = some (t', hs') →
    ∃ V : Nat → AV, t' = curT (fun i => (c i).dst) V (fun _ => true) (List.range' k m) t ∧ (∃ ext : List Heap, hs' = hs ++ ext ∧ ext.length = (List.range' k m).countP eff) ∧
      ∀ i, k ≤ i → i < k + m → Step E call (c i) (lo i) (eff i) (V i) (curT (fun i => (c i).dst) V (fun _ => true) (List.range' k (i - k)) t) hs' (hs.length + (List.range' k (i - k)).countP eff) := by
  intro m
  induction m with
  | zero =>
    intro k t hs t' hs' hev
    simp only [List.range'_zero, List.map_nil, evD] at hev
    obtain ⟨rfl, rfl⟩ := some_pair hev
    exact ⟨fun _ => .junk, rfl, ⟨[], by simp, by simp⟩, fun i h1 h2 => by omega⟩
  | succ m ih =>
    intro k t hs t' hs' hev
    rw [List.range'_succ, List.map_cons] at hev
    simp only [evD, Option.bind_eq_some_iff] at hev
    obtain ⟨b, hb, h, hh, hev⟩ := hev
    -- what the head gives
    have fin : ∀ (v : AV) (h' : Heap), evD E call ((List.range' (k + 1) m).map fun i => { ci := c i, lo := lo i, eff := eff i }) (putO t (c k).dst v) (if eff k then hs ++ [h'] else hs) = some (t', hs') →
        (b = true → evOp E call t h (c k).op = some (v, h')) → (b = false → v = .tup [] ∧ h' = h) →
        ∃ V : Nat → AV, t' = curT (fun i => (c i).dst) V (fun _ => true) (k :: List.range' (k + 1) m) t ∧ (∃ ext : List Heap, hs' = hs ++ ext ∧ ext.length = (k :: List.range' (k + 1) m).countP eff) ∧
          ∀ i, k ≤ i → i < k + (m + 1) → Step E call (c i) (lo i) (eff i) (V i) (curT (fun i => (c i).dst) V (fun _ => true) (List.range' k (i - k)) t) hs' (hs.length + (List.range' k (i - k)).countP eff) := by
      intro v h' hev h1 h2
      obtain ⟨V, e1, ⟨ext, e2, e3⟩, e4⟩ := ih (k + 1) _ _ t' hs' hev
      have hne : ∀ (n : Nat), ∀ j ∈ List.range' (k + 1) n, (fun j => if j = k then v else V j) j = V j := by
        intro n j hj
        have := List.mem_range'_1.1 hj
        simp only
        rw [if_neg (by omega)]
      have hpre : ∀ (n : Nat), curT (fun i => (c i).dst) (fun j => if j = k then v else V j) (fun _ => true) (k :: List.range' (k + 1) n) t = curT (fun i => (c i).dst) V (fun _ => true) (List.range' (k + 1) n) (putO t (c k).dst v) := by
        intro n
        simp only [curT, List.foldl_cons, if_true]
        exact curT_vals (p := fun _ => true) _ _ (hne n)
      have hex : ∃ ext' : List Heap, hs' = hs ++ ext' ∧ ext'.length = (k :: List.range' (k + 1) m).countP eff ∧ (eff k = true → hs'[hs.length]? = some h') := by
        rw [List.countP_cons]
        by_cases he : eff k = true
        · rw [if_pos he] at e2
          refine ⟨h' :: ext, by rw [e2]; simp, by simp [e3, he], fun _ => by rw [e2]; simp⟩
        · rw [if_neg he] at e2
          exact ⟨ext, e2, by simp [e3, he], fun h => absurd h he⟩
      obtain ⟨ext', g1, g2, g3⟩ := hex
      refine ⟨fun j => if j = k then v else V j, by rw [hpre]; exact e1, ⟨ext', g1, g2⟩, fun i hk hi => ?_⟩
      by_cases hik : i = k
      · subst hik
        simp only [Nat.sub_self, List.range'_zero, if_true, List.countP_nil, Nat.add_zero]
        refine ⟨b, h, hb, ?_, fun hbt => ⟨h', h1 hbt, g3⟩, fun hbf => ⟨(h2 hbf).1, fun he => by rw [← (h2 hbf).2]; exact g3 he⟩⟩
        rw [g1, List.getElem?_append_left (List.getElem?_eq_some_iff.1 hh).1]
        exact hh
      · have := e4 i (by omega) (by omega)
        have hr : List.range' k (i - k) = k :: List.range' (k + 1) (i - (k + 1)) := by
          rw [show i - k = (i - (k + 1)) + 1 by omega, List.range'_succ]
        rw [hr, hpre]
        simp only
        rw [if_neg hik]
        have hc : hs.length + (k :: List.range' (k + 1) (i - (k + 1))).countP eff = (if eff k then hs ++ [h'] else hs).length + (List.range' (k + 1) (i - (k + 1))).countP eff := by
          rw [List.countP_cons]
          by_cases he : eff k = true
          · simp [he]; omega
          · simp [he]
        rw [hc]
        exact this
    rw [List.range'_succ]
    cases b with
    | true =>
      simp only [if_true, Option.bind_eq_some_iff] at hev
      obtain ⟨⟨v, h'⟩, hop, hev⟩ := hev
      exact fin v h' hev (fun _ => hop) (fun q => by cases q)
    | false =>
      simp only [Bool.false_eq_true, if_false] at hev
      exact fin (.tup []) h hev (fun q => by cases q) (fun _ => ⟨rfl, rfl⟩)

/-- A second look, at its place. -/
theorem evC_at {t : List AV} {hs : List Heap} : ∀ {l : List CK}, evC E call t hs l = true → ∀ c ∈ l, wantedA t c.ci.g = some false ∨ (wantedA t c.ci.g = some true ∧ ∃ h d r, hs[c.at_]? = some h ∧ c.ci.dst = some d ∧ evOp E call t h c.ci.op = some r ∧ r.1 = get t d) := by
  intro l
  induction l with
  | nil => intro _ c hc; cases hc
  | cons x l ih =>
    intro h c hc
    simp only [evC, Bool.and_eq_true] at h
    rcases List.mem_cons.1 hc with rfl | hc
    · have h1 := h.1
      split at h1
      · rename_i hw
        right
        refine ⟨hw, ?_⟩
        split at h1
        · rename_i hp d hh hd
          split at h1
          · rename_i r hr
            exact ⟨hp, d, r, hh, hd, hr, same_eq _ _ h1⟩
          · cases h1
        · cases h1
      · rename_i hw; exact .inl hw
      · cases h1
    · exact ih h.2 c hc
end
end Go.Proofs.VmX

/- A region whose order is drawn: in every order the small machine's round. -/
set_option linter.unusedVariables false
set_option linter.unusedSimpArgs false
set_option linter.unusedSectionVars false
namespace Go.Proofs.VmX
open Go.RowKit

theorem countP_set {p q : Nat → Bool} {i n : Nat} (hi : i < n) (hp : p i = false) (hq : q i = true) (hr : ∀ j, j < n → j ≠ i → q j = p j) : (List.range n).countP q = (List.range n).countP p + 1 := by
  induction n with
  | zero => omega
  | succ n ih =>
    rw [List.range_succ, List.countP_append, List.countP_append]
    simp only [List.countP_cons, List.countP_nil]
    by_cases hin : i = n
    · subst hin
      have : (List.range i).countP q = (List.range i).countP p := List.countP_congr fun j hj => by
        have := List.mem_range.1 hj
        rw [hr j (by omega) (by omega)]
      rw [this, hp, hq]
      simp
    · rw [ih (by omega) (fun j hj => hr j (by omega)), hr n (by omega) (fun h => hin h.symm)]
      omega

theorem countP_le {p q : Nat → Bool} {n : Nat} (h : ∀ j, j < n → p j = true → q j = true) : (List.range n).countP p ≤ (List.range n).countP q := by
  induction n with
  | zero => simp
  | succ n ih =>
    rw [List.range_succ, List.countP_append, List.countP_append]
    have := ih (fun j hj => h j (by omega))
    have h1 := h n (by omega)
    simp only [List.countP_cons, List.countP_nil]
    cases hp : p n with
    | true => simp [h1 hp]; omega
    | false => simp; omega

theorem countP_eq {p q : Nat → Bool} {n : Nat} (h : ∀ j, j < n → p j = q j) : (List.range n).countP p = (List.range n).countP q :=
  List.countP_congr fun j hj => by rw [h j (List.mem_range.1 hj)]

theorem countP_prefix {p : Nat → Bool} : ∀ {n i : Nat}, i ≤ n → (List.range i).countP p = (List.range n).countP fun j => p j && decide (j < i) := by
  intro n
  induction n with
  | zero => intro i hi; have : i = 0 := by omega
            subst this; simp
  | succ n ih =>
    intro i hi
    rw [List.range_succ, List.countP_append]
    simp only [List.countP_cons, List.countP_nil]
    by_cases hin : i = n + 1
    · subst hin
      rw [List.range_succ, List.countP_append]
      have e : (List.range n).countP (fun j => p j && decide (j < n + 1)) = (List.range n).countP p := countP_eq fun j hj => by simp; omega
      rw [e]
      simp [List.countP_cons]
    · rw [ih (by omega)]
      simp
      omega

/-- What a plan says, once looked through. -/
structure PlanOK (p : Plan) (ops : Array Oper) : Prop where
  size : p.n = ops.size
  low : ∀ i j, p.before i j = true → j < p.n → i < j
  up : ∀ i j, p.before i j = true → j < p.n → i ∈ bindPreds (ops.getD j default) ∨ ∃ q ∈ bindPreds (ops.getD j default), p.before i q = true
  direct : ∀ j, j < p.n → ∀ q ∈ bindPreds (ops.getD j default), p.before q j = true
  pair : ∀ i j, i < j → j < p.n → p.pairOK i j = true
  again : ∀ i, i < p.n → p.again i = true → (p.ci i).dst.isSome = true ∧ ∀ j d, j < p.n → (p.ci j).dst = some d → (d ∈ (p.ci i).reads → p.before j i = true) ∧ (j ≠ i → (p.ci i).dst ≠ some d)

theorem planOK (p : Plan) (ops : Array Oper) (hn : p.n = ops.size) (h1 : p.ancOK ops = true) (h2 : p.pairsOK = true) (h3 : p.againOK = true) : PlanOK p ops := by
  have a1 : ∀ j, j < p.n → (∀ k ∈ p.anc.getD j [], (k < j ∧ (k ∈ bindPreds (ops.getD j default) ∨ ∃ q ∈ bindPreds (ops.getD j default), p.before k q = true))) ∧ ∀ q ∈ bindPreds (ops.getD j default), p.before q j = true := by
    intro j hj
    have := List.all_eq_true.1 h1 j (List.mem_range.2 hj)
    simp only [Bool.and_eq_true, List.all_eq_true, decide_eq_true_eq, Bool.or_eq_true, List.contains_iff_mem, List.any_eq_true] at this
    exact ⟨fun k hk => by
      obtain ⟨b1, b2⟩ := this.1 k hk
      exact ⟨b1, b2⟩, this.2⟩
  refine ⟨hn, fun i j hb hj => ?_, fun i j hb hj => ?_, fun j hj q hq => (a1 j hj).2 q hq, fun i j hij hj => ?_, fun i hi hag => ?_⟩
  · have hm : i ∈ p.anc.getD j [] := by simpa [Plan.before] using hb
    exact ((a1 j hj).1 i hm).1
  · have hm : i ∈ p.anc.getD j [] := by simpa [Plan.before] using hb
    exact ((a1 j hj).1 i hm).2
  · exact List.all_eq_true.1 (List.all_eq_true.1 h2 j (List.mem_range.2 hj)) i (List.mem_range.2 hij)
  · have := List.all_eq_true.1 h3 i (List.mem_range.2 hi)
    rw [hag] at this
    simp only [Bool.not_true, Bool.false_or, Bool.and_eq_true, List.all_eq_true] at this
    refine ⟨this.1, fun j d hj hd => ?_⟩
    have h := this.2 j (List.mem_range.2 hj)
    rw [hd] at h
    simp only [Bool.and_eq_true, Bool.or_eq_true, Bool.not_eq_true', beq_iff_eq, bne_iff_ne, ne_eq] at h
    refine ⟨fun hr => h.1.resolve_left (fun hc => ?_), fun hne => h.2.resolve_left hne⟩
    have : (p.ci i).reads.contains d = true := by simpa using hr
    rw [this] at hc
    cases hc

section
variable {P : Program} {H : Hints} {S : Nat → Nat → Prop} {B N : Nat} {φ0 φ : Phi} {h0 h : Heap} {w0 w : World} {d0 : List Deferred} {E : Env} {call : CallT}

theorem Plan.dst_lt {p : Plan} {i d : Nat} (h : (p.ci i).dst = some d) : i < p.n := by
  rcases Nat.lt_or_ge i p.n with h1 | h1
  · exact h1
  · unfold Plan.ci at h
    rw [List.getD_eq_getElem?_getD, List.getElem?_eq_none h1] at h
    simp at h

set_option maxHeartbeats 1000000 in
theorem draw_any (hgr : ∀ g, rf (H.glob g) = true) (hsim : SimCall P H call) (hE : E.inl = H.inl) (f : Nat) (ops : Array Oper) (hd : dstsIn N ops = true) (p : Plan) (hp : PlanOK p ops)
    (strict : Bool) (hci : ∀ i, i < ops.size → p.ci i = cOper P H f strict ops (ops.getD i default)) (t t' : List AV) (hh : Heap) (hs' : List Heap)
    (hev : evD E call ((List.range p.n).map fun i => { ci := p.ci i, lo := p.lo i, eff := p.eff i }) t [hh] = some (t', hs')) (hchk : evC E call t' hs' p.chk = true) :
    ∀ (m : Nat) (φ : Phi) (w : World) (a : Act), Pst H S B N φ0 h0 w0 d0 ⟨t, hh⟩ a φ w →
      wpAny P .any ops (fun e a' w' => e = .normal ∧ ∃ φ', Pst H S B N φ0 h0 w0 d0 ⟨t', hs'.getLastD []⟩ a' φ' w') ops.size (Array.replicate ops.size false) a w := by
  intro _
  have hn := hp.size
  rw [List.range_eq_range'] at hev
  obtain ⟨V, ht', ⟨ext, hext, hextl⟩, htr⟩ := evD_trace p.ci p.lo p.eff p.n 0 t [hh] t' hs' hev
  simp only [← List.range_eq_range', Nat.sub_zero, Nat.zero_add, List.length_singleton] at ht' hextl htr
  -- the slots as they stood
  have hT : ∀ i, i ≤ p.n → ∀ s, get (curT (fun i => (p.ci i).dst) V (fun _ => true) (List.range i) t) s = get (curT (fun i => (p.ci i).dst) V (fun j => decide (j < i)) (List.range p.n) t) s := by
    intro i hi s
    have hsplit : List.range p.n = List.range i ++ (List.range' i (p.n - i)) := by
      rw [List.range_eq_range', List.range_eq_range']
      have := List.range'_append_1 (s := 0) (m := i) (n := p.n - i)
      rw [Nat.zero_add] at this
      rw [this]
      congr 1
      omega
    rw [hsplit, curT_append, curT_other (List.range' i (p.n - i)) _ (fun j hj hlt => by
      have := List.mem_range'_1.1 hj
      simp at hlt
      omega)]
    exact curT_congr (List.range i) t t rfl (fun j hj _ => by simp [List.mem_range.1 hj])
  have main : ∀ (fuel : Nat) (L : Array Bool) (φ : Phi) (w : World) (a : Act), L.size = ops.size → (∀ j, j < p.n → L.getD j false = true → ∀ k, p.before k j = true → L.getD k false = true) →
      (List.range p.n).countP (fun j => !L.getD j false) = fuel →
      (∃ hL, hs'[(List.range p.n).countP fun j => p.eff j && L.getD j false]? = some hL ∧ Pst H S B N φ0 h0 w0 d0 ⟨curT (fun i => (p.ci i).dst) V (fun j => L.getD j false) (List.range p.n) t, hL⟩ a φ w) →
      wpAny P .any ops (fun e a' w' => e = .normal ∧ ∃ φ', Pst H S B N φ0 h0 w0 d0 ⟨t', hs'.getLastD []⟩ a' φ' w') fuel L a w := by
    intro fuel
    induction fuel with
    | zero =>
      intro L φ w a hsz hcl hcnt hst
      have hall : ∀ j, j < p.n → L.getD j false = true := by
        intro j hj
        have := (List.countP_eq_zero.1 hcnt) j (List.mem_range.2 hj)
        simpa using this
      refine ⟨?_, rfl, φ, ?_⟩
      · cases hr : Region.ready .any ops L with
        | nil => rfl
        | cons i rest =>
          exfalso
          have hi : i ∈ Region.ready .any ops L := by rw [hr]; simp
          obtain ⟨h1, o, ho, _⟩ := mem_ready.1 hi
          have hlt : i < ops.size := (Array.getElem?_eq_some_iff.1 ho).1
          have h2 := hall i (by omega)
          have hli : i < L.size := by omega
          simp [Array.getD, hli] at h1 h2
          rw [h1] at h2
          cases h2
      · obtain ⟨hL, hl1, hl2⟩ := hst
        have ecur : ∀ s, get (curT (fun i => (p.ci i).dst) V (fun j => L.getD j false) (List.range p.n) t) s = get t' s := by
          intro s
          rw [ht']
          exact curT_congr (List.range p.n) t t rfl (fun j hj _ => hall j (List.mem_range.1 hj))
        have ecnt : (List.range p.n).countP (fun j => p.eff j && L.getD j false) = (List.range p.n).countP p.eff := countP_eq fun j hj => by rw [hall j hj]; simp
        have elast : hs'.getLastD [] = hL := by
          rw [ecnt, hext] at hl1
          have hlen : hs'.length = 1 + (List.range p.n).countP p.eff := by rw [hext]; simp [hextl]; omega
          rw [← hext] at hl1
          rw [List.getLastD_eq_getLast?, List.getLast?_eq_getElem?, hlen, show 1 + (List.range p.n).countP p.eff - 1 = (List.range p.n).countP p.eff by omega, hl1]
          rfl
        rw [elast]
        exact ⟨hl2.rel, hl2.ext, fun s => by show VR _ _ _ _ (get t' s) _; rw [← ecur s]; exact hl2.tr s, hl2.size, hl2.defers, hl2.below⟩
    | succ fuel ih =>
      intro L φ w a hsz hcl hcnt hst
      refine ⟨fun hrd => ?_, fun i hi => ?_⟩
      · -- the lowest that is not listed is ready
        exfalso
        have hex : ∃ j, j < p.n ∧ L.getD j false = false := by
          refine Classical.byContradiction fun hno => ?_
          have : (List.range p.n).countP (fun j => !L.getD j false) = 0 := List.countP_eq_zero.2 fun j hj => by
            have hj := List.mem_range.1 hj
            cases hq : L.getD j false with
            | true => simp
            | false => exact absurd ⟨j, hj, hq⟩ hno
          omega
        have hmin : ∀ n j, j ≤ n → j < p.n → L.getD j false = false → ∃ i, i < p.n ∧ L.getD i false = false ∧ ∀ k, k < i → L.getD k false = true := by
          intro n
          induction n with
          | zero => intro j hj hjn hjl; exact ⟨j, hjn, hjl, fun k hk => by omega⟩
          | succ n ihn =>
            intro j hj hjn hjl
            by_cases hk : ∃ k, k < j ∧ L.getD k false = false
            · obtain ⟨k, hk1, hk2⟩ := hk
              exact ihn k (by omega) (by omega) hk2
            · refine ⟨j, hjn, hjl, fun k hk' => ?_⟩
              cases hq : L.getD k false with
              | true => rfl
              | false => exact absurd ⟨k, hk', hq⟩ hk
        obtain ⟨j, hj1, hj2⟩ := hex
        obtain ⟨i, hi1, hi2, hi3⟩ := hmin j j (Nat.le_refl _) hj1 hj2
        have hio : i < ops.size := by omega
        have : i ∈ Region.ready .any ops L := by
          refine mem_ready.2 ⟨?_, ops[i], Array.getElem?_eq_getElem hio, fun e he hb => ?_⟩
          · have : i < L.size := by omega
            simp [Array.getD, this] at hi2 ⊢
            exact hi2
          · have hg : ops.getD i default = ops[i] := by simp [Array.getD, hio]
            have hq : e.on ∈ bindPreds (ops.getD i default) := by
              rw [hg]
              simp only [bindPreds, List.mem_map, List.mem_filter]
              exact ⟨e, ⟨by simpa using he, hb⟩, rfl⟩
            exact hi3 _ (hp.low _ _ (hp.direct i hi1 _ hq) hi1)
        rw [hrd] at this
        cases this
      · obtain ⟨hiu, o, ho, hpre⟩ := mem_ready.1 hi
        have hio : i < ops.size := (Array.getElem?_eq_some_iff.1 ho).1
        have hin : i < p.n := by omega
        have hget : ops.getD i default = o := by
          have := (Array.getElem?_eq_some_iff.1 ho).2
          simp [Array.getD, hio, this]
        have hLi : L.getD i false = false := by
          have : i < L.size := by omega
          simp [Array.getD, this] at hiu ⊢
          exact hiu
        have hpreds : ∀ q ∈ bindPreds o, L.getD q false = true := by
          intro q hq
          simp only [bindPreds, List.mem_map, List.mem_filter] at hq
          obtain ⟨e, ⟨he, hb⟩, rfl⟩ := hq
          exact hpre e (by simpa using he) hb
        have hbef : ∀ k, p.before k i = true → L.getD k false = true := by
          intro k hk
          rcases hp.up k i hk hin with h1 | ⟨q, h1, h2⟩
          · exact hpreds k (by rw [hget] at h1; exact h1)
          · have hq := hpreds q (by rw [hget] at h1; exact h1)
            have hqn : q < p.n := Nat.lt_trans (hp.low q i (hp.direct i hin q h1) hin) hin
            exact hcl q hqn hq k h2
        have haft : ∀ j, j < p.n → p.before i j = true → L.getD j false = false := by
          intro j hj hb
          cases hq : L.getD j false with
          | false => rfl
          | true => have := hcl j hj hq i hb; rw [hLi] at this; cases this
        -- the compiled operation
        have hc := hci i hio
        rw [hget] at hc
        obtain ⟨hL, hl1, hl2⟩ := hst
        have hstep := htr i (Nat.zero_le _) hin
        obtain ⟨b, hlo, s1, s2, s3, s4⟩ := hstep.ok
        have hgood : ∃ g, cGuard ops o.guard = some g ∧ p.ci i = { dst := o.dst, op := cOp P H f strict o, g } := by
          rcases cOper_spec (P := P) (H := H) (f := f) (strict := strict) (ops := ops) (o := o) with ⟨g, hg, hcc⟩ | hcc
          · exact ⟨g, hg, hc.trans hcc⟩
          · exfalso
            rw [hc, hcc] at s1 s3
            simp only [wantedA] at s1
            injection s1 with s1
            obtain ⟨h', h1, _⟩ := s3 s1.symm
            simp [evOp] at h1
        obtain ⟨g, hg, hcg⟩ := hgood
        -- slots that it looks at
        have hagree : ∀ s ∈ (p.ci i).reads, get (curT (fun i => (p.ci i).dst) V (fun j => L.getD j false) (List.range p.n) t) s = get (curT (fun i => (p.ci i).dst) V (fun _ => true) (List.range i) t) s := by
          intro s hs
          rw [hT i (by omega) s]
          refine curT_congr (List.range p.n) t t rfl (fun j hj hds => ?_)
          have hj := List.mem_range.1 hj
          rcases Nat.lt_trichotomy j i with hji | hji | hji
          · have hpr := hp.pair j i hji hin
            simp only [Plan.pairOK, Bool.or_eq_true, Bool.and_eq_true] at hpr
            rcases hpr with hb | hb
            · rw [hbef j hb]; simp [hji]
            · have := hb.1.2
              rw [hds] at this
              simp only [Bool.and_eq_true, Bool.not_eq_true'] at this
              have h2 : (p.ci i).reads.contains s = true := by simpa using hs
              rw [h2] at this
              cases this.1
          · subst hji
            rw [hLi]; simp
          · have hpr := hp.pair i j hji hj
            simp only [Plan.pairOK, Bool.or_eq_true, Bool.and_eq_true] at hpr
            rcases hpr with hb | hb
            · rw [haft j hj hb]
              have : ¬ j < i := by omega
              simp [this]
            · have := hb.2
              rw [hds] at this
              simp only [Bool.not_eq_true'] at this
              have h2 : (p.ci i).reads.contains s = true := by simpa using hs
              rw [h2] at this
              cases this
        have hwcongr : ∀ (t1 t2 : List AV), (∀ s ∈ (p.ci i).reads, get t1 s = get t2 s) → wantedA t1 (p.ci i).g = wantedA t2 (p.ci i).g := by
          intro t1 t2 hs
          cases hgg : (p.ci i).g with
          | none => rfl
          | some q =>
            obtain ⟨s, want⟩ := q
            have := hs s (by simp [CI.reads, hgg, guardSlots])
            simp only [wantedA, this]
        have hopcongr : ∀ (t1 t2 : List AV) (h : Heap), (∀ s ∈ (p.ci i).reads, get t1 s = get t2 s) → evOp E call t1 h (p.ci i).op = evOp E call t2 h (p.ci i).op := fun t1 t2 h hs =>
          evOp_congr _ fun s hs' => hs s (by simp only [CI.reads, List.mem_append]; exact .inr hs')
        have hwanted : wantedA (curT (fun i => (p.ci i).dst) V (fun j => L.getD j false) (List.range p.n) t) (p.ci i).g = some b := by rw [hwcongr _ _ hagree]; exact s1
        -- heaps
        have hloc : p.lo i ≤ (List.range p.n).countP fun j => p.eff j && L.getD j false := countP_le fun j hj hh => by
          simp only [Bool.and_eq_true] at hh ⊢
          exact ⟨hh.1, hbef j hh.2⟩
        have hhic : ((List.range p.n).countP fun j => p.eff j && L.getD j false) ≤ p.hi i := countP_le fun j hj hh => by
          simp only [Bool.and_eq_true, Bool.not_eq_true'] at hh ⊢
          refine ⟨hh.1, ?_⟩
          cases hq : p.before i j with
          | false => rfl
          | true => have := haft j hj hq; rw [this] at hh; cases hh.2
        have hnew : (List.range p.n).countP (fun j => p.eff j && (L.setIfInBounds i true).getD j false) = ((List.range p.n).countP fun j => p.eff j && L.getD j false) + (if p.eff i then 1 else 0) := by
          have hset : ∀ j, j ≠ i → (L.setIfInBounds i true).getD j false = L.getD j false := fun j hj => getD_set_ne false (Ne.symm hj)
          have hself : (L.setIfInBounds i true).getD i false = true := by
            have : i < L.size := by omega
            simp [this]
          by_cases he : p.eff i = true
          · rw [if_pos he]
            exact countP_set hin (by simp [hLi]) (by rw [he, hself]; rfl) (fun j hj hne => by rw [hset j hne])
          · rw [if_neg he]
            have he' : p.eff i = false := by simpa using he
            exact countP_eq fun j hj => by
              by_cases hji : j = i
              · subst hji; rw [he']; simp
              · rw [hset j hji]
        have heffeq : p.eff i = true → ((List.range p.n).countP fun j => p.eff j && L.getD j false) = (List.range i).countP p.eff ∧ p.lo i = (List.range i).countP p.eff := by
          intro he
          have key : ∀ j, j < p.n → p.eff j = true → (L.getD j false = decide (j < i)) ∧ (p.before j i = decide (j < i)) := by
            intro j hj hej
            rcases Nat.lt_trichotomy j i with hji | hji | hji
            · have hpr := hp.pair j i hji hin
              simp only [Plan.pairOK, Bool.or_eq_true, Bool.and_eq_true, hej, he, Bool.and_self, Bool.not_true, Bool.false_eq_true, false_and, or_false] at hpr
              rw [hbef j hpr, hpr]
              simp [hji]
            · subst hji
              refine ⟨by rw [hLi]; simp, ?_⟩
              cases hq : p.before j j with
              | false => simp
              | true => have := hp.low j j hq hin; omega
            · have hpr := hp.pair i j hji hj
              simp only [Plan.pairOK, Bool.or_eq_true, Bool.and_eq_true, hej, he, Bool.and_self, Bool.not_true, Bool.false_eq_true, false_and, or_false] at hpr
              have hn' : ¬ j < i := by omega
              refine ⟨by rw [haft j hj hpr]; simp [hn'], ?_⟩
              cases hq : p.before j i with
              | false => simp [hn']
              | true => have := hp.low j i hq hin; omega
          have e1 : ∀ j, j < p.n → (p.eff j && L.getD j false) = (p.eff j && decide (j < i)) := fun j hj => by
            cases hej : p.eff j with
            | false => rfl
            | true => rw [(key j hj hej).1]
          have e2 : ∀ j, j < p.n → (p.eff j && p.before j i) = (p.eff j && decide (j < i)) := fun j hj => by
            cases hej : p.eff j with
            | false => rfl
            | true => rw [(key j hj hej).2]
          exact ⟨(countP_eq e1).trans (countP_prefix (by omega)).symm, (countP_eq e2).trans (countP_prefix (by omega)).symm⟩
        -- it gives the same value
        have hval : ∃ h2, hs'[(List.range p.n).countP fun j => p.eff j && (L.setIfInBounds i true).getD j false]? = some h2 ∧
            (b = true → evOp E call (curT (fun i => (p.ci i).dst) V (fun j => L.getD j false) (List.range p.n) t) hL (p.ci i).op = some (V i, h2)) ∧ (b = false → V i = .tup [] ∧ h2 = hL) := by
          rw [hnew]
          by_cases he : p.eff i = true
          · obtain ⟨q1, q2⟩ := heffeq he
            rw [if_pos he]
            have hLlo : hlo = hL := by
              rw [q2, ← q1, hl1] at s2
              exact (Option.some.inj s2).symm
            subst hLlo
            rw [q1, Nat.add_comm]
            cases b with
            | true =>
              obtain ⟨h', r1, r2⟩ := s3 rfl
              exact ⟨h', r2 he, fun _ => by rw [hopcongr _ _ _ hagree]; exact r1, fun q => by cases q⟩
            | false =>
              obtain ⟨r1, r2⟩ := s4 rfl
              refine ⟨hlo, r2 he, ?_, ?_⟩
              · intro q; cases q
              · intro _; exact ⟨r1, rfl⟩
          · rw [if_neg he, Nat.add_zero]
            refine ⟨hL, hl1, fun hb => ?_, fun hb => ⟨(s4 hb).1, rfl⟩⟩
            have hstill : (p.ci i).op.still = true := by simpa [Plan.eff] using he
            obtain ⟨h', r1, _⟩ := s3 hb
            have hh' := evOp_still _ hstill r1
            subst hh'
            by_cases hpure : (p.ci i).op.pure = true
            · rw [hopcongr _ _ _ hagree]
              exact (evOp_pure _ hpure r1).2 hL
            · by_cases hsame : p.lo i = (List.range p.n).countP fun j => p.eff j && L.getD j false
              · rw [hsame, hl1] at s2
                have := Option.some.inj s2
                subst this
                rw [hopcongr _ _ _ hagree]
                exact r1
              · have hag : p.again i = true := by
                  simp only [Plan.again, Bool.and_eq_true, Bool.not_eq_true', decide_eq_true_eq]
                  exact ⟨⟨by simpa using he, by simpa using hpure⟩, by omega⟩
                obtain ⟨hdsome, hagd⟩ := hp.again i hin hag
                have hmem : ({ ci := p.ci i, at_ := (List.range p.n).countP fun j => p.eff j && L.getD j false } : CK) ∈ p.chk := by
                  simp only [Plan.chk, List.mem_flatMap, List.mem_range]
                  refine ⟨i, hin, ?_⟩
                  rw [if_pos hag]
                  simp only [List.mem_map, List.mem_range]
                  exact ⟨((List.range p.n).countP fun j => p.eff j && L.getD j false) - p.lo i - 1, by omega, by congr 1; omega⟩
                -- the slots at the end
                have hfin : ∀ s ∈ (p.ci i).reads, get t' s = get (curT (fun i => (p.ci i).dst) V (fun j => L.getD j false) (List.range p.n) t) s := by
                  intro s hs
                  rw [ht']
                  refine curT_congr (List.range p.n) t t rfl (fun j hj hds => ?_)
                  rw [hbef j ((hagd j s (List.mem_range.1 hj) hds).1 hs)]
                rcases evC_at hchk _ hmem with hw | ⟨hw, hx, d, r, k1, k2, k3, k4⟩
                · simp only at hw
                  rw [hwcongr _ _ hfin, hwanted, hb] at hw
                  cases hw
                · simp only at k1 k2 k3
                  rw [hl1] at k1
                  have := Option.some.inj k1
                  subst this
                  have hgd : get t' d = V i := by
                    rw [ht']
                    have hsplit : List.range p.n = List.range i ++ i :: List.range' (i + 1) (p.n - (i + 1)) := by
                      rw [List.range_eq_range', List.range_eq_range', ← List.range'_succ]
                      have := List.range'_append_1 (s := 0) (m := i) (n := p.n - (i + 1) + 1)
                      rw [Nat.zero_add] at this
                      rw [this]
                      congr 1
                      omega
                    rw [hsplit, curT_append]
                    have e3 : curT (fun i => (p.ci i).dst) V (fun _ => true) (i :: List.range' (i + 1) (p.n - (i + 1))) (curT (fun i => (p.ci i).dst) V (fun _ => true) (List.range i) t) =
                      curT (fun i => (p.ci i).dst) V (fun _ => true) (List.range' (i + 1) (p.n - (i + 1))) (putO (curT (fun i => (p.ci i).dst) V (fun _ => true) (List.range i) t) (p.ci i).dst (V i)) := by simp [curT]
                    rw [e3, curT_other _ _ (fun j hj _ hds => by
                      have hjj := List.mem_range'_1.1 hj
                      exact (hagd j d (by omega) hds).2 (by omega) k2), k2, get_putO_eq]
                  have hr2 := evOp_still _ hstill (r := r.1) (h' := r.2) (by rw [k3])
                  rw [← hopcongr _ _ _ hfin, k3]
                  obtain ⟨rv, rh⟩ := r
                  simp only at hr2 k4
                  rw [hr2, k4, hgd]
        obtain ⟨h2, hv1, hv2, hv3⟩ := hval
        -- the slots behind it
        have hnext : ∀ s, get (curT (fun i => (p.ci i).dst) V (fun j => (L.setIfInBounds i true).getD j false) (List.range p.n) t) s = get (putO (curT (fun i => (p.ci i).dst) V (fun j => L.getD j false) (List.range p.n) t) (p.ci i).dst (V i)) s := by
          intro s
          have hsplit : List.range p.n = List.range i ++ i :: List.range' (i + 1) (p.n - (i + 1)) := by
            rw [List.range_eq_range', List.range_eq_range', ← List.range'_succ]
            have := List.range'_append_1 (s := 0) (m := i) (n := p.n - (i + 1) + 1)
            rw [Nat.zero_add] at this
            rw [this]
            congr 1
            omega
          rw [hsplit]
          refine curT_add (List.range i) (List.range' (i + 1) (p.n - (i + 1))) t hLi (by
            have : i < L.size := by omega
            simp [this]) (fun j hj => getD_set_ne false (by have := List.mem_range.1 hj; omega)) (fun j hj => getD_set_ne false (by have := List.mem_range'_1.1 hj; omega)) (fun s hs j hj hlj hds => ?_) s
          have hjj := List.mem_range'_1.1 hj
          have hpr := hp.pair i j (by omega) (by omega)
          simp only [Plan.pairOK, Bool.or_eq_true, Bool.and_eq_true] at hpr
          rcases hpr with hb | hb
          · have := haft j (by omega) hb
            rw [this] at hlj
            cases hlj
          · have := hb.1.2
            rw [hs] at this
            simp only [Bool.and_eq_true, bne_iff_ne, ne_eq] at this
            exact this.2 hds
        have hdi : ∀ d, o.dst = some d → d < N := by
          intro d h1
          have := List.all_eq_true.1 hd o (by
            have := (Array.getElem?_eq_some_iff.1 ho).2
            rw [← this]
            simp)
          rw [h1] at this
          simpa using this
        have hdst : (p.ci i).dst = o.dst := by rw [hcg]
        have rest : ∀ (φ' : Phi) (w' : World) (a' : Act), Pst H S B N φ0 h0 w0 d0 ⟨putO (curT (fun i => (p.ci i).dst) V (fun j => L.getD j false) (List.range p.n) t) o.dst (V i), h2⟩ a' φ' w' →
            wpAny P .any ops (fun e a' w' => e = .normal ∧ ∃ φ', Pst H S B N φ0 h0 w0 d0 ⟨t', hs'.getLastD []⟩ a' φ' w') fuel (L.setIfInBounds i true) a' w' := by
          intro φ' w' a' hpst
          refine ih (L.setIfInBounds i true) φ' w' a' (by simpa using hsz) (fun j hj hlj k hk => ?_) ?_ ⟨h2, hv1, ?_⟩
          · by_cases hji : j = i
            · subst hji
              exact getD_set_true (hbef k hk)
            · rw [getD_set_ne false (Ne.symm hji)] at hlj
              exact getD_set_true (hcl j hj hlj k hk)
          · have : (List.range p.n).countP (fun j => !L.getD j false) = (List.range p.n).countP (fun j => !(L.setIfInBounds i true).getD j false) + 1 := by
              refine countP_set hin ?_ (by simp [hLi]) (fun j hj hne => by rw [getD_set_ne false (Ne.symm hne)])
              have : i < L.size := by omega
              simp [this]
            omega
          · exact ⟨hpst.rel, hpst.ext, fun s => by
              show VR _ _ _ _ (get (curT _ _ _ _ _) s) _
              rw [hnext s, hdst]
              exact hpst.tr s, hpst.size, hpst.defers, hpst.below⟩
        have hwant := wanted_sim (ops := ops) (o := o) hl2.tr hg (b := b) (by rw [hcg] at hwanted; exact hwanted)
        unfold wpOp
        simp only [ho]
        cases b with
        | true =>
          rw [if_pos hwant]
          have hop := hv2 rfl
          rw [hcg] at hop
          refine .inl (op_sim hl2.rel hl2.tr hgr hsim hE f strict hop _ _ fun φ' w' v hg' => ?_)
          exact rest φ' w' _ (hl2.put hdi hg')
        | false =>
          rw [if_neg (by rw [hwant]; simp)]
          obtain ⟨r1, r2⟩ := hv3 rfl
          subst r2
          have := hl2.skip hdi
          rw [← r1] at this
          exact rest φ w _ this
  intro φ w a hpst
  refine main ops.size (Array.replicate ops.size false) φ w a (by simp) (fun j hj hlj => ?_) ?_ ⟨hh, ?_, ?_⟩
  · have : j < ops.size := by omega
    simp [Array.getD, this] at hlj
  · rw [← hn]
    have : ∀ j, j < p.n → (!(Array.replicate p.n false).getD j false) = true := fun j hj => by simp [Array.getD, hj]
    rw [countP_eq (q := fun _ => true) this]
    simp
  · have : (List.range p.n).countP (fun j => p.eff j && (Array.replicate ops.size false).getD j false) = 0 := List.countP_eq_zero.2 fun j hj => by
      have hj := List.mem_range.1 hj
      have : j < ops.size := by omega
      simp [Array.getD, this]
    rw [this, hext]
    rfl
  · refine ⟨hpst.rel, hpst.ext, fun s => ?_, hpst.size, hpst.defers, hpst.below⟩
    show VR _ _ _ _ (get (curT _ _ _ _ _) s) _
    rw [curT_other (List.range p.n) t (fun j hj hlj => by
      have hj := List.mem_range.1 hj
      have : j < ops.size := by omega
      simp [Array.getD, this] at hlj)]
    exact hpst.tr s

end
end Go.Proofs.VmX

/- The small machine's control, against the model's. -/
set_option linter.unusedVariables false
set_option linter.unusedSimpArgs false
set_option linter.unusedSectionVars false
namespace Go.Proofs.VmX
open Go.RowKit

section
variable {P : Program} {H : Hints} {S : Nat → Nat → Prop} {B N : Nat} {φ0 φ : Phi} {h0 h : Heap} {w0 w : World} {d0 : List Deferred} {t : List AV} {a : Act} {o : Oper} {E : Env} {call : CallT}

theorem exit_sim (f : Nat) (id : Nat) : ∀ (items : List Item) (k' : List CIt), exitC id (items.map (cItem P H f N)) = some k' → ∃ items', exitTo id items = some items' ∧ k' = items'.map (cItem P H f N) := by
  intro items
  induction items with
  | nil => intro k' hk; simp [exitC] at hk
  | cons x items ih =>
    intro k' hk
    cases x <;> simp only [List.map_cons, cItem, exitC] at hk
    case inBlock id' =>
      simp only [exitTo]
      split at hk
      · rename_i h1
        injection hk with hk
        rw [if_pos h1]
        exact ⟨items, rfl, hk.symm⟩
      · rename_i h1
        rw [if_neg h1]
        exact ih k' hk
    all_goals exact ih k' hk

theorem label_sim (f : Nat) (l : Nat) : ∀ (c : Code) (c' : CC), labelC (cCode P H f N c) l = some c' → ∃ c2, findLabel c l = some c2 ∧ c' = cCode P H f N c2 := by
  intro c
  induction c with
  | seq x y ihx ihy =>
    intro c' hc
    simp only [cCode, labelC] at hc
    simp only [findLabel]
    split at hc
    · rename_i rest hr
      injection hc with hc
      obtain ⟨c2, h1, rfl⟩ := ihx _ hr
      rw [h1]
      exact ⟨_, rfl, hc.symm⟩
    · rename_i hr
      have hno : findLabel x l = none ∨ ∃ c2, findLabel x l = some c2 := by cases findLabel x l <;> simp
      rcases hno with h1 | ⟨c2, h1⟩
      · rw [h1]
        exact ihy c' hc
      · exfalso
        -- the two look alike
        have back : ∀ (c : Code) (c2 : Code), findLabel c l = some c2 → labelC (cCode P H f N c) l ≠ none := by
          intro c
          induction c with
          | seq u v iu iv =>
            intro c2 h2
            simp only [findLabel] at h2
            simp only [cCode, labelC]
            split at h2
            · rename_i rest hrest
              have := iu _ hrest
              split
              · simp
              · rename_i hn; exact absurd hn this
            · have := iv _ h2
              split
              · simp
              · exact this
          | label l' =>
            intro c2 h2
            simp only [findLabel] at h2
            split at h2
            · rename_i h3
              simp [cCode, labelC, h3]
            · cases h2
          | _ => intro c2 h2; simp [findLabel] at h2
        exact back x c2 h1 hr
  | label l' =>
    intro c' hc
    simp only [cCode, labelC] at hc
    simp only [findLabel]
    split at hc
    · rename_i h1
      injection hc with hc
      rw [if_pos h1]
      exact ⟨.skip, rfl, hc.symm⟩
    · cases hc
  | region id ops draw =>
    intro c' hc
    simp only [cCode, cRegion] at hc
    split at hc
    · split at hc
      · have no : ∀ strict, labelC (cDrawAt P H f strict ops) l = none := by
          intro strict
          unfold cDrawAt
          simp only
          split <;> rfl
        unfold cDraw at hc
        cases hcd : cDrawAt P H f false ops <;> rw [hcd] at hc <;> first
          | (rw [no] at hc; cases hc; done)
          | (simp [labelC] at hc; done)
      · simp [labelC] at hc
    · simp [labelC] at hc
  | _ => intro c' hc; simp [cCode, labelC] at hc

theorem goto_sim (f : Nat) (l : Nat) : ∀ (items : List Item) (k' : List CIt), gotoC l (items.map (cItem P H f N)) = some k' → ∃ items', gotoIn l items = some items' ∧ k' = items'.map (cItem P H f N) := by
  intro items
  induction items with
  | nil => intro k' hk; simp [gotoC] at hk
  | cons x items ih =>
    intro k' hk
    cases x <;> simp only [List.map_cons, cItem, gotoC] at hk
    case inScope body =>
      simp only [gotoIn]
      split at hk
      · rename_i rest hr
        injection hk with hk
        obtain ⟨c2, h1, rfl⟩ := label_sim f l body _ hr
        rw [h1]
        exact ⟨_, rfl, hk.symm⟩
      · rename_i hr
        cases hfl : findLabel body l with
        | none => exact ih k' hk
        | some c2 =>
          exfalso
          have : ∀ (c : Code) (c2 : Code), findLabel c l = some c2 → labelC (cCode P H f N c) l ≠ none := by
            intro c
            induction c with
            | seq u v iu iv =>
              intro c2 h2
              simp only [findLabel] at h2
              simp only [cCode, labelC]
              split at h2
              · rename_i rest hrest
                have := iu _ hrest
                split
                · simp
                · rename_i hn; exact absurd hn this
              · have := iv _ h2
                split
                · simp
                · exact this
            | label l' =>
              intro c2 h2
              simp only [findLabel] at h2
              split at h2
              · rename_i h3
                simp [cCode, labelC, h3]
              · cases h2
            | _ => intro c2 h2; simp [findLabel] at h2
          exact this body c2 hfl hr
    all_goals exact ih k' hk

theorem run_sim (hmix : P.follows .mixedOrders = true) (hgr : ∀ g, rf (H.glob g) = true) (hsim : SimCall P H call) (hE : E.inl = H.inl) (f : Nat) (b : Frame) (cs : List Frame) :
    ∀ (n : Nat) (todo : List CIt) (st st' : St), run E call n todo st = some st' → ∀ (items : List Item), todo = items.map (cItem P H f N) → ∀ (φ : Phi) (w : World) (a : Act), Pst H S B N φ0 h0 w0 d0 st a φ w →
      ∃ φ' w' a' td, Steps P (lone (b.at a items) cs w) (lone { b.at a' td with mode := .returning } cs w') ∧ Pst H S B N φ0 h0 w0 d0 st' a' φ' w' := by
  intro n
  induction n with
  | zero => intro todo st st' hr; simp [run] at hr
  | succ n ih =>
    intro todo st st' hr items hit φ w a hp
    subst hit
    have via : ∀ (items' : List Item) (a' : Act), run E call n (items'.map (cItem P H f N)) st = some st' → a' = a → step P (lone (b.at a items) cs w) = .next (lone (b.at a' items') cs w) →
        ∃ φ' w' a' td, Steps P (lone (b.at a items) cs w) (lone { b.at a' td with mode := .returning } cs w') ∧ Pst H S B N φ0 h0 w0 d0 st' a' φ' w' := by
      intro items' a' hr' ha hs
      subst ha
      obtain ⟨φ', w', a2, td, h1, h2⟩ := ih _ st st' hr' items' rfl φ w a' hp
      exact ⟨φ', w', a2, td, .head hs h1, h2⟩
    cases items with
    | nil =>
      simp only [List.map_nil, run] at hr
      injection hr with hr
      subst hr
      exact ⟨φ, w, a, [], .one step_end, hp⟩
    | cons x k =>
      cases x <;> simp only [List.map_cons, cItem, run] at hr
      case code c =>
        cases c <;> simp only [cCode, run] at hr
        case skip => exact via k a hr rfl step_skip
        case label l => exact via k a hr rfl step_label
        case seq x y => exact via (.code x :: .code y :: k) a hr rfl step_seq
        case block id x => exact via (.code x :: .inBlock id :: k) a hr rfl step_block
        case loop x => exact via (.code x :: .inLoop x :: k) a hr rfl step_loop
        case cond c x y =>
          split at hr
          · rename_i q hq
            have hc := (hq ▸ opd_VR hp.rel hp.tr c : VR S φ st.h w (.bool q) (a.eval c)).bool_inv
            exact via (.code (if q then x else y) :: k) a (by cases q <;> exact hr) rfl (step_cond hc)
          · cases hr
        case exit id =>
          rw [Option.bind_eq_some_iff] at hr
          obtain ⟨k', hk, hr⟩ := hr
          obtain ⟨items', h1, rfl⟩ := exit_sim f id k k' hk
          exact via items' a hr rfl (step_exit h1)
        case goto l =>
          rw [Option.bind_eq_some_iff] at hr
          obtain ⟨k', hk, hr⟩ := hr
          obtain ⟨items', h1, rfl⟩ := goto_sim f l k k' hk
          exact via items' a hr rfl (step_goto h1)
        case scope x =>
          have hs : step P (lone (b.at a (.code (.scope x) :: k)) cs w) = .next (lone (b.at a (.code x :: .inScope x :: k)) cs w) := step_lone_go (by simp [stepG, stepG.exec, Frame.at])
          exact via (.code x :: .inScope x :: k) a hr rfl hs
        case ret =>
          injection hr with hr
          subst hr
          exact ⟨φ, w, a, _, .one step_ret, hp⟩
        case region id ops draw =>
          by_cases hdst : dstsIn N ops = true
          rotate_left
          · simp [cRegion, hdst, run] at hr
          cases draw with
          | true =>
            simp only [cRegion, hdst, if_true] at hr
            have at_ : ∀ strict, run E call (n + 1) (.code (cDrawAt P H f strict ops) :: k.map (cItem P H f N)) st = some st' →
                ∃ φ' w' a' td, Steps P (lone (b.at a (.code (.region id ops true) :: k)) cs w) (lone { b.at a' td with mode := .returning } cs w') ∧ Pst H S B N φ0 h0 w0 d0 st' a' φ' w' := by
              intro strict hr
              generalize hcd : cDrawAt P H f strict ops = cd at hr
              unfold cDrawAt at hcd
              simp only at hcd
              split at hcd
              rotate_left
              · subst hcd
                simp [run] at hr
              rename_i hcond
              subst hcd
              simp only [Bool.and_eq_true] at hcond
              simp only [run, Option.bind_eq_some_iff] at hr
              obtain ⟨⟨t1, hs1⟩, hev, hr⟩ := hr
              split at hr
              rotate_left
              · cases hr
              rename_i hchk
              have hn : ({ cis := (List.range ops.size).map fun i => cOper P H f strict ops (ops.getD i default), anc := ancTable ops.toList [] } : Plan).n = ops.size := by simp [Plan.n]
              have hpst : Pst H S B N φ0 h0 w0 d0 ⟨st.t, st.h⟩ a φ w.drew := ⟨drew_rel hp.rel, hp.ext.trans drew_ext, tr_mono drew_ext hp.tr, hp.size, hp.defers, hp.below.drew⟩
              have hw := draw_any (S := S) (B := B) (φ0 := φ0) (h0 := h0) (w0 := w0) (d0 := d0) hgr hsim hE f ops hdst _ (planOK _ ops hn hcond.1.1 hcond.1.2 hcond.2) strict (fun i hi => by
                simp [Plan.ci, List.getD_eq_getElem?_getD, hi]) st.t t1 st.h hs1 hev hchk 0 φ w.drew a hpst
              obtain ⟨e, a1, w1, ⟨he, φ1, hp1⟩, harr⟩ := wp_region_any (id := id) hmix hw b k cs
              subst he
              obtain ⟨φ', w', a2, td, h1, h2⟩ := ih _ _ st' hr k rfl φ1 w1 a1 hp1
              exact ⟨φ', w', a2, td, Steps.trans harr h1, h2⟩
            unfold cDraw at hr
            cases hcd : cDrawAt P H f false ops <;> rw [hcd] at hr <;> first
              | exact at_ true hr
              | exact at_ false (by rw [hcd]; exact hr)
          | false =>
            simp only [cRegion, hdst, if_true, Bool.false_eq_true, if_false, run, Option.bind_eq_some_iff, cPlain] at hr
            obtain ⟨st1, hev, hr⟩ := hr
            have hw := ops_sim (S := S) (B := B) (φ0 := φ0) (h0 := h0) (w0 := w0) (d0 := d0) hgr hsim hE f ops hdst (List.range ops.size) st st1 (fun i hi => List.mem_range.1 hi) hev φ w a hp
            obtain ⟨e, a1, w1, ⟨he, φ1, hp1⟩, harr⟩ := wp_region (id := id) hw b k cs
            subst he
            obtain ⟨φ', w', a2, td, h1, h2⟩ := ih _ st1 st' hr k rfl φ1 w1 a1 hp1
            exact ⟨φ', w', a2, td, Steps.trans harr h1, h2⟩
        all_goals (cases hr)
      case inBlock id => exact via k a hr rfl step_inBlock
      case inLoop x => exact via (.code x :: .inLoop x :: k) a hr rfl step_inLoop
      case inScope x =>
        have hs : step P (lone (b.at a (.inScope x :: k)) cs w) = .next (lone (b.at a k) cs w) := step_lone_go (by simp [stepG, stepG.exec, Frame.at])
        exact via k a hr rfl hs
      all_goals (cases hr)

end
end Go.Proofs.VmX

/- The small machine's functions, against the model's. -/
set_option linter.unusedVariables false
set_option linter.unusedSimpArgs false
set_option linter.unusedSectionVars false
namespace Go.Proofs.VmX
open Go.RowKit

section
variable {P : Program} {H : Hints} {S : Nat → Nat → Prop} {B N : Nat} {φ0 φ : Phi} {h0 h : Heap} {w0 w : World} {d0 : List Deferred} {t : List AV} {a : Act} {o : Oper} {E : Env} {call : CallT}

/-- A function that is not walked does what we say. -/
def ExtOK (P : Program) (H : Hints) (f k : Nat) : Prop :=
  ∀ (args : List AV) (h : Heap) (r : AV) (h' : Heap), ext k args h = some (r, h') → ∀ (S : Nat → Nat → Prop) (B : Nat) (φ : Phi) (w : World) (vs : List Value),
    Rel H.glob S B φ h w → VRs S φ h w args vs → CallOK P H.glob S B φ h w f vs.toArray h' r

theorem ld_run (hrel : Rel H.glob S B φ h w) {ty : TypeId} (hk : known P ty = true) {x : AV} {u : Value} (hu : VR S φ h w x u) {r : AV} (hl : ld (tagg P ty) (tsz P ty) x h = some r) :
    ∃ v, (do loadVar ty (← asAddr u) : Sem Value).run P w = .ok v w ∧ VR S φ h w r v := by
  cases x <;> simp only [ld] at hl <;> try (cases hl; done)
  case ptr id gen i off =>
    rw [Option.bind_eq_some_iff] at hl
    obtain ⟨ob, h1, h2⟩ := hl
    rw [Option.bind_eq_some_iff] at h2
    obtain ⟨e, h2, h3⟩ := h2
    obtain ⟨b, e1, rfl, e3⟩ := hu.ptr_inv hrel h1
    obtain ⟨v, hrun, hr⟩ := rd_load hk (e3.rd i e h2) off r h3
    exact ⟨v, by simp [asAddr, hrun], hr⟩
  case vptr e off =>
    cases hu with | vptr _ _ b ob hc =>
    obtain ⟨v, hrun, hr⟩ := rd_load hk hc.rd off r hl
    exact ⟨v, by simp [asAddr, hrun], hr⟩

/-- Result by result. -/
theorem res_list (hrel : Rel H.glob S B φ h w) {tm : Array Value} (ht : TR S φ h w t tm) : ∀ (l : List ResultVar) (cl : List CRes) (rs : List AV), seqO (cRes P) l = some cl → seqO (resOne t h) cl = some rs →
    ∃ vs, (l.mapM fun (x : ResultVar) => (match x with | .tmp t => pure (tm.getD t undef) | .cell a t => do loadVar t (← asAddr (tm.getD a undef)) : Sem Value)).run P w = .ok vs w ∧ VRs S φ h w rs vs := by
  intro l
  induction l with
  | nil =>
    intro cl rs h1 h2
    simp only [seqO] at h1
    injection h1 with h1
    subst h1
    simp only [seqO] at h2
    injection h2 with h2
    subst h2
    exact ⟨[], by simp, .nil⟩
  | cons x l ih =>
    intro cl rs h1 h2
    simp only [seqO, Option.bind_eq_some_iff, Option.map_eq_some_iff] at h1
    obtain ⟨c, hc, cl', hcl, rfl⟩ := h1
    simp only [seqO, Option.bind_eq_some_iff, Option.map_eq_some_iff] at h2
    obtain ⟨r, hr, rs', hrs, rfl⟩ := h2
    obtain ⟨vs, k1, k2⟩ := ih cl' rs' hcl hrs
    have one : ∃ v, (match x with | .tmp t => pure (tm.getD t undef) | .cell a t => do loadVar t (← asAddr (tm.getD a undef)) : Sem Value).run P w = .ok v w ∧ VR S φ h w r v := by
      cases x with
      | tmp i =>
        simp only [cRes] at hc
        injection hc with hc
        subst hc
        simp only [resOne] at hr
        injection hr with hr
        subst hr
        exact ⟨_, by simp, ht i⟩
      | cell ad ty =>
        simp only [cRes] at hc
        split at hc
        · rename_i hk
          injection hc with hc
          subst hc
          simp only [resOne] at hr
          exact ld_run hrel hk (ht ad) hr
        · cases hc
    obtain ⟨v, q1, q2⟩ := one
    refine ⟨v :: vs, ?_, .cons _ _ _ _ q2 k2⟩
    rw [List.mapM_cons]
    simp only [Sem.run_bind, q1, Result.andThen_ok, k1, Sem.run_pure]

theorem results_sim (hrel : Rel H.glob S B φ h w) {tm : Array Value} (ht : TR S φ h w t tm) (fn : Func) (cl : List CRes) (h1 : seqO (cRes P) fn.results.toList = some cl) (r : AV) (h2 : resOf t h cl = some r) :
    ∃ v, (results fn tm).run P w = .ok v w ∧ VR S φ h w r v := by
  simp only [resOf, Option.map_eq_some_iff] at h2
  obtain ⟨rs, h2, h3⟩ := h2
  obtain ⟨vs, k1, k2⟩ := res_list hrel ht fn.results.toList cl rs h1 h2
  have hrun : (fn.results.mapM fun (x : ResultVar) => (match x with | .tmp t => pure (tm.getD t undef) | .cell a t => do loadVar t (← asAddr (tm.getD a undef)) : Sem Value)).run P w = .ok vs.toArray w := by
    rw [← Array.toArray_toList (xs := fn.results), List.mapM_toArray]
    simp only [Sem.run_map, k1, Result.andThen_ok]
  refine ⟨if hh : vs.toArray.size = 1 then vs.toArray[0] else .tuple vs.toArray, ?_, ?_⟩
  · unfold results
    rw [Sem.run_bind]
    erw [hrun]
    rfl
  · subst h3
    cases k2 with
    | nil => exact .tup [] [] .nil
    | cons x v xs vs g1 g2 =>
      cases g2 with
      | nil => simpa using g1
      | cons y u ys us g3 g4 =>
        have : ¬ ((v :: u :: us).toArray.size = 1) := by simp
        rw [dif_neg this]
        exact .tup _ _ (.cons _ _ _ _ g1 (.cons _ _ _ _ g3 g4))

theorem fn_sim (hmix : P.follows .mixedOrders = true) (hgr : ∀ g, rf (H.glob g) = true) (hext : ∀ f fn, P.funcs[f]? = some fn → (fn.body = none ∨ 10 ≤ extNum fn.name) → ExtOK P H f (extNum fn.name)) : ∀ n, SimCall P H (evFn (envOf P H) n) := by
  intro n
  induction n with
  | zero => intro f args h r h' hc; simp [evFn] at hc
  | succ n ih =>
    intro f args h r h' hc S B φ w vs hrel hv
    simp only [evFn, Option.bind_eq_some_iff] at hc
    obtain ⟨cf, hcf, hc⟩ := hc
    simp only [envOf, cFn, Option.bind_eq_some_iff] at hcf
    obtain ⟨fn, hfn, hcf⟩ := hcf
    split at hcf
    · cases hcf
    rename_i hname
    simp only [Option.map_eq_some_iff] at hcf
    obtain ⟨cl, hcl, rfl⟩ := hcf
    simp only at hc
    by_cases hbig : 10 ≤ extNum fn.name
    · rw [if_pos hbig] at hc
      exact hext f fn hfn (.inr hbig) args h r h' hc S B φ w vs hrel hv
    rw [if_neg hbig] at hc
    cases hb : fn.body with
    | none =>
      rw [hb] at hc
      simp only [Option.map_none] at hc
      exact hext f fn hfn (.inl hb) args h r h' hc S B φ w vs hrel hv
    | some c =>
      rw [hb] at hc
      simp only [Option.map_some, Option.bind_eq_some_iff, Option.map_eq_some_iff, Prod.mk.injEq] at hc
      obtain ⟨st, hrun, r0, hres, rfl, rfl⟩ := hc
      refine .inr ⟨?_, fun cs => ?_⟩
      · have hn : (fn.name == "runtime.NumGoroutine") = false := by simpa using hname
        have hbn : fn.body.isNone = false := by rw [hb]; rfl
        unfold callFunc
        simp only [Sem.run_bind, run_program, Result.andThen_ok, hfn, hn, hbn, Bool.false_eq_true, if_false, Sem.run_pure]
      · let b : Frame := { (default : Frame) with fn := f, kind := .normal }
        have henter : Frame.enter P f vs.toArray .normal = b.at { tmps := vs.toArray ++ Array.replicate (fn.ntmps - vs.toArray.size) undef, defers := [] } [.code c] := by
          simp [Frame.enter, Frame.at, hfn, hb, b]
        have htr : TR S φ h w args (vs.toArray ++ Array.replicate (fn.ntmps - vs.toArray.size) undef) := by
          intro i
          have hl := hv.length
          rcases Nat.lt_or_ge i args.length with hi | hi
          · obtain ⟨v, h1, h2⟩ := hv.get i args[i] (List.getElem?_eq_getElem hi)
            have hi' : i < vs.length := by omega
            have e1 : get args i = args[i] := by simp [get, hi]
            have e2 : (vs.toArray ++ Array.replicate (fn.ntmps - vs.toArray.size) undef).getD i undef = v := by
              rw [Array.getD_eq_getD_getElem?, Array.getElem?_append_left (by simpa using hi')]
              simp [h1]
            rw [e1, e2]
            exact h2
          · have e1 : get args i = .tup [] := by simp [get, hi]
            have e2 : (vs.toArray ++ Array.replicate (fn.ntmps - vs.toArray.size) undef).getD i undef = undef := by
              rw [Array.getD_eq_getD_getElem?, Array.getElem?_append_right (by simp; omega), Array.getElem?_replicate]
              split <;> rfl
            rw [e1, e2]
            exact .tup [] [] .nil
        have hp : Pst H S B fn.ntmps φ h w [] ⟨args, h⟩ { tmps := vs.toArray ++ Array.replicate (fn.ntmps - vs.toArray.size) undef, defers := [] } φ w :=
          ⟨hrel, Ext.refl .., htr, by simp; omega, rfl, Below.refl B w⟩
        obtain ⟨φ', w', a', td, hsteps, hp'⟩ := run_sim hmix hgr ih (by rfl) f b cs n [.code (cCode P H f fn.ntmps c)] ⟨args, h⟩ st hrun [.code c] rfl φ w _ hp
        rw [← henter] at hsteps
        obtain ⟨v, hres1, hres2⟩ := results_sim hp'.rel hp'.tr fn cl hcl r0 hres
        refine ⟨.returned v, w', _, ⟨v, φ', rfl, hp'.rel, hp'.ext, hres2, hp'.below⟩, hsteps, rfl, rfl, hp'.defers, rfl, fn, hfn, hres1⟩

end
end Go.Proofs.VmX

/- The small machine's code, read as what it does: no fuel in sight. -/
set_option linter.unusedVariables false
set_option linter.unusedSimpArgs false
set_option linter.unusedSectionVars false
namespace Go.Proofs.VmX

inductive Sig where
  | nrm
  | exit (id : Nat)
  | goto (l : Nat)
  | ret

/-- From some fuel on. -/
def FnTo (E : Env) (f : Nat) (args : List AV) (h : Heap) (r : AV) (h' : Heap) : Prop := ∃ n0, ∀ n, n0 ≤ n → evFn E n f args h = some (r, h')

def OpTo (E : Env) (t : List AV) (h : Heap) (op : COp) (r : AV) (h' : Heap) : Prop := ∃ n0, ∀ n, n0 ≤ n → evOp E (evFn E n) t h op = some (r, h')

def OpsTo (E : Env) (l : List CI) (st st' : St) : Prop := ∃ n0, ∀ n, n0 ≤ n → evOps E (evFn E n) l st = some st'

/-- Where the code goes on. -/
def onSig (E : Env) (call : CallT) (k : Nat) (K : List CIt) (st : St) : Sig → Option St
  | .nrm => run E call k K st
  | .exit id => (exitC id K).bind fun K' => run E call k K' st
  | .goto l => (gotoC l K).bind fun K' => run E call k K' st
  | .ret => some st

def ExTo (E : Env) (c : CC) (st : St) (sg : Sig) (st' : St) : Prop :=
  ∃ n0 d, ∀ n, n0 ≤ n → ∀ k K, run E (evFn E n) (k + d + 1) (.code c :: K) st = onSig E (evFn E n) (k + 1) K st' sg

section
variable {E : Env} {st st1 st' : St} {sg : Sig}

theorem run_seq (call : CallT) (n : Nat) (a b : CC) (K : List CIt) : run E call (n + 1) (.code (.seq a b) :: K) st = run E call n (.code a :: .code b :: K) st := rfl
theorem run_cond (call : CallT) (n : Nat) (c : Opd) (a b : CC) (K : List CIt) {r : Bool} (hc : opd st.t c = .bool r) : run E call (n + 1) (.code (.cond c a b) :: K) st = run E call n (.code (if r then a else b) :: K) st := by simp only [run, hc]
theorem run_block (call : CallT) (n id : Nat) (b : CC) (K : List CIt) : run E call (n + 1) (.code (.block id b) :: K) st = run E call n (.code b :: .inBlock id :: K) st := rfl
theorem run_loop (call : CallT) (n : Nat) (b : CC) (K : List CIt) : run E call (n + 1) (.code (.loop b) :: K) st = run E call n (.code b :: .inLoop b :: K) st := rfl
theorem run_inLoop (call : CallT) (n : Nat) (b : CC) (K : List CIt) : run E call (n + 1) (.inLoop b :: K) st = run E call n (.code b :: .inLoop b :: K) st := rfl
theorem run_reg (call : CallT) (n : Nat) (l : List CI) (K : List CIt) : run E call (n + 1) (.code (.reg l) :: K) st = (evOps E call l st).bind fun st' => run E call n K st' := rfl

theorem ex_skip : ExTo E .skip st .nrm st := ⟨0, 1, fun n _ k K => rfl⟩
theorem ex_label (l : Nat) : ExTo E (.label l) st .nrm st := ⟨0, 1, fun n _ k K => rfl⟩
theorem ex_ret : ExTo E .ret st .ret st := ⟨0, 0, fun n _ k K => rfl⟩
theorem ex_exit (id : Nat) : ExTo E (.exit id) st (.exit id) st := ⟨0, 1, fun n _ k K => rfl⟩
theorem ex_goto (l : Nat) : ExTo E (.goto l) st (.goto l) st := ⟨0, 1, fun n _ k K => rfl⟩

theorem ex_seq {a b : CC} (h1 : ExTo E a st .nrm st1) (h2 : ExTo E b st1 sg st') : ExTo E (.seq a b) st sg st' := by
  obtain ⟨n1, d1, g1⟩ := h1
  obtain ⟨n2, d2, g2⟩ := h2
  refine ⟨max n1 n2, d1 + d2 + 1, fun n hn k K => ?_⟩
  have e1 := g1 n (by omega) (k + d2) (.code b :: K)
  have e2 := g2 n (by omega) k K
  rw [run_seq]
  rw [show k + (d1 + d2 + 1) = k + d2 + d1 + 1 by omega, e1]
  exact e2

theorem ex_seq_out {a b : CC} (h1 : ExTo E a st sg st') (hs : sg ≠ .nrm) : ExTo E (.seq a b) st sg st' := by
  obtain ⟨n1, d1, g1⟩ := h1
  refine ⟨n1, d1 + 1, fun n hn k K => ?_⟩
  have e1 := g1 n hn k (.code b :: K)
  rw [run_seq]
  rw [show k + (d1 + 1) = k + d1 + 1 by omega, e1]
  cases sg <;> first | exact absurd rfl hs | rfl

theorem ex_cond {c : Opd} {a b : CC} {r : Bool} (hc : opd st.t c = .bool r) (h1 : ExTo E (if r then a else b) st sg st') : ExTo E (.cond c a b) st sg st' := by
  obtain ⟨n1, d1, g1⟩ := h1
  refine ⟨n1, d1 + 1, fun n hn k K => ?_⟩
  rw [run_cond _ _ _ _ _ _ hc]
  rw [show k + (d1 + 1) = k + d1 + 1 by omega]
  exact g1 n hn k K

/-- Out of a block. -/
def outBlock (id : Nat) : Sig → Sig
  | .exit i => if i = id then .nrm else .exit i
  | s => s

theorem ex_block {id : Nat} {b : CC} (h1 : ExTo E b st sg st') : ExTo E (.block id b) st (outBlock id sg) st' := by
  obtain ⟨n1, d1, g1⟩ := h1
  cases sg with
  | nrm =>
    refine ⟨n1, d1 + 2, fun n hn k K => ?_⟩
    have e1 := g1 n hn (k + 1) (.inBlock id :: K)
    rw [run_block]
    rw [show k + (d1 + 2) = k + 1 + d1 + 1 by omega, e1]
    rfl
  | exit i =>
    by_cases hi : i = id
    · refine ⟨n1, d1 + 1, fun n hn k K => ?_⟩
      have e1 := g1 n hn k (.inBlock id :: K)
      rw [run_block]
      rw [show k + (d1 + 1) = k + d1 + 1 by omega, e1]
      subst hi
      simp [onSig, exitC, outBlock]
    · refine ⟨n1, d1 + 1, fun n hn k K => ?_⟩
      have e1 := g1 n hn k (.inBlock id :: K)
      rw [run_block]
      rw [show k + (d1 + 1) = k + d1 + 1 by omega, e1]
      have : ¬ id = i := fun h => hi h.symm
      simp [onSig, exitC, outBlock, hi, this]
  | goto l =>
    refine ⟨n1, d1 + 1, fun n hn k K => ?_⟩
    have e1 := g1 n hn k (.inBlock id :: K)
    rw [run_block]
    rw [show k + (d1 + 1) = k + d1 + 1 by omega, e1]
    rfl
  | ret =>
    refine ⟨n1, d1 + 1, fun n hn k K => ?_⟩
    have e1 := g1 n hn k (.inBlock id :: K)
    rw [run_block]
    rw [show k + (d1 + 1) = k + d1 + 1 by omega, e1]
    rfl

/-- Once more round. -/
theorem ex_loop_more {b : CC} (h1 : ExTo E b st .nrm st1) (h2 : ExTo E (.loop b) st1 sg st') : ExTo E (.loop b) st sg st' := by
  obtain ⟨n1, d1, g1⟩ := h1
  obtain ⟨n2, d2, g2⟩ := h2
  refine ⟨max n1 n2, d1 + d2 + 1, fun n hn k K => ?_⟩
  have e1 := g1 n (by omega) (k + d2) (.inLoop b :: K)
  have e2 := g2 n (by omega) k K
  rw [run_loop]
  rw [show k + (d1 + d2 + 1) = k + d2 + d1 + 1 by omega, e1]
  show run E (evFn E n) (k + d2 + 1) (.inLoop b :: K) st1 = _
  rw [run_inLoop, ← run_loop]
  exact e2

theorem ex_loop_out {b : CC} (h1 : ExTo E b st sg st') (hs : sg ≠ .nrm) : ExTo E (.loop b) st sg st' := by
  obtain ⟨n1, d1, g1⟩ := h1
  refine ⟨n1, d1 + 1, fun n hn k K => ?_⟩
  have e1 := g1 n hn k (.inLoop b :: K)
  rw [run_loop]
  rw [show k + (d1 + 1) = k + d1 + 1 by omega, e1]
  cases sg <;> first | exact absurd rfl hs | rfl

theorem ex_reg {l : List CI} (h1 : OpsTo E l st st') : ExTo E (.reg l) st .nrm st' := by
  obtain ⟨n1, g1⟩ := h1
  refine ⟨n1, 1, fun n hn k K => ?_⟩
  rw [run_reg, g1 n hn]
  rfl

theorem ops_nil : OpsTo E [] st st := ⟨0, fun n _ => rfl⟩

theorem ops_cons {c : CI} {l : List CI} {r : AV} {h' : Heap} (hw : wantedA st.t c.g = some true) (h1 : OpTo E st.t st.h c.op r h') (h2 : OpsTo E l ⟨putO st.t c.dst r, h'⟩ st') : OpsTo E (c :: l) st st' := by
  obtain ⟨n1, g1⟩ := h1
  obtain ⟨n2, g2⟩ := h2
  refine ⟨max n1 n2, fun n hn => ?_⟩
  simp only [evOps, hw, Option.bind_some, if_true, g1 n (by omega)]
  exact g2 n (by omega)

theorem ops_skip {c : CI} {l : List CI} (hw : wantedA st.t c.g = some false) (h2 : OpsTo E l ⟨putO st.t c.dst (.tup []), st.h⟩ st') : OpsTo E (c :: l) st st' := by
  obtain ⟨n2, g2⟩ := h2
  refine ⟨n2, fun n hn => ?_⟩
  simp only [evOps, hw, Option.bind_some, Bool.false_eq_true, if_false]
  exact g2 n hn

/-- Calls? -/
def COp.calls : COp → Bool
  | .callF .. => true
  | .callP .. => true
  | .callV .. => true
  | _ => false

def noCall : CallT := fun _ _ _ => none

theorem evOp_nocall {call : CallT} {t : List AV} {h : Heap} (op : COp) (hc : op.calls = false) : evOp E call t h op = evOp E noCall t h op := by
  cases op <;> first | rfl | (simp [COp.calls] at hc)

theorem op_plain {t : List AV} {h h' : Heap} {op : COp} {r : AV} (hc : op.calls = false) (h1 : evOp E noCall t h op = some (r, h')) : OpTo E t h op r h' :=
  ⟨0, fun n _ => by rw [evOp_nocall op hc]; exact h1⟩

/-- A call of its own gives this value. -/
def PureTo (E : Env) (f : Nat) (args : List AV) (r : AV) : Prop := ∃ n0, ∀ n, n0 ≤ n → pureCall (evFn E n) f args = some r

theorem pure_of {f : Nat} {args : List AV} {r0 r : AV} {h' : Heap} (h1 : FnTo E f args [] r0 h') (h2 : snap h' deep r0 = some r) : PureTo E f args r := by
  obtain ⟨n0, g⟩ := h1
  exact ⟨n0, fun n hn => by simp [pureCall, g n hn, h2]⟩

/-- As a rule: a result without references. -/
theorem pure_rf {f : Nat} {args : List AV} {r : AV} {h' : Heap} (h1 : FnTo E f args [] r h') (h2 : rf r = true) : PureTo E f args r := pure_of h1 (by unfold deep snap; rw [if_pos h2])

theorem op_callF {t : List AV} {h h' : Heap} {f : Nat} {args : List Opd} {r : AV} (h1 : FnTo E f (args.map (opd t)) h r h') : OpTo E t h (.callF f true args) r h' := by
  obtain ⟨n0, g⟩ := h1
  exact ⟨n0, fun n hn => by simp only [evOp, doCall, if_true]; exact g n hn⟩

theorem op_callPure {t : List AV} {h h' : Heap} {f : Nat} {args : List Opd} {az : List AV} {r : AV} (hs : snaps h (args.map (opd t)) = some (az, h')) (h1 : PureTo E f az r) : OpTo E t h (.callF f false args) r h' := by
  obtain ⟨n0, g⟩ := h1
  exact ⟨n0, fun n hn => by simp only [evOp, doCall, Bool.false_eq_true, if_false, hs, Option.bind_some, g n hn, Option.map_some]⟩

theorem op_callP {t : List AV} {h : Heap} {f : Nat} {args : List Opd} {r : AV} (hs : rfs (args.map (opd t)) = true) (h1 : PureTo E f (args.map (opd t)) r) : OpTo E t h (.callP f args) r h := by
  obtain ⟨n0, g⟩ := h1
  exact ⟨n0, fun n hn => by simp only [evOp, hs, if_true, g n hn, Option.map_some]⟩

theorem op_callVin {t : List AV} {h h' : Heap} {x : Opd} {args : List Opd} {f : Nat} {first cap : List AV} {r : AV} (hx : opd t x = .fn f first cap) (hi : E.inl f = true) (h1 : FnTo E f (first ++ args.map (opd t) ++ cap) h r h') : OpTo E t h (.callV x args) r h' := by
  obtain ⟨n0, g⟩ := h1
  exact ⟨n0, fun n hn => by simp only [evOp, hx, doCall, hi, if_true]; exact g n hn⟩

theorem op_callVpure {t : List AV} {h h' : Heap} {x : Opd} {args : List Opd} {f : Nat} {first cap az : List AV} {r : AV} (hx : opd t x = .fn f first cap) (hi : E.inl f = false) (hs : snaps h (first ++ args.map (opd t) ++ cap) = some (az, h'))
    (h1 : PureTo E f az r) : OpTo E t h (.callV x args) r h' := by
  obtain ⟨n0, g⟩ := h1
  exact ⟨n0, fun n hn => by simp only [evOp, hx, doCall, hi, Bool.false_eq_true, if_false, hs, Option.bind_some, g n hn, Option.map_some]⟩

/-- A function by its code. -/
theorem fn_of {f : Nat} {args : List AV} {h : Heap} {fn : CFn} {c : CC} (hf : E.code f = some fn) (hb : fn.body = some c) (h1 : ExTo E c ⟨args, h⟩ sg st') (hs : sg = .ret ∨ sg = .nrm) {r : AV} (hr : resOf st'.t st'.h fn.res = some r) : FnTo E f args h r st'.h := by
  obtain ⟨n0, d, g⟩ := h1
  refine ⟨n0 + d + 3, fun n hn => ?_⟩
  obtain ⟨m, rfl⟩ : ∃ m, n = m + 1 := ⟨n - 1, by omega⟩
  simp only [evFn, hf, Option.bind_some, hb]
  have e1 := g m (by omega) (m - d - 1) []
  rw [show m - d - 1 + d + 1 = m by omega] at e1
  rw [e1]
  rcases hs with rfl | rfl
  · simp [onSig, hr]
  · have : run E (evFn E m) (m - d - 1 + 1) [] st' = some st' := rfl
    simp [onSig, this, hr]

theorem fn_ext {f : Nat} {args : List AV} {h h' : Heap} {fn : CFn} {r : AV} (hf : E.code f = some fn) (hb : fn.body = none) (h1 : ext fn.ext args h = some (r, h')) : FnTo E f args h r h' :=
  ⟨1, fun n hn => by
    obtain ⟨m, rfl⟩ : ∃ m, n = m + 1 := ⟨n - 1, by omega⟩
    simp only [evFn, hf, Option.bind_some, hb, h1]⟩

end

/-- No second look is a call. -/
def ckPlain (l : List CK) : Bool := l.all fun c => !c.ci.op.calls

theorem evC_plain {E : Env} {call : CallT} {t : List AV} {hs : List Heap} : ∀ {l : List CK}, ckPlain l = true → evC E call t hs l = evC E noCall t hs l := by
  intro l
  induction l with
  | nil => intro _; rfl
  | cons c l ih =>
    intro hc
    simp only [ckPlain, List.all_cons, Bool.and_eq_true, Bool.not_eq_true'] at hc
    simp only [evC]
    rw [ih (by simpa [ckPlain] using hc.2)]
    have : ∀ h, evOp E call t h c.ci.op = evOp E noCall t h c.ci.op := fun h => evOp_nocall _ hc.1
    simp only [this]

end Go.Proofs.VmX

/- More fuel changes nothing: closed runs. -/
set_option linter.unusedVariables false
set_option linter.unusedSimpArgs false
set_option linter.unusedSectionVars false
namespace Go.Proofs.VmX

def CallLe (c c' : CallT) : Prop := ∀ f a h r, c f a h = some r → c' f a h = some r

section
variable {E : Env} {c c' : CallT}

theorem pure_mono (hc : CallLe c c') {f : Nat} {az : List AV} {r : AV} (h : pureCall c f az = some r) : pureCall c' f az = some r := by
  simp only [pureCall, Option.bind_eq_some_iff] at h ⊢
  obtain ⟨rh, h1, h2⟩ := h
  exact ⟨rh, hc _ _ _ _ h1, h2⟩

theorem doCall_mono (hc : CallLe c c') {f : Nat} {inl : Bool} {az : List AV} {h : Heap} {r : AV × Heap} (hh : doCall c f inl az h = some r) : doCall c' f inl az h = some r := by
  unfold doCall at hh ⊢
  cases inl with
  | true => exact hc _ _ _ _ hh
  | false =>
    simp only [Bool.false_eq_true, if_false, Option.bind_eq_some_iff, Option.map_eq_some_iff] at hh ⊢
    obtain ⟨ah, h1, q, h2, h3⟩ := hh
    exact ⟨ah, h1, q, pure_mono hc h2, h3⟩

theorem evOp_mono (hc : CallLe c c') {t : List AV} {h : Heap} {op : COp} {r : AV × Heap} (hh : evOp E c t h op = some r) : evOp E c' t h op = some r := by
  by_cases hcl : op.calls = false
  · rw [evOp_nocall op hcl] at hh ⊢; exact hh
  · cases op <;> simp only [COp.calls, not_true_eq_false, not_false_eq_true] at hcl
    case callF f inl args => exact doCall_mono hc hh
    case callP f args =>
      simp only [evOp] at hh ⊢
      split at hh
      · rename_i hr
        simp only [Option.map_eq_some_iff] at hh
        obtain ⟨q, h1, h2⟩ := hh
        rw [if_pos hr, pure_mono hc h1]
        simp [h2]
      · cases hh
    case callV x args =>
      simp only [evOp] at hh ⊢
      split at hh
      · exact doCall_mono hc hh
      · cases hh

theorem evOps_mono (hc : CallLe c c') : ∀ {l : List CI} {st st' : St}, evOps E c l st = some st' → evOps E c' l st = some st' := by
  intro l
  induction l with
  | nil => intro st st' h; exact h
  | cons i l ih =>
    intro st st' h
    simp only [evOps, Option.bind_eq_some_iff] at h ⊢
    obtain ⟨w, hw, h⟩ := h
    refine ⟨w, hw, ?_⟩
    cases w with
    | true =>
      simp only [if_true, Option.bind_eq_some_iff] at h ⊢
      obtain ⟨r, h1, h2⟩ := h
      exact ⟨r, evOp_mono hc h1, ih h2⟩
    | false => exact ih h

theorem evD_mono (hc : CallLe c c') : ∀ {l : List DI} {t : List AV} {hs : List Heap} {r : List AV × List Heap}, evD E c l t hs = some r → evD E c' l t hs = some r := by
  intro l
  induction l with
  | nil => intro t hs r h; exact h
  | cons i l ih =>
    intro t hs r h
    simp only [evD, Option.bind_eq_some_iff] at h ⊢
    obtain ⟨w, hw, hp, hhp, h⟩ := h
    refine ⟨w, hw, hp, hhp, ?_⟩
    cases w with
    | true =>
      simp only [if_true, Option.bind_eq_some_iff] at h ⊢
      obtain ⟨q, h1, h2⟩ := h
      exact ⟨q, evOp_mono hc h1, ih h2⟩
    | false => exact ih h

theorem evC_mono (hc : CallLe c c') {t : List AV} {hs : List Heap} : ∀ {l : List CK}, evC E c t hs l = true → evC E c' t hs l = true := by
  intro l
  induction l with
  | nil => intro h; exact h
  | cons x l ih =>
    intro h
    simp only [evC, Bool.and_eq_true] at h ⊢
    refine ⟨?_, ih h.2⟩
    have h1 := h.1
    split at h1
    · split at h1
      · rename_i hp d hh hd
        split at h1
        · rename_i r hr
          rw [evOp_mono hc hr]
          exact h1
        · cases h1
      · cases h1
    · rfl
    · cases h1

theorem run_mono (hc : CallLe c c') : ∀ (n m : Nat) {todo : List CIt} {st st' : St}, n ≤ m → run E c n todo st = some st' → run E c' m todo st = some st' := by
  intro n
  induction n with
  | zero => intro m todo st st' _ h; simp [run] at h
  | succ n ih =>
    intro m todo st st' hm h
    obtain ⟨m, rfl⟩ : ∃ k, m = k + 1 := ⟨m - 1, by omega⟩
    have hm' : n ≤ m := by omega
    cases todo with
    | nil => exact h
    | cons x k =>
      cases x with
      | inBlock id => exact ih m hm' h
      | inScope b => exact ih m hm' h
      | inLoop b => exact ih m hm' h
      | code cc =>
        cases cc with
        | skip => exact ih m hm' h
        | label l => exact ih m hm' h
        | seq a b => exact ih m hm' h
        | block id b => exact ih m hm' h
        | loop b => exact ih m hm' h
        | scope b => exact ih m hm' h
        | ret => exact h
        | bad => exact h
        | cond cd a b =>
          simp only [run] at h ⊢
          split at h
          · exact ih m hm' h
          · cases h
        | exit id =>
          simp only [run, Option.bind_eq_some_iff] at h ⊢
          obtain ⟨k', h1, h2⟩ := h
          exact ⟨k', h1, ih m hm' h2⟩
        | goto id =>
          simp only [run, Option.bind_eq_some_iff] at h ⊢
          obtain ⟨k', h1, h2⟩ := h
          exact ⟨k', h1, ih m hm' h2⟩
        | reg l =>
          simp only [run, Option.bind_eq_some_iff] at h ⊢
          obtain ⟨s, h1, h2⟩ := h
          exact ⟨s, evOps_mono hc h1, ih m hm' h2⟩
        | dreg l ck =>
          simp only [run, Option.bind_eq_some_iff] at h ⊢
          obtain ⟨s, h1, h2⟩ := h
          split at h2
          · rename_i hck
            exact ⟨s, evD_mono hc h1, by rw [if_pos (evC_mono hc hck)]; exact ih m hm' h2⟩
          · cases h2

theorem evFn_mono : ∀ (n m : Nat), n ≤ m → CallLe (evFn E n) (evFn E m) := by
  intro n
  induction n with
  | zero => intro m _ f a h r hh; simp [evFn] at hh
  | succ n ih =>
    intro m hm f a h r hh
    obtain ⟨m, rfl⟩ : ∃ k, m = k + 1 := ⟨m - 1, by omega⟩
    simp only [evFn, Option.bind_eq_some_iff] at hh ⊢
    obtain ⟨fn, h1, h2⟩ := hh
    refine ⟨fn, h1, ?_⟩
    split at h2
    · simp only [Option.bind_eq_some_iff] at h2 ⊢
      obtain ⟨st, h3, h4⟩ := h2
      exact ⟨st, run_mono (ih m (by omega)) n m (by omega) h3, h4⟩
    · exact h2

/-- A closed run. -/
theorem fn_closed {f : Nat} {args : List AV} {h h' : Heap} {r : AV} (n : Nat) (hh : evFn E n f args h = some (r, h')) : FnTo E f args h r h' := ⟨n, fun m hm => evFn_mono n m hm _ _ _ _ hh⟩

def isTrue (x : Option (AV × Heap)) : Bool := match x with
  | some (.bool true, _) => true
  | _ => false

theorem fn_true {f : Nat} {args : List AV} {h : Heap} (n : Nat) (hh : isTrue (evFn E n f args h) = true) : ∃ h', FnTo E f args h (.bool true) h' := by
  generalize hx : evFn E n f args h = x at hh
  unfold isTrue at hh
  split at hh
  · exact ⟨_, fn_closed n hx⟩
  · cases hh

end
end Go.Proofs.VmX
