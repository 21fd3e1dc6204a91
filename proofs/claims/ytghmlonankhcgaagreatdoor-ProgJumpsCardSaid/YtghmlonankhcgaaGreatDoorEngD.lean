import Derived.Test.YtghmlonankhcgaaGreatDoorEngA
import Derived.Tactics
import Derived.Laws.Slices
import Derived.Laws.Strings2
import Derived.Laws.StructEq
import Derived.Laws.BytesArg
import Derived.Laws.Cells
import Derived.Laws.Concat
import Derived.ChangeKeysEq
import Derived.Great.FillDense
/- The engine, part D1: operations that answer a value and turn nothing. -/
namespace Go.Eng
set_option linter.unusedSectionVars false

section
variable {β : Beta} {h : Heap} {F : Frz} {w : World}

structure TmRel (β : Beta) (h : Heap) (F : Frz) (w : World) (tm : Tm) (ts : Array Value) : Prop where
  len : tm.length = ts.size
  val : ∀ (j : Nat) (c : AV) (u : Value), tm[j]? = some c → ts[j]? = some u → V β h F w c u

theorem V.undef : V β h F w undefA undef := .tup [] #[] rfl (by simp)

mutual
theorem ofValue_V : ∀ (v : Value) (c : AV), ofValue v = some c → V β h F w c v
  | .bool b, c, e => by simp [ofValue] at e; subst e; exact .bool b
  | .int k n, c, e => by simp [ofValue] at e; subst e; exact .int k n
  | .string s, c, e => by simp [ofValue] at e; subst e; simpa using V.str (β := β) (h := h) (F := F) (w := w) s.data.toList
  | .pointer none, c, e => by simp [ofValue] at e; subst e; exact .nilp
  | .pointer (some _), c, e => by simp [ofValue] at e
  | .slice none 0 0, c, e => by simp [ofValue] at e; subst e; exact .nils none
  | .slice none 0 (_ + 1), c, e => by simp [ofValue] at e
  | .slice none (_ + 1) _, c, e => by simp [ofValue] at e
  | .slice (some _) _ _, c, e => by simp [ofValue] at e
  | .map none, c, e => by simp [ofValue] at e; subst e; exact .nilm
  | .map (some _), c, e => by simp [ofValue] at e
  | .chan _, c, e => by simp [ofValue] at e
  | .float _ _, c, e => by simp [ofValue] at e
  | .complex _ _ _, c, e => by simp [ofValue] at e
  | .iface _ _, c, e => by simp [ofValue] at e
  | .nilFunc, c, e => by simp [ofValue] at e; subst e; exact .nilf
  | .nilIface, c, e => by simp [ofValue] at e; subst e; exact .nili
  | .agg cs, c, e => by
    simp only [ofValue, Option.map_eq_some_iff] at e
    obtain ⟨l, hl, rfl⟩ := e
    obtain ⟨h1, h2⟩ := ofValues_V cs.toList l hl
    exact .agg l cs (by simpa using h1) (fun j c u hc hu => h2 j c u hc (by simpa using hu))
  | .tuple cs, c, e => by
    simp only [ofValue, Option.map_eq_some_iff] at e
    obtain ⟨l, hl, rfl⟩ := e
    obtain ⟨h1, h2⟩ := ofValues_V cs.toList l hl
    exact .tup l cs (by simpa using h1) (fun j c u hc hu => h2 j c u hc (by simpa using hu))
  | .func (.func f) first captured, c, e => by
    simp only [ofValue] at e
    split at e
    · rename_i hx
      simp only [Bool.and_eq_true, Array.isEmpty_iff] at hx
      obtain ⟨rfl, rfl⟩ := hx
      simp at e; subst e
      exact .clo f [] #[] rfl (by simp)
    · simp at e
  | .func (.method _) _ _, c, e => by simp [ofValue] at e
  | .func (.methodOf _ _) _ _, c, e => by simp [ofValue] at e
  | .func (.via _ _ _ _) _ _, c, e => by simp [ofValue] at e
  | .func (.yield _) _ _, c, e => by simp [ofValue] at e
theorem ofValues_V : ∀ (vs : List Value) (cs : List AV), ofValues vs = some cs → cs.length = vs.length ∧ ∀ (j : Nat) (c : AV) (u : Value), cs[j]? = some c → vs[j]? = some u → V β h F w c u
  | [], cs, e => by simp [ofValues] at e; subst e; simp
  | v :: l, cs, e => by
    simp only [ofValues, Option.bind_eq_bind, Option.pure_def] at e
    cases hv : ofValue v with
    | none => simp [hv] at e
    | some c =>
      cases hl : ofValues l with
      | none => simp [hv, hl] at e
      | some cs' =>
        simp [hv, hl] at e
        subst e
        obtain ⟨h1, h2⟩ := ofValues_V l cs' hl
        refine ⟨by simp [h1], fun j c' u hc hu => ?_⟩
        cases j with
        | zero => simp at hc hu; subst hc; subst hu; exact ofValue_V v c hv
        | succ j => exact h2 j c' u (by simpa using hc) (by simpa using hu)
end

/-- what the listed globals lead to -/
def GlobOK (C : Cfg) (β : Beta) (h : Heap) (F : Frz) (w : World) : Prop := ∀ g c, C.glob g = some c → V β h F w c (.pointer (some ⟨g, 0, none⟩))

theorem evo_V {C : Cfg} (hG : GlobOK C β h F w) {tm : Tm} {a : Act} (hT : TmRel β h F w tm a.tmps) {x : Operand} {y : Opd} (hx : opd C x = some y) : V β h F w (evo tm y) (a.eval x) := by
  cases x with
  | tmp t =>
    simp [opd] at hx; subst hx
    simp only [evo, Act.eval, List.getD_eq_getElem?_getD, Array.getD_eq_getD_getElem?]
    cases h1 : tm[t]? with
    | none =>
      have : a.tmps[t]? = none := by
        rw [Array.getElem?_eq_none_iff, ← hT.len]; exact List.getElem?_eq_none_iff.1 h1
      simp [this]; exact V.undef
    | some c =>
      have ht : t < a.tmps.size := by rw [← hT.len]; exact (List.getElem?_eq_some_iff.1 h1).1
      rw [Array.getElem?_eq_getElem ht]
      exact hT.val t c _ h1 (Array.getElem?_eq_getElem ht)
  | const v =>
    simp only [opd, Option.map_eq_some_iff] at hx
    obtain ⟨c, hc, rfl⟩ := hx
    exact ofValue_V v c hc
  | global g =>
    simp only [opd, Option.map_eq_some_iff] at hx
    obtain ⟨c, hc, rfl⟩ := hx
    exact hG g c hc
  | func f =>
    simp [opd] at hx; subst hx
    exact .clo f [] #[] rfl (by simp)

theorem und_run {P : Program} {t : TypeId} {d : TypeDesc} (hd : P.underlying t = some d) : (underlying t).run P w = .ok d w := run_underlying hd w

theorem szOf_run {P : Program} {t : TypeId} {n : Nat} (hs : szOf P t = some n) : (sizeOf t).run P w = .ok n w := by
  simp only [szOf, Option.map_eq_some_iff] at hs
  obtain ⟨i, hi, rfl⟩ := hs
  simp [sizeOf, typeInfo, hi]

theorem szOf_underlying {P : Program} {t : TypeId} {n : Nat} (hs : szOf P t = some n) : ∃ i, P.info? t = some i ∧ i.size = n := by
  simp only [szOf, Option.map_eq_some_iff] at hs
  exact hs

/-- the types of the program are closed: a named type's underlying one is there -/
def TypesOK (P : Program) : Prop := ∀ t i, P.info? t = some i → (P.underlying t).isSome = true

theorem aggT_run {P : Program} (hP : TypesOK P) {t : TypeId} {n : Nat} (hs : szOf P t = some n) : (isAgg t).run P w = .ok (aggT P t) w := by
  obtain ⟨i, hi, _⟩ := szOf_underlying hs
  obtain ⟨d, hd⟩ := Option.isSome_iff_exists.1 (hP t i hi)
  simp only [isAgg, Sem.run_bind, und_run hd, Result.andThen_ok, aggT, hd]
  cases d <;> rfl

theorem zeroOf_inv {P : Program} {t : TypeId} {z : AV} (hz : zeroOf P t = some z) : t < P.types.size ∧ ∃ i, P.info? t = some i ∧ ∃ v, i.zero = some v ∧ ofValue v = some z := by
  unfold zeroOf at hz
  split at hz
  · rename_i ht
    simp only [Option.bind_eq_bind, Option.bind_eq_some_iff] at hz
    obtain ⟨i, hi, v, hv, e⟩ := hz
    exact ⟨ht, i, hi, v, hv, e⟩
  · simp at hz

theorem zeroOf_run {P : Program} {t : TypeId} {z : AV} (hz : zeroOf P t = some z) : ∃ v, (zeroValue t).run P w = .ok v w ∧ ofValue v = some z := by
  obtain ⟨_, i, hi, v, hv, e⟩ := zeroOf_inv hz
  exact ⟨v, by simp [zeroValue, typeInfo, hi, hv], e⟩

/-! cells -/
theorem V.agg_inv {cs : List AV} {u : Value} (hv : V β h F w (.agg cs) u) : ∃ us : Array Value, u = .agg us ∧ cs.length = us.size ∧ ∀ (j : Nat) (c : AV) (u : Value), cs[j]? = some c → us[j]? = some u → V β h F w c u := by
  cases hv with | agg _ us hl hv => exact ⟨us, rfl, hl, hv⟩

/-- a value's cells, and the model's -/
theorem cells_V {c : AV} {u : Value} (hv : V β h F w c u) :
    c.cells.length = u.cells.size ∧ ∀ (j : Nat) (x : AV) (y : Value), c.cells[j]? = some x → u.cells[j]? = some y → V β h F w x y := by
  by_cases ha : c.isAgg = true
  · cases c <;> simp [AV.isAgg] at ha
    obtain ⟨us, rfl, hl, hv⟩ := hv.agg_inv
    exact ⟨hl, hv⟩
  · have h1 : c.cells = [c] := by cases c <;> simp [AV.isAgg] at ha <;> rfl
    have h2 : u.cells = #[u] := by cases hv <;> simp [AV.isAgg] at ha <;> rfl
    rw [h1, h2]
    refine ⟨rfl, fun j x y hx hy => ?_⟩
    cases j with
    | zero => simp at hx hy; subst hx; subst hy; exact hv
    | succ j => simp at hx
end
end Go.Eng

/- The engine, part D2: what is read. -/
namespace Go.Eng
set_option linter.unusedSectionVars false

section
variable {RP : RPred} {β : Beta} {h : Heap} {F : Frz} {w : World} {P : Program}

theorem flatC_get {es : List AV} {e : Nat} (he : ∀ x ∈ es, x.cells.length = e) : ∀ {i : Nat} {x : AV} {j : Nat} {c : AV}, es[i]? = some x → x.cells[j]? = some c → (flatC es)[i * e + j]? = some c := by
  induction es with
  | nil => intro i x j c hi; simp at hi
  | cons y es ih =>
    intro i x j c hi hc
    have hy : y.cells.length = e := he y (by simp)
    have hflat : flatC (y :: es) = y.cells ++ flatC es := by simp [flatC]
    rw [hflat]
    cases i with
    | zero =>
      simp at hi; subst hi
      have : j < y.cells.length := (List.getElem?_eq_some_iff.1 hc).1
      simp only [Nat.zero_mul, Nat.zero_add]
      rw [List.getElem?_append_left this]; exact hc
    | succ i =>
      have h1 := ih (fun x hx => he x (by simp [hx])) (by simpa using hi) hc
      rw [List.getElem?_append_right (by rw [hy, Nat.succ_mul]; omega), hy]
      rwa [show (i + 1) * e + j - e = i * e + j by rw [Nat.succ_mul]; omega]

theorem flatC_length {es : List AV} {e : Nat} (he : ∀ x ∈ es, x.cells.length = e) : (flatC es).length = es.length * e := by
  induction es with
  | nil => simp [flatC]
  | cons y es ih =>
    have hflat : flatC (y :: es) = y.cells ++ flatC es := by simp [flatC]
    rw [hflat, List.length_append, he y (by simp), ih (fun x hx => he x (by simp [hx])), List.length_cons, Nat.succ_mul]
    omega

theorem look_eq {n ver e : Nat} {g : Bool} {es : List AV} (hl : look h n ver = some (e, g, es)) : h[n]? = some (.cells ver e g es) := by
  unfold look at hl
  split at hl
  · rename_i v e' g' es' hh
    split at hl
    · rename_i hv; simp at hl; obtain ⟨rfl, rfl, rfl⟩ := hl; subst hv; exact hh
    · simp at hl
  · simp at hl

theorem not_stale {n ver e : Nat} {g : Bool} {es : List AV} (hh : h[n]? = some (.cells ver e g es)) : ¬ Stale h n ver := by
  rintro (hd | ⟨v, e', g', es', hv, hlt⟩)
  · rw [hh] at hd; simp at hd
  · rw [hh] at hv; simp at hv; omega

/-- a live pointer whose block is known -/
theorem V.ptr_inv {n ver i o e : Nat} {g : Bool} {es : List AV} {u : Value} (hv : V β h F w (.ptr n ver i o) u) (hl : look h n ver = some (e, g, es)) :
    ∃ b, u = .pointer (some ⟨b, i * e + o, none⟩) ∧ β n = some b := by
  have hh := look_eq hl
  cases hv with
  | ptr n ver i o b e' g' es' hb hh' => rw [hh] at hh'; simp at hh'; obtain ⟨rfl, _⟩ := hh'; exact ⟨b, rfl, hb⟩
  | repl n o b ps hb hh' => rw [hh] at hh'; simp at hh'
  | ptrS n ver i o a hs => exact absurd hs (not_stale hh)

structure CellsAt (β : Beta) (h : Heap) (F : Frz) (w : World) (b e : Nat) (es : List AV) (us : Array Value) : Prop where
  elt : ∀ x ∈ es, x.cells.length = e
  fit : es.length * e ≤ us.size
  val : ∀ (i : Nat) (x : AV) (j : Nat) (c : AV), es[i]? = some x → x.cells[j]? = some c → ∃ u, us[i * e + j]? = some u ∧ V β h F w c u

theorem Rel.cells (hR : Rel RP β F h w) {n b ver e : Nat} {g : Bool} {es : List AV} (hb : β n = some b) (hh : h[n]? = some (.cells ver e g es)) :
    ∃ us el fr, w.heap[b]? = some (.cells us el fr) ∧ Free us fr ∧ (g = false → us.size = es.length * e) ∧ CellsAt β h F w b e es us := by
  obtain ⟨us, el, fr, hw, hf, he, hg, hfit, hv⟩ := hR.blk n b _ hb hh
  exact ⟨us, el, fr, hw, hf, hg, he, hfit, fun i x j c hi hj => hv _ c (flatC_get he hi hj)⟩

theorem cell_of {b : Nat} {us : Array Value} {el : TypeId} {fr : Nat × Nat} (hw : w.heap[b]? = some (.cells us el fr)) (o : Nat) : w.cell? ⟨b, o, none⟩ = us[o]? := by
  simp [World.cell?, hw]

theorem add_none {a : Addr} (hs : a.spot = none) (j : Nat) : a.add j = ⟨a.block, a.off + j, none⟩ := by
  unfold Addr.add
  split
  · rename_i hj; subst hj; cases a; simp at hs; simp [hs]
  · simp

/-- a piece of memory that is read as a value of a type -/
theorem run_loadVar (hP : TypesOK P) {t : TypeId} {sz : Nat} (hs : szOf P t = some sz) {ad : Addr} {cs : List AV} {r : AV} (hr : mkv (aggT P t) cs = some r) (hn : cs.length = sz)
    (us : Nat → Value) (hu : ∀ j c, cs[j]? = some c → w.cell? (ad.add j) = some (us j) ∧ V β h F w c (us j)) : ∃ ru, (loadVar t ad).run P w = .ok ru w ∧ V β h F w r ru := by
  subst hn
  simp only [loadVar, Sem.run_bind, aggT_run hP hs, Result.andThen_ok]
  unfold mkv at hr
  split at hr
  · rename_i ha
    simp at hr; subst hr
    have hl : (loadCells ad cs.length).run P w = .ok ((List.range cs.length).map us).toArray w :=
      run_loadCells w ad cs.length us fun j hj => (hu j _ (List.getElem?_eq_getElem hj)).1
    refine ⟨.agg ((List.range cs.length).map us).toArray, by simp [ha, szOf_run hs, hl], .agg _ _ (by simp) fun j c u hc hu' => ?_⟩
    have hj : j < cs.length := (List.getElem?_eq_some_iff.1 hc).1
    simp [hj] at hu'
    subst hu'
    exact (hu j c hc).2
  · rename_i ha
    split at hr
    · rename_i c
      simp at hr; subst hr
      have := hu 0 c rfl
      rw [show ad.add 0 = ad by simp [Addr.add]] at this
      refine ⟨us 0, ?_, this.2⟩
      simp only [Bool.not_eq_true] at ha
      simp [ha, run_load, this.1]
    · simp at hr

theorem loadA_sound (hP : TypesOK P) (hR : Rel RP β F h w) {t : TypeId} {sz : Nat} (hs : szOf P t = some sz) {v r : AV} {u : Value} (hv : V β h F w v u)
    (hl : loadA h sz (aggT P t) v = some r) : ∃ ru, (Instr.loadAt t u).run P w = .ok ru w ∧ V β h F w r ru := by
  unfold loadA at hl
  split at hl
  · rename_i cs
    split at hl
    · rename_i hle
      cases hv with
      | cref cs a hsp us hu hv =>
        simp only [Instr.loadAt, Instr.sureAddr, pure_bind]
        refine run_loadVar hP hs hl (by simp [hle]) us fun j c hc => ?_
        have hj : j < sz := by
          have := (List.getElem?_eq_some_iff.1 hc).1
          simp at this; omega
        have hc' : cs[j]? = some c := by rw [List.getElem?_take] at hc; simpa [hj] using hc
        rw [add_none hsp]
        exact ⟨(hu j c hc').1, hv j c hc'⟩
    · simp at hl
  · rename_i n ver i o
    cases hlk : look h n ver with
    | none => rw [hlk] at hl; simp at hl
    | some q =>
      obtain ⟨e, g, es⟩ := q
      rw [hlk] at hl; dsimp only at hl
      cases hi : es[i]? with
      | none => rw [hi] at hl; simp at hl
      | some x =>
        rw [hi] at hl; dsimp only at hl
        obtain ⟨b, rfl, hb⟩ := hv.ptr_inv hlk
        obtain ⟨us, el, fr, hw, _, _, hC⟩ := hR.cells hb (look_eq hlk)
        have hx : x.cells.length = e := hC.elt x (List.mem_of_getElem? hi)
        simp only [Instr.loadAt, Instr.sureAddr, pure_bind]
        -- the cells
        have key : ∀ (k : Nat) (c : AV), x.cells[o + k]? = some c → ∃ u, w.cell? ((⟨b, i * e + o, none⟩ : Addr).add k) = some u ∧ V β h F w c u := fun k c hc => by
          obtain ⟨u, hu, hV⟩ := hC.val i x (o + k) c hi hc
          refine ⟨u, ?_, hV⟩
          rw [add_none rfl]
          simp only [Nat.add_assoc]
          rw [cell_of hw]; exact hu
        have hsel : ∃ us' : Nat → Value, ∀ (k : Nat) (c : AV), x.cells[o + k]? = some c → w.cell? ((⟨b, i * e + o, none⟩ : Addr).add k) = some (us' k) ∧ V β h F w c (us' k) := by
          refine ⟨fun k => (w.cell? ((⟨b, i * e + o, none⟩ : Addr).add k)).getD undef, fun k c hc => ?_⟩
          obtain ⟨u, hu, hV⟩ := key k c hc
          simp only [hu, Option.getD_some]
          exact ⟨trivial, hV⟩
        obtain ⟨us', hus⟩ := hsel
        split at hl
        · rename_i hcond
          obtain ⟨rfl, rfl, hag⟩ := hcond
          simp at hl; subst hl
          have hmk : mkv (aggT P t) x.cells = some x := by
            rw [← hag]
            cases x <;> simp [mkv, AV.isAgg, AV.cells]
          exact run_loadVar hP hs hmk hx us' fun j c hc => hus j c (by simpa using hc)
        · split at hl
          · rename_i hle
            refine run_loadVar hP hs hl (by simp [hx]; omega) us' fun j c hc => hus j c ?_
            have hj : j < sz := by
              have := (List.getElem?_eq_some_iff.1 hc).1
              simp at this; omega
            rw [List.getElem?_take] at hc
            simpa [hj] using hc
          · simp at hl
  · simp at hl
end
end Go.Eng

/- The engine, part D3: sums, comparisons, indices, pieces. -/
namespace Go.Eng
set_option linter.unusedSectionVars false
set_option linter.unusedSimpArgs false

section
variable {RP : RPred} {β : Beta} {h : Heap} {F : Frz} {w : World} {P : Program}

theorem bytes_append (a b : List UInt8) : (⟨a.toArray⟩ : ByteArray) ++ (⟨b.toArray⟩ : ByteArray) = ⟨(a ++ b).toArray⟩ := by
  apply ByteArray.ext
  simp

theorem binA_sound {op : BinOp} {t : TypeId} {x y r : AV} {ux uy : Value} (hx : V β h F w x ux) (hy : V β h F w y uy) (hop : op ≠ .eql) (hop' : op ≠ .neq) (hb : binA op x y = some r) (ox oy : Operand) :
    ∃ ru, (do eqGuard op t ox oy ux uy; binOp op t ux uy).run P w = .ok ru w ∧ V β h F w r ru := by
  have hg : eqGuard op t ox oy ux uy = pure () := by cases op <;> first | rfl | contradiction
  rw [hg, pure_bind]
  cases hx with
  | int k a =>
    cases hy with
    | int k' b =>
      unfold binA at hb
      cases op <;> first | contradiction | skip
      case shl =>
        dsimp only at hb
        split at hb
        · simp at hb
        · simp at hb; subst hb
          rename_i hn
          exact ⟨_, by simp [binOp, Op.shift, hn], .int _ _⟩
      case shr =>
        dsimp only at hb
        split at hb
        · simp at hb
        · simp at hb; subst hb
          rename_i hn
          exact ⟨_, by simp [binOp, Op.shift, hn], .int _ _⟩
      all_goals
        dsimp only at hb
        split at hb
        · simp at hb
        · rename_i hk
          have hk : k = k' := by simpa using hk
          subst hk
          first
          | (simp at hb; subst hb; exact ⟨_, by simp [binOp, Op.intArith, Op.intBits, Op.intCmp]; rfl, by constructor⟩)
          | (split at hb
             · simp at hb
             · rename_i hz
               simp at hb; subst hb
               exact ⟨_, by simp [binOp, Op.intDiv, hz], .int _ _⟩)
    | _ => simp [binA] at hb
  | str a =>
    cases hy with
    | str b =>
      unfold binA at hb
      cases op <;> first | contradiction | skip
      case add =>
        dsimp only at hb
        split at hb
        · rename_i hle
          simp at hb; subst hb
          refine ⟨_, ?_, .str _⟩
          rw [← bytes_append]
          have h1 : ¬ (((⟨a.toArray⟩ : ByteArray).size + (⟨b.toArray⟩ : ByteArray).size : Nat) : Int) > IntKind.i64.max := by
            simp [ByteArray.size]; omega
          have h2 : ((⟨a.toArray⟩ : ByteArray).size : Int) + ((⟨b.toArray⟩ : ByteArray).size : Int) ≤ 9223372036854775807 := by
            simp [ByteArray.size]; omega
          simp [binOp, Op.stringOp, h2]
        · simp at hb
      all_goals
        first
        | (simp at hb; done)
        | (simp only [Option.some.injEq] at hb; subst hb; refine ⟨_, ?_, V.bool _⟩; simp [binOp, Op.stringOp])
    | _ => simp [binA] at hb
  | _ => simp [binA] at hb

theorem unA_sound {op : UnOp} {x r : AV} {ux : Value} (hx : V β h F w x ux) (hb : unA op x = some r) : ∃ ru, (Op.unary op ux).run P w = .ok ru w ∧ V β h F w r ru := by
  cases hx with
  | int k a =>
    cases op <;> simp [unA] at hb <;> subst hb <;> (refine ⟨_, ?_, V.int _ _⟩; first | (simp [Op.unary, Op.intArith, Op.intBits]; done) | (simp [Op.unary, Op.intArith, Op.intBits]; rfl))
  | bool b => cases op <;> simp [unA] at hb; subst hb; exact ⟨_, by simp [Op.unary], .bool _⟩
  | _ => simp [unA] at hb

theorem asN_inv {x : AV} {n : Int} (hn : asN x = some n) {u : Value} (hx : V β h F w x u) : ∃ k, u = .int k n := by
  cases hx <;> simp [asN] at hn
  subst hn
  exact ⟨_, rfl⟩

theorem fieldAt_sound {t : TypeId} {fs : Array Field} {i : Nat} {fl : Field} {fsz : Nat} (ht : P.underlying t = some (.struct fs)) (hf : fs[i]? = some fl) (hsz : szOf P fl.type = some fsz) (hz : fsz ≠ 0)
    {x r : AV} {u : Value} (hx : V β h F w x u)
    (hr : faddrA fl.offset x = some r) :
    ∃ ru, (Instr.fieldAt t u i).run P w = .ok ru w ∧ V β h F w r ru := by
  unfold faddrA at hr
  have hp : ∀ a : Addr, (fieldPlace a fl).run P w = .ok (a.add fl.offset) w := fun a => by
    simp [fieldPlace, szOf_run hsz, hz]
  have hs : ∀ a : Addr, (Instr.fieldAt t (.pointer (some a)) i).run P w = .ok (.pointer (some (a.add fl.offset))) w := fun a => by
    simp [Instr.fieldAt, run_underlying ht, hf, Instr.sureAddr, hp]
  cases hx with
  | ptr n ver i o b e g es hb hh =>
    simp at hr; subst hr
    exact ⟨_, hs _, by rw [add_none rfl]; simp only [Nat.add_assoc]; exact .ptr n ver i (o + fl.offset) b e g es hb hh⟩
  | repl n o b ps hb hh =>
    simp at hr; subst hr
    exact ⟨_, hs _, by rw [add_none rfl]; exact .repl n (o + fl.offset) b ps hb hh⟩
  | ptrS n ver i o a hs' =>
    simp at hr; subst hr
    exact ⟨_, hs _, .ptrS n ver i (o + fl.offset) _ hs'⟩
  | cref cs a hsp us hu hv =>
    dsimp only at hr
    split at hr
    · simp at hr; subst hr
      refine ⟨_, hs _, ?_⟩
      rw [add_none hsp]
      refine .cref _ _ rfl (fun j => us (fl.offset + j)) (fun j c hc => ?_) (fun j c hc => ?_)
      · rw [List.getElem?_drop] at hc
        have := hu _ c hc
        simpa [Nat.add_assoc] using this
      · rw [List.getElem?_drop] at hc
        exact hv _ c hc
    · simp at hr
  | _ => simp at hr
end
end Go.Eng

/- The engine, part D4: elements, pieces of slices and strings. -/
namespace Go.Eng
set_option linter.unusedSectionVars false
set_option linter.unusedSimpArgs false

section
variable {RP : RPred} {β : Beta} {h : Heap} {F : Frz} {w : World} {P : Program}

theorem flatC_drop_take {xs : List AV} {sz : Nat} (hz : ∀ x ∈ xs, x.cells.length = sz) (a : Nat) : flatC (xs.drop a) = (flatC xs).drop (a * sz) := by
  induction xs generalizing a with
  | nil => simp [flatC]
  | cons y xs ih =>
    cases a with
    | zero => simp
    | succ a =>
      have hy := hz y (by simp)
      have hflat : flatC (y :: xs) = y.cells ++ flatC xs := by simp [flatC]
      rw [List.drop_succ_cons, ih (fun x hx => hz x (by simp [hx])), hflat, Nat.succ_mul, Nat.add_comm, ← List.drop_drop, List.drop_left' hy]

theorem flatC_take_get {xs : List AV} (b : Nat) : ∀ {j : Nat} {c : AV}, (flatC (xs.take b))[j]? = some c → (flatC xs)[j]? = some c := by
  intro j c hc
  have : flatC xs = flatC (xs.take b) ++ flatC (xs.drop b) := by
    simp only [flatC, ← List.flatten_append, ← List.map_append, List.take_append_drop]
  rw [this, List.getElem?_append_left (List.getElem?_eq_some_iff.1 hc).1]
  exact hc

/-- a frozen row: an element's cells -/
theorem V.lst_at {xs : List AV} {u : Value} (hv : V β h F w (.lst xs) u) : (∃ a cap, u = .slice a xs.length cap ∧ xs.length ≤ cap) ∧ ∀ (j : Nat) (x : AV), xs[j]? = some x →
    ∃ a cap sz, u = .slice (some a) xs.length cap ∧ xs.length ≤ cap ∧ a.spot = none ∧ x.cells.length = sz ∧ (∀ y ∈ xs, y.cells.length = sz) ∧ ∃ us : Nat → Value, ∀ (k : Nat) (c : AV), (flatC xs)[k]? = some c →
      w.cell? ⟨a.block, a.off + k, none⟩ = some (us k) ∧ F a.block (a.off + k) ∧ V β h F w c (us k) := by
  cases hv with
  | lst0 a cap => exact ⟨⟨a, cap, rfl, by simp⟩, by simp⟩
  | lst xs a cap sz hc hs hz us hu hv =>
    exact ⟨⟨some a, cap, rfl, hc⟩, fun j x hx => ⟨a, cap, sz, rfl, hc, hs, hz x (List.mem_of_getElem? hx), hz, us, fun k c hk => ⟨(hu k c hk).1, (hu k c hk).2, hv k c hk⟩⟩⟩

theorem adv_off {e sz i o k : Nat} : (adv e sz i o k).1 * e + (adv e sz i o k).2 = i * e + o + k * sz := by
  unfold adv
  split
  · rename_i he; subst he; simp [Nat.add_mul]; omega
  · simp; omega

/-- an element's address: of a slice -/
theorem iaddr_slice_sound {t e : TypeId} {sz : Nat} (ht : P.underlying t = some (.slice e)) (hs : szOf P e = some sz) {x r : AV} {u : Value} (hx : V β h F w x u) {k : IntKind} {j : Int}
    (hr : iaddrL h sz j x = some r) : ∃ ru, (Instr.indexAt t u (.int k j)).run P w = .ok ru w ∧ V β h F w r ru := by
  unfold iaddrL at hr
  have hrun : ∀ (a : Addr) (len cap : Nat), 0 ≤ j → j < len → (Instr.indexAt t (.slice (some a) len cap) (.int k j)).run P w = .ok (.pointer (some (a.add (j.toNat * sz)))) w := fun a len cap h0 h1 => by
    simp [Instr.indexAt, run_underlying ht, asIntOf, szOf_run hs, h0, h1]
  cases x with
  | lst xs =>
    dsimp only at hr
    split at hr
    · rename_i h0
      cases hj : xs[j.toNat]? with
      | none => rw [hj] at hr; simp at hr
      | some x =>
        rw [hj] at hr; dsimp only at hr
        split at hr
        · rename_i hxl
          simp at hr; subst hr
          obtain ⟨a, cap, sz', rfl, hc, hsp, hx', hz, us, hus⟩ := hx.lst_at.2 _ x hj
          have hlt : j.toNat < xs.length := (List.getElem?_eq_some_iff.1 hj).1
          have e1 : sz' = sz := hx' ▸ hxl
          subst e1
          refine ⟨_, hrun a _ _ h0 (by omega), ?_⟩
          rw [add_none hsp]
          refine .cref _ _ rfl (fun m => us (j.toNat * sz' + m)) (fun m c hm => ?_) (fun m c hm => ?_)
          · have := hus _ c (flatC_get hz hj hm)
            rw [show a.off + j.toNat * sz' + m = a.off + (j.toNat * sz' + m) by omega]
            exact ⟨this.1, this.2.1⟩
          · exact (hus _ c (flatC_get hz hj hm)).2.2
        · simp at hr
    · simp at hr
  | slc n ver s bi bo len cp =>
    dsimp only at hr
    split at hr
    · rename_i hcond
      obtain ⟨rfl, h0, h1⟩ := hcond
      cases hl : look h n ver with
      | none => rw [hl] at hr; simp at hr
      | some q =>
        obtain ⟨e', g, es⟩ := q
        rw [hl] at hr; simp at hr; subst hr
        have hh := look_eq hl
        cases hx with
        | slcX n ver sz i o len c b e'' g' es' hb hh' hlc hf =>
          rw [hh] at hh'; simp at hh'; obtain ⟨rfl, rfl, rfl⟩ := hh'
          refine ⟨_, hrun _ _ _ h0 h1, ?_⟩
          rw [add_none rfl]
          have : bi * e' + bo + j.toNat * s = (adv e' s bi bo j.toNat).1 * e' + (adv e' s bi bo j.toNat).2 := adv_off.symm
          simp only [this]
          exact .ptr n ver _ _ b e' g es hb hh
        | slcG n ver sz i len c b a es' us el fr hb hh' hlc hw hf hk0 ha =>
          rw [hh] at hh'; simp at hh'; obtain ⟨rfl, rfl, rfl⟩ := hh'
          have hc0 : c ≠ 0 := by omega
          rw [ha (.inl hc0)]
          refine ⟨_, hrun _ _ _ h0 h1, ?_⟩
          rw [add_none rfl]
          have : bi * e' + j.toNat * e' = (adv e' e' bi 0 j.toNat).1 * e' + (adv e' e' bi 0 j.toNat).2 := by rw [adv_off]; omega
          simp only [this]
          exact .ptr n ver _ _ b _ _ _ hb hh
        | slcS n ver sz i o len cap a c hs => exact absurd hs (not_stale hh)
    · simp at hr
  | _ => simp at hr

/-- .. of an array -/
theorem iaddr_arr_sound {t e : TypeId} {sz len : Nat} (ht : P.underlying t = some (.array len e)) (hs : szOf P e = some sz) {x r : AV} {u : Value} (hx : V β h F w x u) {k : IntKind} {j : Int}
    (hr : iaddrR len sz j x = some r) : ∃ ru, (Instr.indexAt t u (.int k j)).run P w = .ok ru w ∧ V β h F w r ru := by
  unfold iaddrR at hr
  have hrun : ∀ (a : Addr), 0 ≤ j → j < len → (Instr.indexAt t (.pointer (some a)) (.int k j)).run P w = .ok (.pointer (some (a.add (j.toNat * sz)))) w := fun a h0 h1 => by
    simp [Instr.indexAt, run_underlying ht, asIntOf, szOf_run hs, h0, h1, Instr.sureAddr]
  cases hx with
  | ptr n ver i o b e g es hb hh =>
    dsimp only at hr
    split at hr
    · rename_i hj
      simp at hr; subst hr
      exact ⟨_, hrun _ hj.1 hj.2, by rw [add_none rfl]; simp only [Nat.add_assoc]; exact .ptr n ver i _ b e g es hb hh⟩
    · simp at hr
  | repl n o b ps hb hh =>
    dsimp only at hr
    split at hr
    · rename_i hj
      simp at hr; subst hr
      exact ⟨_, hrun _ hj.1 hj.2, by rw [add_none rfl]; exact .repl n _ b ps hb hh⟩
    · simp at hr
  | ptrS n ver i o a hs' =>
    dsimp only at hr
    split at hr
    · rename_i hj
      simp at hr; subst hr
      exact ⟨_, hrun _ hj.1 hj.2, .ptrS n ver i _ _ hs'⟩
    · simp at hr
  | cref cs a hsp us hu hv =>
    dsimp only at hr
    split at hr
    · rename_i hj
      simp at hr; subst hr
      refine ⟨_, hrun _ hj.1 hj.2.1, ?_⟩
      rw [add_none hsp]
      refine .cref _ _ rfl (fun m => us (j.toNat * sz + m)) (fun m c hc => ?_) (fun m c hc => ?_)
      · rw [List.getElem?_drop] at hc
        have := hu _ c hc
        simpa [Nat.add_assoc] using this
      · rw [List.getElem?_drop] at hc
        exact hv _ c hc
    · simp at hr
  | _ => simp at hr

/-- a bound that may be left out -/
inductive OV (β : Beta) (h : Heap) (F : Frz) (w : World) : Option AV → Option Value → Prop
  | none : OV β h F w none none
  | some (x : AV) (u : Value) (hv : V β h F w x u) : OV β h F w (some x) (some u)

theorem bound_le {x : Option AV} {d m r : Nat} (hb : bound x d m = some r) (hd : d ≤ m) : r ≤ m := by
  unfold bound at hb
  split at hb
  · simp at hb; omega
  · split at hb
    · split at hb
      · simp at hb; omega
      · simp at hb
    · simp at hb

theorem bounds3_le {len most : Nat} {lo hi mx : Option AV} {a b m : Nat} (hb : bounds3 len most lo hi mx = some (a, b, m)) (hl : len ≤ most) (hm : mx = none → len ≤ most) : a ≤ b ∧ b ≤ m ∧ m ≤ most := by
  unfold bounds3 at hb
  split at hb
  · simp at hb
  · rename_i hc
    cases h1 : bound mx most most with
    | none => rw [h1] at hb; simp at hb
    | some m' =>
      rw [h1] at hb; dsimp only at hb
      cases h2 : bound hi len m' with
      | none => rw [h2] at hb; simp at hb
      | some b' =>
        rw [h2] at hb; dsimp only at hb
        cases h3 : bound lo 0 b' with
        | none => rw [h3] at hb; simp at hb
        | some a' =>
          rw [h3] at hb; simp at hb
          obtain ⟨rfl, rfl, rfl⟩ := hb
          refine ⟨bound_le h3 (by omega), ?_, bound_le h1 (by omega)⟩
          cases mx with
          | none =>
            simp [bound] at h1
            exact bound_le h2 (by omega)
          | some y =>
            cases hi with
            | none => simp at hc
            | some z =>
              unfold bound at h2
              dsimp only at h2
              split at h2
              · split at h2
                · simp at h2; omega
                · simp at h2
              · simp at h2

theorem bound_run {x : Option AV} {d m r : Nat} {xv : AV} {u : Value} (hb : bound x d m = some r) (hx : x = some xv) (hv : V β h F w xv u) {m' : Nat} (hm : m ≤ m') (c : BoundsCode) : (Instr.sliceBound u m' c).run P w = .ok r w := by
  subst hx
  unfold bound at hb
  dsimp only at hb
  cases hn : asN xv with
  | none => rw [hn] at hb; simp at hb
  | some i =>
    rw [hn] at hb; dsimp only at hb
    split at hb
    · rename_i hi
      simp at hb; subst hb
      obtain ⟨k, rfl⟩ := asN_inv hn hv
      exact run_sliceBound w k i m' c hi.1 (by omega)
    · simp at hb

theorem sliceBounds_run {len most cap : Nat} {lo hi mx : Option AV} {ulo uhi umx : Option Value} (hlo : OV β h F w lo ulo) (hhi : OV β h F w hi uhi) (hmx : OV β h F w mx umx) {a b m : Nat}
    (hb : bounds3 len most lo hi mx = some (a, b, m)) (hc : most ≤ cap) (isS : Bool) :
    (Instr.sliceBounds isS len cap ulo uhi umx).run P w = .ok (a, b, if mx.isSome then m else cap) w := by
  unfold bounds3 at hb
  split at hb
  · simp at hb
  · rename_i hcnd
    cases h1 : bound mx most most with
    | none => rw [h1] at hb; simp at hb
    | some m' =>
      rw [h1] at hb; dsimp only at hb
      cases h2 : bound hi len m' with
      | none => rw [h2] at hb; simp at hb
      | some b' =>
        rw [h2] at hb; dsimp only at hb
        cases h3 : bound lo 0 b' with
        | none => rw [h3] at hb; simp at hb
        | some a' =>
          rw [h3] at hb; simp at hb
          obtain ⟨rfl, rfl, rfl⟩ := hb
          unfold Instr.sliceBounds
          cases hmx with
          | none =>
            simp [bound] at h1; subst h1
            cases hhi with
            | none =>
              simp [bound] at h2; subst h2
              cases hlo with
              | none => simp [bound] at h3; subst h3; simp
              | some xl ul hvl => simp [bound_run h3 rfl hvl (Nat.le_refl _)]
            | some xh uh hvh =>
              cases hlo with
              | none => simp [bound] at h3; subst h3; simp [bound_run h2 rfl hvh hc]
              | some xl ul hvl => simp [bound_run h2 rfl hvh hc, bound_run h3 rfl hvl (Nat.le_refl _)]
          | some xm um hvm =>
            cases hhi with
            | none => simp at hcnd
            | some xh uh hvh =>
              cases hlo with
              | none => simp [bound] at h3; subst h3; simp [bound_run h1 rfl hvm hc, bound_run h2 rfl hvh (Nat.le_refl _)]
              | some xl ul hvl => simp [bound_run h1 rfl hvm hc, bound_run h2 rfl hvh (Nat.le_refl _), bound_run h3 rfl hvl (Nat.le_refl _)]
end
end Go.Eng

/- The engine, part D5: slice expressions, elements, parts of values. -/
namespace Go.Eng
set_option linter.unusedSectionVars false
set_option linter.unusedSimpArgs false

section
variable {RP : RPred} {β : Beta} {h : Heap} {F : Frz} {w : World} {P : Program}

theorem bounds3_none {len most : Nat} {lo hi mx : Option AV} {a b m : Nat} (hb : bounds3 len most lo hi mx = some (a, b, m)) (hm : mx = none) : m = most := by
  subst hm
  unfold bounds3 at hb
  simp only [Option.isSome_none, Bool.false_and, Bool.false_eq_true, if_false, bound] at hb
  split at hb
  · split at hb
    · simp at hb; omega
    · simp at hb
  · simp at hb

theorem slice_str_sound {t : TypeId} (ht : P.underlying t = some .string) {s : List UInt8} {lo hi : Option AV} {ulo uhi : Option Value} (hlo : OV β h F w lo ulo) (hhi : OV β h F w hi uhi) {a b m : Nat}
    (hb : bounds3 s.length s.length lo hi none = some (a, b, m)) :
    (Instr.sliceAt t (.string ⟨s.toArray⟩) ulo uhi none).run P w = .ok (.string ⟨((s.take b).drop a).toArray⟩) w := by
  rw [run_sliceAt_string w t _ _ _ _ ht]
  have hs := sliceBounds_run (P := P) (cap := s.length) hlo hhi (OV.none) hb (Nat.le_refl _) false
  have hsz : (⟨s.toArray⟩ : ByteArray).size = s.length := by simp [ByteArray.size]
  simp only [Instr.slice, Sem.run_bind, run_underlying ht, Result.andThen_ok, Option.isSome_none, Bool.false_eq_true, if_false, hsz, hs, Sem.run_pure]
  congr 2
  rw [ByteArray.extract_mk, List.drop_take]

theorem slice_sl_run {t e : TypeId} {sz : Nat} (ht : P.underlying t = some (.slice e)) (hs : szOf P e = some sz) {A : Option Addr} {len most cap : Nat} {lo hi mx : Option AV} {ulo uhi umx : Option Value}
    (hlo : OV β h F w lo ulo) (hhi : OV β h F w hi uhi) (hmx : OV β h F w mx umx) {a b m : Nat} (hb : bounds3 len most lo hi mx = some (a, b, m)) (hc : most ≤ cap) :
    (Instr.sliceAt t (.slice A len cap) ulo uhi umx).run P w = .ok (.slice (if (if mx.isSome then m else cap) = a then A else A.map (·.add (a * sz))) (b - a) ((if mx.isSome then m else cap) - a)) w := by
  have h1 := sliceBounds_run (P := P) (cap := cap) hlo hhi hmx hb hc true
  simp only [Instr.sliceAt, Sem.run_bind, run_underlying ht, Result.andThen_ok, Instr.slice, h1, szOf_run hs, Sem.run_pure]

theorem sliceA_sound (_hR : Rel RP β F h w) {k : SlK} {t : TypeId} {lo hi mx : Option AV} {ulo uhi umx : Option Value} (hlo : OV β h F w lo ulo) (hhi : OV β h F w hi uhi) (hmx : OV β h F w mx umx)
    {x r : AV} {u : Value} (hx : V β h F w x u)
    (hk : match k with | .str => P.underlying t = some .string | .sl sz => ∃ e, P.underlying t = some (.slice e) ∧ szOf P e = some sz | .arr n sz => ∃ e, P.underlying t = some (.array n e) ∧ szOf P e = some sz)
    (hr : sliceA h k x lo hi mx = some r) : ∃ ru, (Instr.sliceAt t u ulo uhi umx).run P w = .ok ru w ∧ V β h F w r ru := by
  unfold sliceA at hr
  split at hr
  · -- strings
    rename_i s
    cases hx with
    | str s =>
      split at hr
      · simp at hr
      · rename_i hm
        have hmn : mx = none := by cases mx <;> simp_all
        subst hmn
        cases hmx
        split at hr
        · rename_i a b m hb
          simp at hr; subst hr
          exact ⟨_, slice_str_sound hk hlo hhi hb, .str _⟩
        · simp at hr
  · -- nil
    rename_i sz
    obtain ⟨e, ht, hs⟩ := hk
    cases hx with
    | nils a0 =>
      split at hr
      · rename_i q hb
        obtain ⟨a, b, m⟩ := q
        simp at hr; subst hr
        have hle := bounds3_le hb (Nat.le_refl _) (fun _ => Nat.le_refl _)
        refine ⟨_, slice_sl_run ht hs hlo hhi hmx hb (Nat.le_refl _), ?_⟩
        have e1 : b - a = 0 := by omega
        have e2 : (if mx.isSome then m else 0) - a = 0 := by split <;> omega
        rw [e1, e2]
        exact .nils _
      · simp at hr
  · -- a frozen row
    rename_i sz xs
    obtain ⟨e, ht, hs⟩ := hk
    split at hr
    · rename_i a b m hb
      have hle := bounds3_le hb (Nat.le_refl _) (fun _ => Nat.le_refl _)
      obtain ⟨⟨A, cap, rfl, hcap⟩, hat⟩ := hx.lst_at
      refine ⟨_, slice_sl_run ht hs hlo hhi hmx hb hcap, ?_⟩
      split at hr
      · rename_i hma
        simp at hr; subst hr
        have e1 : b - a = 0 := by omega
        have e2 : (if mx.isSome then m else cap) - a = 0 := by rw [if_pos hma.1]; omega
        rw [e1, e2]
        exact .nils _
      · rename_i hma
        split at hr
        · rename_i hall
          simp at hr; subst hr
          have hz : ∀ y ∈ xs, y.cells.length = sz := fun y hy => by simpa using (List.all_eq_true.1 hall y hy)
          by_cases hab : b = a
          · have : (xs.take b).drop a = [] := by subst hab; simp
            rw [this, hab, Nat.sub_self]
            exact .lst0 _ _
          · have hlt : a < xs.length := by omega
            obtain ⟨A', cap', sz', hAe, hc', hsp, hxl, hz', us, hus⟩ := hat a _ (List.getElem?_eq_getElem hlt)
            simp at hAe
            obtain ⟨rfl, rfl⟩ := hAe
            have e1 : sz' = sz := by rw [← hxl]; exact hz _ (List.getElem_mem hlt)
            subst e1
            have hne : ¬ ((if mx.isSome then m else cap) = a) := by
              intro he
              by_cases hms : mx.isSome = true
              · rw [if_pos hms] at he; exact hma ⟨hms, he⟩
              · rw [if_neg hms] at he; omega
            rw [if_neg hne]
            rw [Option.map_some, add_none hsp]
            have hlen : ((xs.take b).drop a).length = b - a := by simp; omega
            rw [← hlen]
            have hflat : ∀ (j : Nat) (c : AV), (flatC ((xs.take b).drop a))[j]? = some c → (flatC xs)[a * sz' + j]? = some c := fun j c hj => by
              rw [flatC_drop_take (fun y hy => hz y (List.mem_of_mem_take hy)), List.getElem?_drop] at hj
              exact flatC_take_get b hj
            refine .lst _ _ _ sz' ?_ rfl (fun y hy => hz y (List.mem_of_mem_take (List.mem_of_mem_drop hy))) (fun j => us (a * sz' + j)) (fun j c hj => ?_) (fun j c hj => ?_)
            · rw [hlen]; split <;> omega
            · have := hus _ c (hflat j c hj)
              rw [show A'.off + a * sz' + j = A'.off + (a * sz' + j) by omega]
              exact ⟨this.1, this.2.1⟩
            · exact (hus _ c (hflat j c hj)).2.2
        · simp at hr
    · simp at hr
  · -- a live row
    rename_i sz n ver s i o len cap
    obtain ⟨e, ht, hs⟩ := hk
    split at hr
    · simp at hr
    · rename_i hss
      have hss : s = sz := by simpa using hss
      subst hss
      cases hl : look h n ver with
      | none => rw [hl] at hr; simp at hr
      | some q =>
        obtain ⟨e', g, es⟩ := q
        rw [hl] at hr; dsimp only at hr
        have hh := look_eq hl
        cases hb : bounds3 len (cap.getD len) lo hi mx with
        | none => rw [hb] at hr; simp at hr
        | some q =>
          obtain ⟨a, b, m⟩ := q
          rw [hb] at hr; dsimp only at hr
          cases hx with
          | slcX n ver sz i o len c b' e'' g' es' hβ hh' hlc hf =>
            rw [hh] at hh'; simp at hh'; obtain ⟨rfl, rfl, rfl⟩ := hh'
            simp only [Option.getD_some] at hb hr
            have hle := bounds3_le hb hlc (fun _ => hlc)
            refine ⟨_, slice_sl_run ht hs hlo hhi hmx hb (Nat.le_refl _), ?_⟩
            have hmc : (if mx.isSome then m else c) = m := by
              split
              · rfl
              · rename_i hm
                exact (bounds3_none hb (by cases mx <;> simp_all)).symm
            rw [hmc]
            simp only [Option.isSome_some, or_true, if_true] at hr
            split at hr
            · rename_i hm0
              simp at hr; subst hr
              have e1 : b - a = 0 := by omega
              rw [e1, hm0]
              exact .nils _
            · rename_i hm0
              simp at hr; subst hr
              have hne : ¬ (m = a) := by omega
              rw [if_neg hne, Option.map_some, add_none (a := ⟨b', i * e' + o, none⟩) rfl]
              have hoff : i * e' + o + a * s = (adv e' s i o a).1 * e' + (adv e' s i o a).2 := adv_off.symm
              simp only [hoff]
              refine .slcX n ver s _ _ _ _ b' e' g es hβ hh (by omega) ?_
              rw [← hoff]
              have : a * s + (m - a) * s ≤ c * s := by rw [← Nat.add_mul]; exact Nat.mul_le_mul_right _ (by omega)
              omega
          | slcG n ver sz i len c b' A es' us el fr hβ hh' hlc hw hf hk0 ha =>
            rw [hh] at hh'; simp at hh'; obtain ⟨rfl, rfl, rfl⟩ := hh'
            simp only [Option.getD_none] at hb hr
            have hle := bounds3_le hb (Nat.le_refl _) (fun _ => Nat.le_refl _)
            refine ⟨_, slice_sl_run ht hs hlo hhi hmx hb hlc, ?_⟩
            by_cases hms : mx.isSome = true
            · simp only [hms, true_or, if_true] at hr ⊢
              split at hr
              · rename_i hm0
                simp at hr; subst hr
                have e1 : b - a = 0 := by omega
                rw [e1, hm0]
                exact .nils _
              · rename_i hm0
                split at hr
                · rename_i hfit
                  simp at hr; subst hr
                  have hne : ¬ (m = a) := by omega
                  have hc0 : c ≠ 0 := by omega
                  rw [if_neg hne, ha (.inl hc0), Option.map_some, add_none (a := ⟨b', i * e', none⟩) rfl]
                  have hoff : i * e' + a * e' = (adv e' e' i 0 a).1 * e' + (adv e' e' i 0 a).2 := by rw [adv_off]; omega
                  simp only [hoff]
                  refine .slcX n ver e' _ _ _ _ b' e' true es hβ hh (by omega) ?_
                  rw [← hoff]
                  have : a * e' + (m - a) * e' ≤ len * e' := by rw [← Nat.add_mul]; exact Nat.mul_le_mul_right _ (by omega)
                  omega
                · simp at hr
            · simp only [hms, Bool.false_eq_true, if_false, Option.isSome_none, or_self] at hr ⊢
              simp at hr; subst hr
              have hadv : adv e' e' i 0 a = (i + a, 0) := by simp [adv]
              rw [hadv]
              refine .slcG n ver e' (i + a) (b - a) (c - a) b' _ es us el fr hβ hh (by omega) hw ?_ (by omega) ?_
              · have : (i + a) * e' + (c - a) * e' = i * e' + c * e' := by rw [← Nat.add_mul, ← Nat.add_mul]; congr 1; omega
                omega
              · intro hca
                by_cases hc : c = a
                · have : i + a = 0 := by omega
                  have hi0 : i = 0 := by omega
                  have ha0 : a = 0 := by omega
                  subst hi0; subst ha0
                  simp [hc, ha (.inr rfl)]
                · rw [if_neg hc, ha (.inl (by omega))]
                  rw [Option.map_some, add_none (a := ⟨b', i * e', none⟩) rfl, Nat.add_mul]
          | slcS n ver sz i o len cap a c hst => exact absurd hst (not_stale hh)
  · -- an array
    rename_i len sz n ver i o
    obtain ⟨e, ht, hs⟩ := hk
    cases hl : look h n ver with
    | none => rw [hl] at hr; simp at hr
    | some q =>
      obtain ⟨e', g, es⟩ := q
      rw [hl] at hr; dsimp only at hr
      have hh := look_eq hl
      cases hb : bounds3 len len lo hi mx with
      | none => rw [hb] at hr; simp at hr
      | some q =>
        obtain ⟨a, b, m⟩ := q
        rw [hb] at hr; dsimp only at hr
        have hle := bounds3_le hb (Nat.le_refl _) (fun _ => Nat.le_refl _)
        obtain ⟨b', rfl, hβ⟩ := hx.ptr_inv hl
        have h1 := sliceBounds_run (P := P) (cap := len) hlo hhi hmx hb (Nat.le_refl _) false
        have hmc : (if mx.isSome then m else len) = m := by
          split
          · rfl
          · rename_i hm
            exact (bounds3_none hb (by cases mx <;> simp_all)).symm
        rw [hmc] at h1
        have hrun : (Instr.sliceAt t (.pointer (some ⟨b', i * e' + o, none⟩)) ulo uhi umx).run P w =
            .ok (.slice (some (if m = a then ⟨b', i * e' + o, none⟩ else (⟨b', i * e' + o, none⟩ : Addr).add (a * sz))) (b - a) (m - a)) w := by
          simp only [Instr.sliceAt, Sem.run_bind, run_underlying ht, Result.andThen_ok, Instr.sureAddr, Sem.run_pure, h1, szOf_run hs]
        refine ⟨_, hrun, ?_⟩
        split at hr
        · rename_i hm0
          simp at hr; subst hr
          have e1 : b - a = 0 := by omega
          rw [e1, hm0]
          exact .nils _
        · rename_i hm0
          split at hr
          · rename_i hfit
            simp at hr; subst hr
            have hne : ¬ (m = a) := by omega
            rw [if_neg hne, add_none rfl]
            have hoff : i * e' + o + a * sz = i * e' + (o + a * sz) := by omega
            simp only [hoff]
            refine .slcX n ver sz i (o + a * sz) (b - a) (m - a) b' e' g es hβ hh (by omega) ?_
            have h2 : a * sz + (m - a) * sz ≤ len * sz := by rw [← Nat.add_mul]; exact Nat.mul_le_mul_right _ (by omega)
            have h3 : (i + 1) * e' ≤ es.length * e' := Nat.mul_le_mul_right _ (by omega)
            rw [Nat.succ_mul] at h3
            omega
          · simp at hr
  · simp at hr
end
end Go.Eng

/- The engine, part D6: equality. -/
namespace Go.Eng
set_option linter.unusedSectionVars false
set_option linter.unusedSimpArgs false

section
variable {RP : RPred} {β : Beta} {h : Heap} {F : Frz} {w : World} {P : Program}

/-- cells that stand for cells -/
structure CellsV (β : Beta) (h : Heap) (F : Frz) (w : World) (cs : List AV) (us : Array Value) : Prop where
  len : cs.length = us.size
  val : ∀ (j : Nat) (c : AV) (u : Value), cs[j]? = some c → us[j]? = some u → V β h F w c u

theorem eqL_cons {l : Leaf} {s : List Leaf} {xs ys : List AV} {b : Bool} (h : eqL (l :: s) xs ys = some b) :
    ∃ x xs' y ys' b0 b1, xs = x :: xs' ∧ ys = y :: ys' ∧ eqL s xs' ys' = some b1 ∧ b = (b0 && b1) ∧ ∀ s' xs'' ys'', eqL (l :: s') (x :: xs'') (y :: ys'') = (eqL s' xs'' ys'').map (b0 && ·) := by
  cases xs with
  | nil => cases l <;> simp [eqL] at h
  | cons x xs =>
    cases ys with
    | nil => cases l <;> cases x <;> simp [eqL] at h
    | cons y ys =>
      cases l with
      | b =>
        cases x <;> cases y <;> simp only [eqL, Option.map_eq_some_iff, reduceCtorEq] at h
        obtain ⟨c, hc, rfl⟩ := h
        exact ⟨_, _, _, _, _, c, rfl, rfl, hc, rfl, fun s' xs'' ys'' => by simp [eqL]⟩
      | i =>
        cases x <;> cases y <;> simp only [eqL, reduceCtorEq] at h
        split at h
        · rename_i hk
          simp only [Option.map_eq_some_iff] at h
          obtain ⟨c, hc, rfl⟩ := h
          exact ⟨_, _, _, _, _, c, rfl, rfl, hc, rfl, fun s' xs'' ys'' => by simp [eqL, hk]⟩
        · simp at h
      | s =>
        cases x <;> cases y <;> simp only [eqL, Option.map_eq_some_iff, reduceCtorEq] at h
        obtain ⟨c, hc, rfl⟩ := h
        exact ⟨_, _, _, _, _, c, rfl, rfl, hc, rfl, fun s' xs'' ys'' => by simp [eqL]⟩

theorem eqL_nil {xs ys : List AV} {b : Bool} (h : eqL [] xs ys = some b) : xs = [] ∧ ys = [] ∧ b = true := by
  cases xs <;> cases ys <;> simp [eqL] at h
  simpa using h

theorem eqL_len : ∀ {sh : List Leaf} {xs ys : List AV} {b : Bool}, eqL sh xs ys = some b → xs.length = sh.length ∧ ys.length = sh.length
  | [], xs, ys, b, h => by obtain ⟨rfl, rfl, _⟩ := eqL_nil h; exact ⟨rfl, rfl⟩
  | l :: s, xs, ys, b, h => by
    obtain ⟨x, xs', y, ys', b0, b1, rfl, rfl, h1, _, _⟩ := eqL_cons h
    have := eqL_len h1
    simp [this]

theorem eqL_split : ∀ {s1 s2 : List Leaf} {xs ys : List AV} {b : Bool}, eqL (s1 ++ s2) xs ys = some b →
    ∃ b1 b2, eqL s1 (xs.take s1.length) (ys.take s1.length) = some b1 ∧ eqL s2 (xs.drop s1.length) (ys.drop s1.length) = some b2 ∧ b = (b1 && b2)
  | [], s2, xs, ys, b, h => ⟨true, b, by simp [eqL], by simpa using h, by simp⟩
  | l :: s1, s2, xs, ys, b, h => by
    obtain ⟨x, xs', y, ys', b0, b1, rfl, rfl, h1, rfl, hall⟩ := eqL_cons h
    obtain ⟨c1, c2, hc1, hc2, rfl⟩ := eqL_split h1
    exact ⟨b0 && c1, c2, by simp only [List.length_cons, List.take_succ_cons, hall, hc1, Option.map_some], by simpa using hc2, by rw [Bool.and_assoc]⟩

/-- a part of a value's cells, and the same part of the other's -/
theorem CellsV.extract {cs : List AV} {us : Array Value} (hc : CellsV β h F w cs us) (a n : Nat) (hn : a + n ≤ cs.length) : CellsV β h F w ((cs.drop a).take n) (us.extract a (a + n)) where
  len := by have := hc.len; simp; omega
  val := fun j c u hj hu => by
    have hjn : j < n := by
      have := (List.getElem?_eq_some_iff.1 hj).1
      simp at this; omega
    rw [List.getElem?_take, if_pos hjn, List.getElem?_drop] at hj
    rw [Array.getElem?_extract] at hu
    have hlt : j < min (a + n) us.size - a := by have := hc.len; omega
    rw [if_pos hlt] at hu
    exact hc.val _ c u hj hu

theorem szOf_run' {t : TypeId} {n : Nat} (hs : szOf P t = some n) (w : World) : (sizeOf t).run P w = .ok n w := szOf_run hs

/-- a part, read off an aggregate's cells -/
theorem part_run (hP : TypesOK P) {t : TypeId} {n : Nat} (hs : szOf P t = some n) {cs : List AV} {us : Array Value} (hc : CellsV β h F w cs us) {a : Nat} (hn : a + n ≤ cs.length) (h1 : aggT P t = false → n = 1) :
    ∃ u, (part t us a).run P w = .ok u w ∧ (aggT P t = true → u = .agg (us.extract a (a + n))) ∧ (aggT P t = false → ∃ c, cs[a]? = some c ∧ us[a]? = some u ∧ V β h F w c u) := by
  cases ha : aggT P t with
  | true => exact ⟨_, by simp [part, aggT_run hP hs, ha, szOf_run hs], fun _ => rfl, by simp⟩
  | false =>
    have hn1 := h1 ha
    have hlt : a < us.size := by have := hc.len; omega
    refine ⟨us[a], by simp [part, aggT_run hP hs, ha, Array.getElem?_eq_getElem hlt], by simp, fun _ => ?_⟩
    have hlt' : a < cs.length := by omega
    exact ⟨cs[a], List.getElem?_eq_getElem hlt', Array.getElem?_eq_getElem hlt, hc.val a _ _ (List.getElem?_eq_getElem hlt') (Array.getElem?_eq_getElem hlt)⟩

theorem fieldsOf_eq {t : TypeId} {fs : Array Field} (ht : P.underlying t = some (.struct fs)) : P.fieldsOf t = fs := by simp [Program.fieldsOf, ht]

/-- the value of a type, by its cells -/
def OfCells (P : Program) (t : TypeId) (us : Array Value) (u : Value) : Prop := (aggT P t = true → u = .agg us) ∧ (aggT P t = false → us = #[u])

theorem shapeT_scalar {d : Nat} {t : TypeId} {sh : List Leaf} (hs : shapeT P d t = some sh) (ha : aggT P t = false) : sh.length = 1 := by
  cases d with
  | zero => simp [shapeT] at hs
  | succ d =>
    unfold shapeT at hs
    unfold aggT at ha
    split at hs <;> simp_all
    · subst hs; rfl
    · subst hs; rfl
    · subst hs; rfl

theorem equalIn_shape (hP : TypesOK P) : ∀ (d : Nat) (t : TypeId) (sh : List Leaf), shapeT P d t = some sh → ∀ (D : Nat), d ≤ D → ∀ (cx cy : List AV) (us vs : Array Value) (u v : Value) (b : Bool),
    CellsV β h F w cx us → CellsV β h F w cy vs → OfCells P t us u → OfCells P t vs v → eqL sh cx cy = some b → (Op.equalIn D t u v).run P w = .ok b w := by
  intro d
  induction d with
  | zero => intro t sh hs; simp [shapeT] at hs
  | succ d ih =>
    intro t sh hs D hD cx cy us vs u v b hx hy hu hv he
    obtain ⟨D, rfl⟩ : ∃ k, D = k + 1 := ⟨D - 1, by omega⟩
    have hlen := eqL_len he
    unfold shapeT at hs
    split at hs
    · -- bool
      rename_i ht
      simp at hs; subst hs
      have ha : aggT P t = false := by simp [aggT, ht]
      have e1 := hu.2 ha; have e2 := hv.2 ha
      subst e1; subst e2
      match cx, cy, he with
      | [.bool x], [.bool y], he =>
        simp [eqL] at he
        have h1 := hx.val 0 _ _ rfl rfl
        have h2 := hy.val 0 _ _ rfl rfl
        cases h1; cases h2
        rw [run_equalIn_bool' w D t x y ht, he]
    · -- int
      rename_i k0 ht
      simp at hs; subst hs
      have ha : aggT P t = false := by simp [aggT, ht]
      have e1 := hu.2 ha; have e2 := hv.2 ha
      subst e1; subst e2
      match cx, cy, he with
      | [.int k x], [.int k' y], he =>
        simp [eqL] at he
        obtain ⟨rfl, he⟩ := he
        have h1 := hx.val 0 _ _ rfl rfl
        have h2 := hy.val 0 _ _ rfl rfl
        cases h1; cases h2
        rw [run_equalIn_int w D t k k0 x y ht, he]
    · -- string
      rename_i ht
      simp at hs; subst hs
      have ha : aggT P t = false := by simp [aggT, ht]
      have e1 := hu.2 ha; have e2 := hv.2 ha
      subst e1; subst e2
      match cx, cy, he with
      | [.str x], [.str y], he =>
        simp [eqL] at he
        have h1 := hx.val 0 _ _ rfl rfl
        have h2 := hy.val 0 _ _ rfl rfl
        cases h1; cases h2
        rw [run_equalIn_string w D t _ _ ht]
        simp [← he]
    · -- struct
      rename_i fs ht
      split at hs
      · simp at hs
      · rename_i hst
        have ha : aggT P t = true := by simp [aggT, ht]
        have e1 := hu.1 ha; have e2 := hv.1 ha
        subst e1; subst e2
        rw [run_equalIn_struct w D t us vs (by rw [fieldsOf_eq ht]; exact ht) (by simpa using hst), fieldsOf_eq ht]
        -- over the fields
        have key : ∀ (l : List Field) (acc sh : List Leaf), shapeFs P (shapeT P d) l acc = some sh → ∀ (b : Bool) (rest : List Leaf), sh = acc ++ rest → sh.length = cx.length → sh.length = cy.length →
            eqL rest (cx.drop acc.length) (cy.drop acc.length) = some b → (Op.eqFields D us vs l).run P w = .ok b w := by
          intro l
          induction l with
          | nil =>
            intro acc sh hs b rest hr _ _ he
            simp [shapeFs] at hs; subst hs
            have : rest = [] := by simpa using hr
            subst this
            have hl := eqL_len he
            have h1 : cx.drop acc.length = [] := List.length_eq_zero_iff.1 hl.1
            have h2 : cy.drop acc.length = [] := List.length_eq_zero_iff.1 hl.2
            rw [h1, h2] at he
            simp [eqL] at he; subst he
            simp [Op.eqFields]
          | cons fl l ihl =>
            intro acc sh hs b rest hr hcx hcy he
            unfold shapeFs at hs
            split at hs
            · simp at hs
            · rename_i hc
              simp only [not_or, ne_eq, Decidable.not_not] at hc
              obtain ⟨hname, hoff⟩ := hc
              split at hs
              · rename_i s hsf
                split at hs
                · rename_i hsz
                  -- the shape behind
                  obtain ⟨rest', hrest'⟩ : ∃ r, sh = (acc ++ s) ++ r := by
                    clear ihl he
                    have : ∀ (l : List Field) (acc sh : List Leaf), shapeFs P (shapeT P d) l acc = some sh → ∃ r, sh = acc ++ r := by
                      intro l
                      induction l with
                      | nil => intro acc sh hs; simp [shapeFs] at hs; exact ⟨[], by simp [hs]⟩
                      | cons fl l ihl =>
                        intro acc sh hs
                        unfold shapeFs at hs
                        split at hs
                        · simp at hs
                        · split at hs
                          · split at hs
                            · obtain ⟨r, hr⟩ := ihl _ _ hs
                              exact ⟨_, by rw [hr, List.append_assoc]⟩
                            · simp at hs
                          · simp at hs
                    exact this l _ _ hs
                  have hrr : rest = s ++ rest' := by
                    have : acc ++ rest = acc ++ (s ++ rest') := by rw [← hr, hrest', List.append_assoc]
                    exact List.append_cancel_left this
                  subst hrr
                  obtain ⟨b1, b2, hb1, hb2, rfl⟩ := eqL_split he
                  have htot : acc.length + s.length ≤ cx.length := by rw [← hcx, hr]; simp
                  have htot' : acc.length + s.length ≤ cy.length := by rw [← hcy, hr]; simp
                  have hone : aggT P fl.type = false → s.length = 1 := shapeT_scalar hsf
                  obtain ⟨pu, hpu, hpu1, hpu2⟩ := part_run hP hsz hx htot hone
                  obtain ⟨pv, hpv, hpv1, hpv2⟩ := part_run hP hsz hy htot' hone
                  have hE : (Op.equalIn D fl.type pu pv).run P w = .ok b1 w := by
                    refine ih fl.type s hsf D (by omega) _ _ (us.extract acc.length (acc.length + s.length)) (vs.extract acc.length (acc.length + s.length)) pu pv b1 (hx.extract _ _ htot) (hy.extract _ _ htot') ⟨hpu1, fun h0 => ?_⟩ ⟨hpv1, fun h0 => ?_⟩ hb1
                    · obtain ⟨c, hc1, hc2, _⟩ := hpu2 h0
                      rw [hone h0]
                      have hlt : acc.length < us.size := (Array.getElem?_eq_some_iff.1 hc2).1
                      apply Array.ext_getElem?
                      intro j
                      rw [Array.getElem?_extract]
                      cases j with
                      | zero => rw [if_pos (by omega)]; simpa using hc2
                      | succ j => rw [if_neg (by omega)]; simp
                    · obtain ⟨c, hc1, hc2, _⟩ := hpv2 h0
                      rw [hone h0]
                      have hlt : acc.length < vs.size := (Array.getElem?_eq_some_iff.1 hc2).1
                      apply Array.ext_getElem?
                      intro j
                      rw [Array.getElem?_extract]
                      cases j with
                      | zero => rw [if_pos (by omega)]; simpa using hc2
                      | succ j => rw [if_neg (by omega)]; simp
                  simp only [Op.eqFields, hname, ne_eq, not_false_eq_true, if_true, hoff, Sem.run_bind, hpu, hpv, Result.andThen_ok, hE]
                  cases b1
                  · simp
                  · simp only [Bool.not_true, Bool.false_eq_true, if_false, Bool.true_and]
                    refine ihl _ _ hs b2 rest' hrest' hcx hcy ?_
                    simpa [List.drop_drop, Nat.add_comm] using hb2
                · simp at hs
              · simp at hs
        have := key fs.toList [] sh hs b sh rfl hlen.1.symm hlen.2.symm (by simpa using he)
        exact this
    · -- array
      rename_i n e ht
      cases hse : shapeT P d e with
      | none => rw [hse] at hs; simp at hs
      | some s =>
        rw [hse] at hs; dsimp only at hs
        split at hs
        · rename_i hsz
          simp at hs; subst hs
          have ha : aggT P t = true := by simp [aggT, ht]
          have e1 := hu.1 ha; have e2 := hv.1 ha
          subst e1; subst e2
          obtain ⟨ie, hie, hies⟩ := szOf_underlying hsz
          rw [run_equalIn_array w D us vs ht hie]
          have hcells : P.cellsOf e = s.length := by simp [Program.cellsOf, hie, hies]
          rw [hcells]
          have hone : aggT P e = false → s.length = 1 := shapeT_scalar hse
          have htotal : (List.replicate n s).flatten.length = n * s.length := by simp
          have key : ∀ (m i : Nat), i + m = n → ∀ (b : Bool), eqL (List.replicate m s).flatten (cx.drop (i * s.length)) (cy.drop (i * s.length)) = some b →
              (Op.eqItems D e s.length us vs (List.range' i m)).run P w = .ok b w := by
            intro m
            induction m with
            | zero =>
              intro i _ b he
              have hl := eqL_len he
              have h1 : cx.drop (i * s.length) = [] := List.length_eq_zero_iff.1 hl.1
              have h2 : cy.drop (i * s.length) = [] := List.length_eq_zero_iff.1 hl.2
              rw [h1, h2] at he
              simp [eqL] at he; subst he
              simp [Op.eqItems]
            | succ m ihm =>
              intro i him b he
              rw [List.replicate_succ, List.flatten_cons] at he
              obtain ⟨b1, b2, hb1, hb2, rfl⟩ := eqL_split he
              have hbnd : i * s.length + s.length ≤ n * s.length := by rw [← Nat.succ_mul]; exact Nat.mul_le_mul_right _ (by omega)
              have htot : i * s.length + s.length ≤ cx.length := by rw [hlen.1, htotal]; exact hbnd
              have htot' : i * s.length + s.length ≤ cy.length := by rw [hlen.2, htotal]; exact hbnd
              obtain ⟨pu, hpu, hpu1, hpu2⟩ := part_run hP hsz hx htot hone
              obtain ⟨pv, hpv, hpv1, hpv2⟩ := part_run hP hsz hy htot' hone
              have hE : (Op.equalIn D e pu pv).run P w = .ok b1 w := by
                refine ih e s hse D (by omega) _ _ (us.extract (i * s.length) (i * s.length + s.length)) (vs.extract (i * s.length) (i * s.length + s.length)) pu pv b1 (hx.extract _ _ htot) (hy.extract _ _ htot') ⟨hpu1, fun h0 => ?_⟩ ⟨hpv1, fun h0 => ?_⟩ hb1
                · obtain ⟨c, hc1, hc2, _⟩ := hpu2 h0
                  have hlt := (Array.getElem?_eq_some_iff.1 hc2).1
                  have h1 := hone h0
                  apply Array.ext_getElem?
                  intro j
                  rw [Array.getElem?_extract]
                  cases j with
                  | zero => rw [if_pos (by omega)]; simpa using hc2
                  | succ j => rw [if_neg (by omega)]; simp
                · obtain ⟨c, hc1, hc2, _⟩ := hpv2 h0
                  have hlt := (Array.getElem?_eq_some_iff.1 hc2).1
                  have h1 := hone h0
                  apply Array.ext_getElem?
                  intro j
                  rw [Array.getElem?_extract]
                  cases j with
                  | zero => rw [if_pos (by omega)]; simpa using hc2
                  | succ j => rw [if_neg (by omega)]; simp
              simp only [List.range'_succ, Op.eqItems, Sem.run_bind, hpu, hpv, Result.andThen_ok, hE]
              cases b1
              · simp
              · simp only [Bool.not_true, Bool.false_eq_true, if_false, Bool.true_and]
                refine ihm (i + 1) (by omega) b2 ?_
                have : (i + 1) * s.length = i * s.length + s.length := Nat.succ_mul _ _
                rw [this]
                simpa [List.drop_drop, Nat.add_comm] using hb2
          have := key n 0 (by omega) b (by simpa using he)
          rw [List.range_eq_range']
          exact this
        · simp at hs
    · simp at hs
end
end Go.Eng

/- The engine, part D7: the operations that answer a value, each. -/
namespace Go.Eng
set_option linter.unusedSectionVars false
set_option linter.unusedSimpArgs false

section
variable {RP : RPred} {β : Beta} {h : Heap} {F : Frz} {w : World} {P : Program} {C : Cfg} {f : Nat}

theorem getD_bad {ρ : Opd → AV} {x : Option AOp} {p : String} {r : ORes} (ha : aop h ρ (x.getD (.bad p)) = some r) : ∃ c, x = some c ∧ aop h ρ c = some r := by
  cases x with
  | none => simp [aop] at ha
  | some c => exact ⟨c, rfl, ha⟩

/-- the operands' values, one by one -/
theorem opds_V (hG : GlobOK C β h F w) {tm : Tm} {a : Act} (hT : TmRel β h F w tm a.tmps) : ∀ {l : List Operand} {ys : List Opd}, opds C l = some ys →
    ys.length = l.length ∧ ∀ (j : Nat) (c : AV) (u : Value), (ys.map (evo tm))[j]? = some c → (l.map a.eval)[j]? = some u → V β h F w c u := by
  intro l
  induction l with
  | nil => intro ys e; simp [opds] at e; subst e; simp
  | cons x l ih =>
    intro ys e
    simp only [opds, List.mapM_cons, Option.bind_eq_bind, Option.bind_eq_some_iff, Option.pure_def, Option.some.injEq] at e
    obtain ⟨y, hy, ys', hys, rfl⟩ := e
    obtain ⟨h1, h2⟩ := ih hys
    refine ⟨by simp [h1], fun j c u hc hu => ?_⟩
    cases j with
    | zero => simp at hc hu; subst hc; subst hu; exact evo_V hG hT hy
    | succ j => exact h2 j c u (by simpa using hc) (by simpa using hu)

theorem optOV (hG : GlobOK C β h F w) {tm : Tm} {a : Act} (hT : TmRel β h F w tm a.tmps) {x : Option Operand} {y : Option Opd} (hx : (x.elim (some none) fun o => (opd C o).map some) = some y) :
    OV β h F w (y.map (evo tm)) (x.map a.eval) := by
  cases x with
  | none => simp at hx; subst hx; exact .none
  | some o =>
    simp only [Option.elim, Option.map_eq_some_iff] at hx
    obtain ⟨y', hy', rfl⟩ := hx
    exact .some _ _ (evo_V hG hT hy')

theorem V.ptr_some {n ver i o : Nat} {u : Value} (hv : V β h F w (.ptr n ver i o) u) : ∃ a, u = .pointer (some a) := by
  cases hv <;> exact ⟨_, rfl⟩
theorem V.cref_some {cs : List AV} {u : Value} (hv : V β h F w (.cref cs) u) : ∃ a, u = .pointer (some a) := by
  cases hv; exact ⟨_, rfl⟩
theorem V.nilp_eq {u : Value} (hv : V β h F w .nilp u) : u = .pointer none := by cases hv; rfl
theorem V.nilm_eq {u : Value} (hv : V β h F w .nilm u) : u = .map none := by cases hv; rfl
theorem V.nilf_eq {u : Value} (hv : V β h F w .nilf u) : u = .nilFunc := by cases hv; rfl
theorem V.mapr_some {n : Nat} {u : Value} (hv : V β h F w (.mapr n) u) : ∃ b, u = .map (some b) := by
  cases hv <;> exact ⟨_, rfl⟩
theorem V.clo_eq {f : Nat} {cs : List AV} {u : Value} (hv : V β h F w (.clo f cs) u) : ∃ us, u = .func (.func f) #[] us := by
  cases hv; exact ⟨_, rfl⟩

/-- the two values of a comparison with nil -/
theorem eqN_vals {k : Nat} {x y : AV} {b : Bool} (he : eqN k x y = some b) {ux uy : Value} (hx : V β h F w x ux) (hy : V β h F w y uy) :
    (k = 0 ∧ ∃ p q : Option Addr, ux = .pointer p ∧ uy = .pointer q ∧ (p = none ∨ q = none) ∧ b = (p.isNone && q.isNone)) ∨
    (k = 1 ∧ ∃ p q : Option Nat, ux = .map p ∧ uy = .map q ∧ (p = none ∨ q = none) ∧ b = (p.isNone && q.isNone)) ∨
    (k = 2 ∧ ((ux = .nilFunc ∧ uy = .nilFunc ∧ b = true) ∨ (ux = .nilFunc ∧ (∃ g u, uy = .func (.func g) #[] u) ∧ b = false) ∨ ((∃ g u, ux = .func (.func g) #[] u) ∧ uy = .nilFunc ∧ b = false))) := by
  unfold eqN at he
  split at he <;> simp at he <;> subst he
  · exact .inl ⟨rfl, none, none, hx.nilp_eq, hy.nilp_eq, by simp, by simp⟩
  · exact .inr (.inl ⟨rfl, none, none, hx.nilm_eq, hy.nilm_eq, by simp, by simp⟩)
  · exact .inr (.inr ⟨rfl, .inl ⟨hx.nilf_eq, hy.nilf_eq, rfl⟩⟩)
  · obtain ⟨a, ha⟩ := hy.ptr_some; exact .inl ⟨rfl, none, some a, hx.nilp_eq, ha, by simp, by simp⟩
  · obtain ⟨a, ha⟩ := hy.cref_some; exact .inl ⟨rfl, none, some a, hx.nilp_eq, ha, by simp, by simp⟩
  · obtain ⟨a, ha⟩ := hx.ptr_some; exact .inl ⟨rfl, some a, none, ha, hy.nilp_eq, by simp, by simp⟩
  · obtain ⟨a, ha⟩ := hx.cref_some; exact .inl ⟨rfl, some a, none, ha, hy.nilp_eq, by simp, by simp⟩
  · obtain ⟨u, hu⟩ := hy.clo_eq; exact .inr (.inr ⟨rfl, .inr (.inl ⟨hx.nilf_eq, ⟨_, u, hu⟩, rfl⟩)⟩)
  · obtain ⟨u, hu⟩ := hx.clo_eq; exact .inr (.inr ⟨rfl, .inr (.inr ⟨⟨_, u, hu⟩, hy.nilf_eq, rfl⟩)⟩)
  · obtain ⟨a, ha⟩ := hy.mapr_some; exact .inr (.inl ⟨rfl, none, some a, hx.nilm_eq, ha, by simp, by simp⟩)
  · obtain ⟨a, ha⟩ := hx.mapr_some; exact .inr (.inl ⟨rfl, some a, none, ha, hy.nilm_eq, by simp, by simp⟩)

/-- '==' by the type -/
theorem binOp_equal {t : TypeId} {ux uy : Value} (D : Nat) (hD : Op.maxDepth = D + 1) {b : Bool} (h : (Op.equalIn (D + 1) t ux uy).run P w = .ok b w) (neg : Bool)
    (hu : ∀ op, op = .eql ∨ op = .neq → binOp op t ux uy = (if op = .neq then (do pure (.bool (!(← Op.equal t ux uy)))) else (do pure (.bool (← Op.equal t ux uy))))) :
    (binOp (if neg then .neq else .eql) t ux uy).run P w = .ok (.bool (if neg then !b else b)) w := by
  rw [hu _ (by cases neg <;> simp)]
  cases neg <;> simp [Op.equal, hD, h]

theorem eqN_sound {k : Nat} {t : TypeId} (hk : nilK P t = some k) {x y : AV} {b : Bool} (he : eqN k x y = some b) {ux uy : Value} (hx : V β h F w x ux) (hy : V β h F w y uy) (neg : Bool) (ox oy : Operand) :
    (do eqGuard (if neg then .neq else .eql) t ox oy ux uy; binOp (if neg then .neq else .eql) t ux uy).run P w = .ok (.bool (if neg then !b else b)) w := by
  rcases eqN_vals he hx hy with ⟨rfl, p, q, rfl, rfl, hpq, rfl⟩ | ⟨rfl, p, q, rfl, rfl, hpq, rfl⟩ | ⟨rfl, h0⟩
  · have hg : eqGuard (if neg then .neq else .eql) t ox oy (.pointer p) (.pointer q) = pure () := by cases neg <;> rfl
    rw [hg, pure_bind]
    obtain ⟨e, ht⟩ : ∃ e, P.underlying t = some (.pointer e) := by
      unfold nilK at hk; split at hk <;> simp at hk
      exact ⟨_, by assumption⟩
    refine binOp_equal 9999 rfl ?_ neg (fun op hop => by rcases hop with rfl | rfl <;> rfl)
    unfold Op.equalIn
    simp only [Sem.run_bind, run_underlying ht, Result.andThen_ok]
    cases p <;> cases q <;> simp at hpq ⊢
  · have hg : eqGuard (if neg then .neq else .eql) t ox oy (.map p) (.map q) = pure () := by cases neg <;> rfl
    rw [hg, pure_bind]
    obtain ⟨e, e', ht⟩ : ∃ e e', P.underlying t = some (.map e e') := by
      unfold nilK at hk; split at hk <;> simp at hk
      exact ⟨_, _, by assumption⟩
    refine binOp_equal 9999 rfl ?_ neg (fun op hop => by rcases hop with rfl | rfl <;> rfl)
    unfold Op.equalIn
    simp only [Sem.run_bind, run_underlying ht, Result.andThen_ok]
    cases p <;> cases q <;> simp at hpq ⊢
  · obtain ⟨a, b', c, ht⟩ : ∃ a b' c, P.underlying t = some (.func a b' c) := by
      unfold nilK at hk; split at hk <;> simp at hk
      exact ⟨_, _, _, by assumption⟩
    rcases h0 with ⟨rfl, rfl, rfl⟩ | ⟨rfl, ⟨g, u, rfl⟩, rfl⟩ | ⟨⟨g, u, rfl⟩, rfl, rfl⟩
    all_goals
      have hg : ∀ v1 v2, (v1 = .nilFunc ∨ ∃ g u, v1 = .func (.func g) #[] u) → eqGuard (if neg then .neq else .eql) t ox oy v1 v2 = pure () := by
        rintro v1 v2 (rfl | ⟨g, u, rfl⟩) <;> cases neg <;> rfl
      rw [hg _ _ (by first | exact .inl rfl | exact .inr ⟨_, _, rfl⟩), pure_bind]
      refine binOp_equal 9999 rfl ?_ neg (fun op hop => by rcases hop with rfl | rfl <;> rfl)
      unfold Op.equalIn
      simp only [Sem.run_bind, run_underlying ht, Result.andThen_ok, Sem.run_pure]
end
end Go.Eng

/- The engine, part D8: '==' of plain values; what is built, taken out, measured. -/
namespace Go.Eng
set_option linter.unusedSectionVars false
set_option linter.unusedSimpArgs false

section
variable {RP : RPred} {β : Beta} {h : Heap} {F : Frz} {w : World} {P : Program} {C : Cfg} {f : Nat}

theorem V.cells {c : AV} {u : Value} (hv : V β h F w c u) : CellsV β h F w c.cells u.cells := ⟨(cells_V hv).1, (cells_V hv).2⟩

theorem V.isAgg {c : AV} {u : Value} (hv : V β h F w c u) : c.isAgg = true ↔ ∃ us, u = .agg us := by
  constructor
  · intro ha
    cases c <;> simp [AV.isAgg] at ha
    obtain ⟨us, rfl, _⟩ := hv.agg_inv
    exact ⟨us, rfl⟩
  · rintro ⟨us, rfl⟩
    cases hv; rfl

theorem V.ofCells {t : TypeId} {c : AV} {u : Value} (hv : V β h F w c u) (ha : c.isAgg = aggT P t) : OfCells P t u.cells u := by
  refine ⟨fun h1 => ?_, fun h1 => ?_⟩
  · obtain ⟨us, rfl⟩ := hv.isAgg.1 (ha.trans h1)
    rfl
  · rw [h1] at ha
    cases hv <;> simp [AV.isAgg] at ha <;> rfl

/-- '==' inside the model, of two plain values -/
theorem equal_plain (hP : TypesOK P) {t : TypeId} {sh : List Leaf} (hs : plainT P t = some sh) {x y : AV} {b : Bool} (he : eqT (aggT P t) sh x y = some b) {ux uy : Value} (hx : V β h F w x ux) (hy : V β h F w y uy) :
    ∀ D, 20 ≤ D → (Op.equalIn D t ux uy).run P w = .ok b w := by
  intro D hD
  unfold plainT at hs
  split at hs
  · simp at hs
  · unfold eqT at he
    split at he
    · rename_i hag
      exact equalIn_shape hP 20 t sh hs D hD _ _ _ _ _ _ _ hx.cells hy.cells (hx.ofCells hag.1) (hy.ofCells hag.2) he
    · simp at he

theorem eqT_sound (hP : TypesOK P) {t : TypeId} {sh : List Leaf} (hs : plainT P t = some sh) {x y : AV} {b : Bool} (he : eqT (aggT P t) sh x y = some b) {ux uy : Value} (hx : V β h F w x ux) (hy : V β h F w y uy) (neg : Bool) (ox oy : Operand) :
    (do eqGuard (if neg then .neq else .eql) t ox oy ux uy; binOp (if neg then .neq else .eql) t ux uy).run P w = .ok (.bool (if neg then !b else b)) w := by
  have hE := equal_plain hP hs he hx hy
  have hs0 := hs
  unfold plainT at hs
  split at hs
  · simp at hs
  · rename_i hgt
    unfold eqT at he
    split at he
    · rename_i hag
      cases hagg : aggT P t with
      | true =>
        obtain ⟨us, rfl⟩ := hx.isAgg.1 (hag.1.trans hagg)
        obtain ⟨vs, rfl⟩ := hy.isAgg.1 (hag.2.trans hagg)
        have hg := run_eqGuard_agg (P := P) w (if neg then .neq else .eql) t ox oy us vs (by simpa using hgt)
        simp only [Sem.run_bind, hg, Result.andThen_ok]
        exact binOp_equal 9999 rfl (hE 10000 (by omega)) neg (fun op hop => by rcases hop with rfl | rfl <;> rfl)
      | false =>
        have h1 := shapeT_scalar hs hagg
        match sh, h1, he, hs with
        | [l], _, he, hs =>
          obtain ⟨x0, xs', y0, ys', b0, b1, hxc, hyc, hr, rfl, hall⟩ := eqL_cons he
          obtain ⟨rfl, rfl, rfl⟩ := eqL_nil hr
          have hxx : x = x0 := by
            cases x <;> simp [AV.cells] at hxc <;> first | exact hxc | (simp [AV.isAgg, hagg] at hag)
          have hyy : y = y0 := by
            cases y <;> simp [AV.cells] at hyc <;> first | exact hyc | (simp [AV.isAgg, hagg] at hag)
          subst hxx; subst hyy
          rw [hxc, hyc] at he
          cases l with
          | b =>
            cases x <;> cases y <;> simp [eqL] at he
            cases hx; cases hy
            have hg : ∀ b' v, eqGuard (if neg then .neq else .eql) t ox oy (.bool b') v = pure () := by intro b' v; cases neg <;> rfl
            rw [hg, pure_bind]
            exact binOp_equal 9999 rfl (hE 10000 (by omega)) neg (fun op hop => by rcases hop with rfl | rfl <;> rfl)
          | i =>
            cases x <;> cases y <;> simp [eqL] at he
            obtain ⟨rfl, he2⟩ := he
            cases hx; cases hy
            have hg : ∀ k n v, eqGuard (if neg then .neq else .eql) t ox oy (.int k n) v = pure () := by intro k n v; cases neg <;> rfl
            rw [hg, pure_bind]
            rw [← he2]
            cases neg <;> simp [binOp, Op.intCmp, bne]
          | s =>
            cases x <;> cases y <;> simp [eqL] at he
            cases hx; cases hy
            have hg : ∀ s v, eqGuard (if neg then .neq else .eql) t ox oy (.string s) v = pure () := by intro s v; cases neg <;> rfl
            rw [hg, pure_bind]
            rw [← he]
            cases neg <;> simp [binOp, Op.stringOp]
    · simp at he

theorem extract_sound {x r : AV} {u : Value} (hx : V β h F w x u) {i : Nat} (hr : extractA i x = some r) : ∃ ru, (Instr.extract u i).run P w = .ok ru w ∧ V β h F w r ru := by
  unfold extractA at hr
  cases hx with
  | tup cs us hl hv =>
    dsimp only at hr
    have hi : i < us.size := by rw [← hl]; exact (List.getElem?_eq_some_iff.1 hr).1
    exact ⟨us[i], by simp [Instr.extract, hi], hv i r _ hr (Array.getElem?_eq_getElem hi)⟩
  | _ => simp at hr

theorem V.of_cells_agg {cs : List AV} {us : Array Value} (hc : CellsV β h F w cs us) : V β h F w (.agg cs) (.agg us) := .agg _ _ hc.len hc.val

/-- a part of an aggregate -/
theorem part_sound (hP : TypesOK P) {t : TypeId} {n : Nat} (hs : szOf P t = some n) {cs : List AV} {us : Array Value} (hc : CellsV β h F w cs us) {a : Nat} (hn : a + n ≤ cs.length) {r : AV}
    (hr : mkv (aggT P t) ((cs.drop a).take n) = some r) : ∃ u, (part t us a).run P w = .ok u w ∧ V β h F w r u := by
  unfold mkv at hr
  cases ha : aggT P t with
  | true =>
    rw [ha] at hr; simp at hr; subst hr
    exact ⟨_, by simp [part, aggT_run hP hs, ha, szOf_run hs], V.of_cells_agg (hc.extract a n hn)⟩
  | false =>
    rw [ha] at hr; simp only [Bool.false_eq_true, if_false] at hr
    split at hr
    · rename_i c hcc
      simp at hr; subst hr
      have h0 : cs[a]? = some c := by
        have := congrArg (fun l => l[0]?) hcc
        simp only [List.getElem?_take, List.getElem?_drop, Nat.add_zero] at this
        split at this
        · simpa using this
        · simp at this
      have hlt : a < us.size := by have := (List.getElem?_eq_some_iff.1 h0).1; have := hc.len; omega
      exact ⟨us[a], by simp [part, aggT_run hP hs, ha, Array.getElem?_eq_getElem hlt], hc.val a _ _ h0 (Array.getElem?_eq_getElem hlt)⟩
    · simp at hr

theorem field_sound (hP : TypesOK P) {t : TypeId} {fs : Array Field} {i : Nat} {fl : Field} {n : Nat} (ht : P.underlying t = some (.struct fs)) (hf : fs[i]? = some fl) (hs : szOf P fl.type = some n) {x r : AV} {u : Value} (hx : V β h F w x u)
    (hr : fieldA fl.offset n (aggT P fl.type) x = some r) :
    ∃ ru, (Instr.field t u i).run P w = .ok ru w ∧ V β h F w r ru := by
  unfold fieldA at hr
  cases hx with
  | agg cs us hl hv =>
    dsimp only at hr
    split at hr
    · rename_i hle
      obtain ⟨ru, h1, h2⟩ := part_sound hP hs ⟨hl, hv⟩ hle hr
      exact ⟨ru, by simp [Instr.field, run_underlying ht, hf, asAgg, h1], h2⟩
    · simp at hr
  | _ => simp at hr

theorem indexS_sound {t : TypeId} (ht : P.underlying t = some .string) {x r : AV} {u : Value} (hx : V β h F w x u) {k : IntKind} {j : Int}
    (hr : indexSA j x = some r) : ∃ ru, (Instr.index t u (.int k j)).run P w = .ok ru w ∧ V β h F w r ru := by
  unfold indexSA at hr
  cases hx with
  | str s =>
    dsimp only at hr
    split at hr
    · rename_i h0
      simp only [Option.map_eq_some_iff] at hr
      obtain ⟨b, hb, rfl⟩ := hr
      have hlt := (List.getElem?_eq_some_iff.1 hb).1
      have : (⟨s.toArray⟩ : ByteArray)[j.toNat]? = some b := by
        rw [ByteArray.getElem?_lt' _ _ (by simpa [ByteArray.size] using hlt)]
        have := (List.getElem?_eq_some_iff.1 hb).2
        simp [ByteArray.getElem_eq_getElem_data, this]
      exact ⟨_, by simp [Instr.index, asIntOf, run_underlying ht, h0, this], .int _ _⟩
    · simp at hr
  | _ => simp at hr

theorem indexA_sound (hP : TypesOK P) {t e : TypeId} {len n : Nat} (ht : P.underlying t = some (.array len e)) (hs : szOf P e = some n) {x r : AV} {u : Value} (hx : V β h F w x u) {k : IntKind} {j : Int}
    (hr : indexAA len n (aggT P e) j x = some r) :
    ∃ ru, (Instr.index t u (.int k j)).run P w = .ok ru w ∧ V β h F w r ru := by
  unfold indexAA at hr
  cases hx with
  | agg cs us hl hv =>
    dsimp only at hr
    split at hr
    · rename_i hj
      obtain ⟨ru, h1, h2⟩ := part_sound hP hs ⟨hl, hv⟩ hj.2.2 hr
      exact ⟨ru, by simp [Instr.index, asIntOf, run_underlying ht, hj.1, hj.2.1, szOf_run hs, h1], h2⟩
    · simp at hr
  | _ => simp at hr

theorem lenS_sound {t ty : TypeId} (ht : P.underlying t = some .string) {x : AV} {u : Value} (hx : V β h F w x u) {n : Nat} (hn : lenSA x = some n) :
    (Builtin.len_ #[t] ty #[u]).run P w = .ok (.int .i64 n) w := by
  unfold lenSA at hn
  cases hx with
  | str s =>
    simp at hn; subst hn
    rw [run_len_string w t ty _ ht]; simp [goInt, ByteArray.size]
  | _ => simp at hn

theorem V.slice_len {x : AV} {u : Value} (hx : V β h F w x u) {n : Nat} (hn : lenLA x = some n) : ∃ a c, u = .slice a n c := by
  unfold lenLA at hn
  cases hx <;> simp at hn <;> subst hn <;> exact ⟨_, _, rfl⟩

theorem lenL_sound {t e ty : TypeId} (ht : P.underlying t = some (.slice e)) {x : AV} {u : Value} (hx : V β h F w x u) {n : Nat} (hn : lenLA x = some n) :
    (Builtin.len_ #[t] ty #[u]).run P w = .ok (.int .i64 n) w := by
  obtain ⟨a, c, rfl⟩ := hx.slice_len hn
  simp [Builtin.len_, run_underlying ht, goInt]

theorem minmax_run (mx : Bool) (k : IntKind) : ∀ (l : List AV) (us : List Value) (a r : Int), (∀ (j : Nat) (c : AV) (u : Value), l[j]? = some c → us[j]? = some u → V β h F w c u) → l.length = us.length →
    l.foldlM (fun (acc : Int) v => match v with | AV.int _ b => some (if mx then (if b > acc then b else acc) else (if b < acc then b else acc)) | _ => none) a = some r →
    (us.foldlM (if mx then Builtin.max2 else Builtin.min2) (.int k a)).run P w = .ok (.int k r) w
  | [], us, a, r, _, hl, hr => by
    have : us = [] := List.length_eq_zero_iff.1 hl.symm
    subst this
    simp at hr; subst hr
    simp
  | v :: l, us, a, r, hv, hl, hr => by
    cases us with
    | nil => simp at hl
    | cons u us =>
      cases v <;> simp at hr
      rename_i k' b
      have h0 := hv 0 _ _ rfl rfl
      cases h0
      have ih := minmax_run mx k l us _ r (fun j c u hc hu => hv (j + 1) c u (by simpa using hc) (by simpa using hu)) (by simpa using hl) hr
      cases mx
      · simp only [Bool.false_eq_true, if_false, List.foldlM_cons, Sem.run_bind, Builtin.min2, Sem.run_pure, Result.andThen_ok] at ih ⊢
        exact ih
      · simp only [if_true, List.foldlM_cons, Sem.run_bind, Builtin.max2, Sem.run_pure, Result.andThen_ok] at ih ⊢
        exact ih
end
end Go.Eng

/- The engine, part D9: composites, and the theorem on operations that answer a value and turn nothing. -/
namespace Go.Eng
set_option linter.unusedSectionVars false
set_option linter.unusedSimpArgs false

section
variable {RP : RPred} {β : Beta} {h : Heap} {F : Frz} {w : World} {P : Program} {C : Cfg} {f : Nat}

theorem splice_get {cs vs : List AV} {o : Nat} (hle : o + vs.length ≤ cs.length) (k : Nat) : (splice cs o vs)[k]? = if o ≤ k ∧ k < o + vs.length then vs[k - o]? else cs[k]? := by
  unfold splice
  have ht : (cs.take o).length = o := by simp; omega
  by_cases h1 : k < o
  · rw [if_neg (by omega), List.append_assoc, List.getElem?_append_left (by omega), List.getElem?_take, if_pos h1]
  · by_cases h2 : k < o + vs.length
    · rw [if_pos (by omega), List.append_assoc, List.getElem?_append_right (by omega), ht, List.getElem?_append_left (by omega)]
    · rw [if_neg (by omega), List.getElem?_append_right (by simp; omega), List.getElem?_drop]
      congr 1
      simp; omega

theorem splice_length {cs vs : List AV} {o : Nat} (hle : o + vs.length ≤ cs.length) : (splice cs o vs).length = cs.length := by
  unfold splice
  simp; omega

theorem foldl_cells (off : Nat) (v cells : Array Value) :
    (v.zipIdx.foldl (fun cs (x : Value × Nat) => cs.setIfInBounds (off + x.2) x.1) cells).size = cells.size ∧
    ∀ k, (v.zipIdx.foldl (fun cs (x : Value × Nat) => cs.setIfInBounds (off + x.2) x.1) cells)[k]? = if off ≤ k ∧ k < off + v.size ∧ k < cells.size then v[k - off]? else cells[k]? := by
  have := Great.foldl_set off v.toList 0 cells
  rw [← Array.foldl_toList]
  simpa using this

inductive PartsV (β : Beta) (h : Heap) (F : Frz) (w : World) (place : Nat → Option (Nat × Nat)) : List (Nat × Value) → List (Nat × Nat × AV) → Prop
  | nil : PartsV β h F w place [] []
  | cons (i : Nat) (v : Value) (off s : Nat) (c : AV) (l : List (Nat × Value)) (l' : List (Nat × Nat × AV)) (hp : place i = some (off, s)) (hv : V β h F w c v) (ht : PartsV β h F w place l l') :
      PartsV β h F w place ((i, v) :: l) ((off, s, c) :: l')

theorem fill_sound {place : Nat → Option (Nat × Nat)} {l : List (Nat × Value)} {l' : List (Nat × Nat × AV)} (hp : PartsV β h F w place l l') : ∀ {cs cs' : List AV} {us : Array Value}, CellsV β h F w cs us →
    fillA cs l' = some cs' → ∃ us', Instr.fill place us l = some us' ∧ CellsV β h F w cs' us' := by
  induction hp with
  | nil => intro cs cs' us hc hf; simp [fillA] at hf; subst hf; exact ⟨us, rfl, hc⟩
  | cons i v off s c l l' hp hv ht ih =>
    intro cs cs' us hc hf
    unfold fillA at hf
    split at hf
    · simp at hf
    · rename_i hcond
      simp only [not_or, ne_eq, Decidable.not_not, gt_iff_lt, Nat.not_lt] at hcond
      have hcv := hv.cells
      have hsz : v.cells.size = s := by rw [← hcv.len]; exact hcond.1
      obtain ⟨g1, g2⟩ := foldl_cells off v.cells us
      have hnew : CellsV β h F w (splice cs off c.cells) (v.cells.zipIdx.foldl (fun cs (x : Value × Nat) => cs.setIfInBounds (off + x.2) x.1) us) := by
        have hle : off + c.cells.length ≤ cs.length := by rw [hcond.1]; exact hcond.2
        refine ⟨by rw [splice_length hle, g1, hc.len], fun j x u hx hu => ?_⟩
        rw [splice_get hle] at hx
        rw [g2] at hu
        have hlt : j < us.size := by
          have h0 := (Array.getElem?_eq_some_iff.1 (show us[j]? = some (us[j]'?_) from Array.getElem?_eq_getElem _))
          · exact h0.1
          · by_cases hj : off ≤ j ∧ j < off + c.cells.length
            · rw [← hc.len]; omega
            · rw [if_neg hj] at hx
              rw [← hc.len]; exact (List.getElem?_eq_some_iff.1 hx).1
        by_cases hj : off ≤ j ∧ j < off + c.cells.length
        · rw [if_pos hj] at hx
          rw [if_pos ⟨hj.1, by rw [← hcv.len]; exact hj.2, hlt⟩] at hu
          exact hcv.val _ x u hx hu
        · rw [if_neg hj] at hx
          rw [if_neg (by rw [← hcv.len]; omega)] at hu
          exact hc.val _ x u hx hu
      obtain ⟨us', h1, h2⟩ := ih hnew hf
      refine ⟨us', ?_, h2⟩
      unfold Instr.fill
      simp only [hp]
      rw [if_neg (by have := hc.len; simp; omega)]
      exact h1
end
end Go.Eng

