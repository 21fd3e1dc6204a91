import Derived.Test.YtghmlonankhcgaaGreatDoorEngD
import Derived.Laws.BytesString
import Derived.Laws.BytesArg
import Derived.Laws.Tables
/- The engine, part E1: an operation that answers a value and turns nothing, as the model carries it out. -/
namespace Go.Eng
set_option linter.unusedSectionVars false
set_option linter.unusedSimpArgs false

section
variable {RP : RPred} {β : Beta} {h : Heap} {F : Frz} {w : World} {P : Program} {C : Cfg} {f : Nat}

/-- what a run's frame and world are told to be -/
structure St (RP : RPred) (C : Cfg) (β : Beta) (h : Heap) (F : Frz) (w : World) (tm : Tm) (a : Act) : Prop where
  rel : Rel RP β F h w
  glob : GlobOK C β h F w
  tms : TmRel β h F w tm a.tmps

theorem mapM_bytes : ∀ {xs : List AV} {bs : List UInt8}, (xs.mapM fun | AV.int .u8 n => some (UInt8.ofNat n.toNat) | _ => none) = some bs →
    ∃ ns : List Int, xs = ns.map (AV.int .u8) ∧ bs = ns.map fun n => UInt8.ofNat n.toNat := by
  intro xs
  induction xs with
  | nil => intro bs h; simp at h; subst h; exact ⟨[], rfl, rfl⟩
  | cons x xs ih =>
    intro bs hm
    simp only [List.mapM_cons, Option.bind_eq_bind, Option.bind_eq_some_iff, Option.pure_def, Option.some.injEq] at hm
    obtain ⟨b, hb, s', hs', rfl⟩ := hm
    obtain ⟨ns, rfl, rfl⟩ := ih hs'
    have hx : ∃ n, x = .int .u8 n ∧ b = UInt8.ofNat n.toNat := by
      cases x with
      | int k n =>
        cases k <;> simp at hb
        exact ⟨n, rfl, hb.symm⟩
      | _ => simp at hb
    obtain ⟨n, rfl, rfl⟩ := hx
    exact ⟨n :: ns, rfl, rfl⟩

theorem b2s_run (w : World) {ns : List Int} {us : Array Value} (hc : CellsV β h F w (ns.map (AV.int .u8)) us) {ad : Addr} {len c : Nat} (hl : (loadCells ad len).run P w = .ok us w) :
    (Conv.bytesToString (.slice (some ad) len c)).run P w = .ok (.string ⟨(ns.map fun n => UInt8.ofNat n.toNat).toArray⟩) w := by
  have hus : us = (ns.map (Value.int .u8)).toArray := by
    apply Array.ext
    · simpa using hc.len.symm
    · intro j h1 h2
      have hj : j < ns.length := by simpa using h2
      have := hc.val j (.int .u8 ns[j]) us[j] (by simp [hj]) (Array.getElem?_eq_getElem h1)
      simp only [List.getElem_toArray, List.getElem_map]
      generalize us[j] = u at this
      cases this; rfl
  subst hus
  rw [run_bytesToString w ad len c ns hl, foldl_push_bytes]
  congr 2
  apply ByteArray.ext
  simp [ByteArray.empty, ByteArray.emptyWithCapacity]
  rfl

/-- the cells of a slice, as they are loaded -/
theorem elems_load (hR : Rel RP β F h w) {sz : Nat} {x : AV} {xs : List AV} (he : elems h sz x = some xs) {u : Value} (hx : V β h F w x u) :
    (∀ y ∈ xs, y.cells.length = sz) ∧ ∃ a c, u = .slice a xs.length c ∧ ∀ n, n ≤ xs.length → ∃ us : Array Value, CellsV β h F w (flatC (xs.take n)) us ∧ (n = 0 ∨ ∃ ad, a = some ad ∧ (loadCells ad (n * sz)).run P w = .ok us w) ∧
      (∀ ad, a = some ad → (loadCells ad (n * sz)).run P w = .ok us w) := by
  unfold elems at he
  split at he
  · -- nil
    simp at he; subst he
    cases hx with
    | nils a0 =>
      refine ⟨by simp, a0, 0, rfl, fun n hn => ⟨#[], by simp at hn; subst hn; exact ⟨rfl, by simp [flatC]⟩, .inl (by simpa using hn), fun ad _ => ?_⟩⟩
      simp at hn; subst hn
      simp [loadCells, loadCellsFrom]
  · -- frozen
    rename_i xs0
    split at he
    · rename_i hall
      simp at he; subst he
      have hz : ∀ y ∈ xs0, y.cells.length = sz := fun y hy => by simpa using (List.all_eq_true.1 hall y hy)
      obtain ⟨⟨a, cap, rfl, hcap⟩, hat⟩ := hx.lst_at
      refine ⟨hz, a, cap, rfl, fun n hn => ?_⟩
      by_cases hn0 : n = 0
      · subst hn0
        refine ⟨#[], ⟨rfl, by simp [flatC]⟩, .inl rfl, fun ad _ => by simp [loadCells, loadCellsFrom]⟩
      · have hlt : 0 < xs0.length := by omega
        obtain ⟨ad, cap', sz', hAe, hc', hsp, hxl, hz', us, hus⟩ := hat 0 _ (List.getElem?_eq_getElem hlt)
        simp at hAe
        obtain ⟨rfl, rfl⟩ := hAe
        have hzt : ∀ y ∈ xs0.take n, y.cells.length = sz := fun y hy => hz y (List.mem_of_mem_take hy)
        have hflen : (flatC (xs0.take n)).length = n * sz := by rw [flatC_length hzt, List.length_take, Nat.min_eq_left hn]
        have hld : (loadCells ad (n * sz)).run P w = .ok ((List.range (n * sz)).map us).toArray w :=
          run_loadCells w ad (n * sz) us fun j hj => by
            have := hus j _ (flatC_take_get n (List.getElem?_eq_getElem (by rw [hflen]; exact hj)))
            rw [add_none hsp]; exact this.1
        refine ⟨_, ⟨by simp [hflen], fun j c u hc hu => ?_⟩, .inr ⟨ad, rfl, hld⟩, fun ad' he' => by simp at he'; subst he'; exact hld⟩
        have hj : j < n * sz := by rw [← hflen]; exact (List.getElem?_eq_some_iff.1 hc).1
        simp [hj] at hu
        subst hu
        exact (hus j c (flatC_take_get n hc)).2.2
    · simp at he
  · -- live
    rename_i n0 ver s i o len cap
    split at he
    · simp at he
    · rename_i hs
      have hs : s = sz := by simpa using hs
      subst hs
      cases hl : look h n0 ver with
      | none => rw [hl] at he; simp at he
      | some q =>
        obtain ⟨e, g, es⟩ := q
        rw [hl] at he; dsimp only at he
        have hh := look_eq hl
        -- the address
        have haddr : ∃ b a c, u = .slice a len c ∧ β n0 = some b ∧ (len ≠ 0 → a = some ⟨b, i * e + o, none⟩) := by
          cases hx with
          | slcX n ver sz i o len c b e' g' es' hb hh' hlc hf =>
            rw [hh] at hh'; simp at hh'; obtain ⟨rfl, rfl, rfl⟩ := hh'
            exact ⟨b, _, c, rfl, hb, fun _ => rfl⟩
          | slcG n ver sz i len c b a es' us el fr hb hh' hlc hw hf hk0 ha =>
            rw [hh] at hh'; simp at hh'; obtain ⟨rfl, rfl, rfl⟩ := hh'
            exact ⟨b, a, c, rfl, hb, fun h0 => by simpa using ha (.inl (by omega))⟩
          | slcS n ver sz i o len cap a c hs => exact absurd hs (not_stale hh)
        obtain ⟨b, a, c, rfl, hb, ha⟩ := haddr
        obtain ⟨us, el, fr, hw, _, _, hC⟩ := hR.cells hb hh
        split at he
        · rename_i hes
          split at he
          · rename_i hio
            simp at he; subst he
            subst hes
            obtain ⟨rfl, hle⟩ := hio
            have hlen : ((es.drop i).take len).length = len := by simp; omega
            have hz : ∀ y ∈ (es.drop i).take len, y.cells.length = e := fun y hy => hC.elt y (List.mem_of_mem_drop (List.mem_of_mem_take hy))
            refine ⟨hz, a, c, by rw [hlen], fun n hn => ?_⟩
            rw [hlen] at hn
            by_cases hn0 : n = 0
            · subst hn0
              refine ⟨#[], ⟨rfl, by simp [flatC]⟩, .inl rfl, fun ad _ => by simp [loadCells, loadCellsFrom]⟩
            · have hae : a = some ⟨b, i * e, none⟩ := by simpa using ha (by omega)
              have hzt : ∀ y ∈ ((es.drop i).take len).take n, y.cells.length = e := fun y hy => hz y (List.mem_of_mem_take hy)
              have hflen : (flatC (((es.drop i).take len).take n)).length = n * e := by rw [flatC_length hzt, List.length_take, hlen, Nat.min_eq_left hn]
              have hcell : ∀ (j : Nat) (c : AV), (flatC (((es.drop i).take len).take n))[j]? = some c → ∃ u, w.cell? ⟨b, i * e + j, none⟩ = some u ∧ V β h F w c u := fun j c hj => by
                have h1 := flatC_take_get n hj
                have h2 := flatC_take_get len h1
                rw [flatC_drop_take hC.elt, List.getElem?_drop] at h2
                have hjj : j < n * e := by rw [← hflen]; exact (List.getElem?_eq_some_iff.1 hj).1
                have hflat : (flatC es)[i * e + j]? = some c := h2
                rw [cell_of hw]
                have he0 : 0 < e := by
                  rcases Nat.eq_zero_or_pos e with h0 | h0
                  · rw [h0] at hjj; simp at hjj
                  · exact h0
                have hidx : i * e + j = (i + j / e) * e + j % e := by
                  rw [Nat.add_mul]; have := Nat.div_add_mod j e; rw [Nat.mul_comm] at this; omega
                have hq : i + j / e < es.length := by
                  have : j / e < n := Nat.div_lt_of_lt_mul (by rw [Nat.mul_comm]; exact hjj)
                  omega
                have hcc : (es[i + j / e]'hq).cells[j % e]? = some c := by
                  have hlt : j % e < (es[i + j / e]'hq).cells.length := by rw [hC.elt _ (List.getElem_mem hq)]; exact Nat.mod_lt _ he0
                  have := flatC_get hC.elt (List.getElem?_eq_getElem hq) (List.getElem?_eq_getElem hlt)
                  rw [← hidx, hflat] at this
                  rw [List.getElem?_eq_getElem hlt, ← this]
                obtain ⟨u, hu, hV⟩ := hC.val _ _ _ c (List.getElem?_eq_getElem hq) hcc
                rw [← hidx] at hu
                exact ⟨u, hu, hV⟩
              have hsel : ∀ j, j < n * e → w.cell? ((⟨b, i * e, none⟩ : Addr).add j) = some ((w.cell? ⟨b, i * e + j, none⟩).getD undef) := fun j hj => by
                obtain ⟨u, hu, _⟩ := hcell j _ (List.getElem?_eq_getElem (by rw [hflen]; exact hj))
                rw [add_none rfl]; simp only [hu, Option.getD_some]
              have hld := run_loadCells (P := P) w ⟨b, i * e, none⟩ (n * e) (fun j => (w.cell? ⟨b, i * e + j, none⟩).getD undef) hsel
              refine ⟨((List.range (n * e)).map fun j => (w.cell? ⟨b, i * e + j, none⟩).getD undef).toArray, ⟨by simp [hflen], fun j c u hc hu => ?_⟩, .inr ⟨_, hae, by simpa using hld⟩, fun ad' he' => by rw [hae] at he'; simp at he'; subst he'; simpa using hld⟩
              have hj : j < n * e := by rw [← hflen]; exact (List.getElem?_eq_some_iff.1 hc).1
              simp [hj] at hu
              obtain ⟨u', hu', hV⟩ := hcell j c hc
              rw [hu'] at hu; simp at hu; subst hu
              exact hV
          · simp at he
        · rename_i hes
          split at he
          · rename_i hs1
            subst hs1
            cases hi : es[i]? with
            | none => rw [hi] at he; simp at he
            | some x0 =>
              rw [hi] at he; dsimp only at he
              split at he
              · rename_i hfit
                simp at he; subst he
                have hx0 : x0.cells.length = e := hC.elt x0 (List.mem_of_getElem? hi)
                obtain ⟨hfit, hsc⟩ := hfit
                have hlen : ((x0.cells.drop o).take len).length = len := by simp; omega
                have hone : ∀ y ∈ (x0.cells.drop o).take len, y.cells = [y] := fun y hy => by
                  have := List.all_eq_true.1 hsc y hy
                  cases y <;> simp [AV.isAgg] at this <;> rfl
                have hflat : ∀ l : List AV, (∀ y ∈ l, y.cells = [y]) → flatC l = l := by
                  intro l
                  induction l with
                  | nil => intro _; rfl
                  | cons y l ih =>
                    intro hl
                    have h1 : flatC (y :: l) = y.cells ++ flatC l := by simp [flatC]
                    rw [h1, hl y (by simp), ih (fun z hz => hl z (by simp [hz]))]; rfl
                refine ⟨fun y hy => by rw [hone y hy]; rfl, a, c, by rw [hlen], fun n hn => ?_⟩
                rw [hlen] at hn
                by_cases hn0 : n = 0
                · subst hn0
                  refine ⟨#[], ⟨rfl, by simp [flatC]⟩, .inl rfl, fun ad _ => by simp [loadCells, loadCellsFrom]⟩
                · have hae := ha (by omega)
                  have hfl : flatC (((x0.cells.drop o).take len).take n) = ((x0.cells.drop o).take len).take n := hflat _ fun y hy => hone y (List.mem_of_mem_take hy)
                  rw [hfl]
                  have hcell : ∀ (j : Nat) (c : AV), (((x0.cells.drop o).take len).take n)[j]? = some c → ∃ u, w.cell? ⟨b, i * e + o + j, none⟩ = some u ∧ V β h F w c u := fun j c hj => by
                    have h1 : x0.cells[o + j]? = some c := by
                      rw [List.getElem?_take] at hj
                      split at hj
                      · rw [List.getElem?_take] at hj
                        split at hj
                        · rwa [List.getElem?_drop] at hj
                        · simp at hj
                      · simp at hj
                    obtain ⟨u, hu, hV⟩ := hC.val i x0 (o + j) c hi h1
                    exact ⟨u, by rw [cell_of hw]; rw [← hu]; congr 1; omega, hV⟩
                  have hnl : (((x0.cells.drop o).take len).take n).length = n := by simp; omega
                  have hsel : ∀ j, j < n * 1 → w.cell? ((⟨b, i * e + o, none⟩ : Addr).add j) = some ((w.cell? ⟨b, i * e + o + j, none⟩).getD undef) := fun j hj => by
                    obtain ⟨u, hu, _⟩ := hcell j _ (List.getElem?_eq_getElem (by rw [hnl]; omega))
                    rw [add_none rfl]; simp only [hu, Option.getD_some]
                  have hld := run_loadCells (P := P) w ⟨b, i * e + o, none⟩ (n * 1) (fun j => (w.cell? ⟨b, i * e + o + j, none⟩).getD undef) hsel
                  refine ⟨((List.range (n * 1)).map fun j => (w.cell? ⟨b, i * e + o + j, none⟩).getD undef).toArray, ⟨by simp [hnl], fun j c u hc hu => ?_⟩, .inr ⟨_, hae, hld⟩, fun ad' he' => by rw [hae] at he'; simp at he'; subst he'; exact hld⟩
                  have hj : j < n := by rw [← hnl]; exact (List.getElem?_eq_some_iff.1 hc).1
                  simp [hj] at hu
                  obtain ⟨u', hu', hV⟩ := hcell j c hc
                  rw [hu'] at hu; simp at hu; subst hu
                  exact hV
              · simp at he
          · simp at he
  · simp at he
end
end Go.Eng

/- The engine, part E2: every operation that answers a value and turns nothing. -/
namespace Go.Eng
set_option linter.unusedSectionVars false
set_option linter.unusedSimpArgs false

section
variable {RP : RPred} {β : Beta} {h : Heap} {F : Frz} {w : World} {P : Program} {C : Cfg} {f : Nat}

/-- operations that may answer a value and yet make memory, or call: not here -/
def AOp.plain : AOp → Bool
  | .lit .. | .append .. | .copy .. | .lookup .. | .mkslice .. => false
  | _ => true

theorem partsF_V {tm : Tm} {a : Act} (hG : GlobOK C β h F w) (hT : TmRel β h F w tm a.tmps) {place : Nat → Option (Nat × Nat)} {g : Nat × Operand → Option (Nat × Nat × Opd)}
    (hg : ∀ i x q, g (i, x) = some q → place i = some (q.1, q.2.1) ∧ opd C x = some q.2.2) : ∀ {l : List (Nat × Operand)} {l' : List (Nat × Nat × Opd)}, l.mapM g = some l' →
    PartsV β h F w place (l.map fun (i, x) => (i, a.eval x)) (l'.map fun (o, s, x) => (o, s, evo tm x)) := by
  intro l
  induction l with
  | nil => intro l' e; simp at e; subst e; exact .nil
  | cons p l ih =>
    intro l' e
    simp only [List.mapM_cons, Option.bind_eq_bind, Option.bind_eq_some_iff, Option.pure_def, Option.some.injEq] at e
    obtain ⟨q, hq, l'', hl'', rfl⟩ := e
    obtain ⟨i, x⟩ := p
    obtain ⟨h1, h2⟩ := hg i x q hq
    obtain ⟨o, s, y⟩ := q
    exact .cons i _ o s _ _ _ h1 (evo_V hG hT h2) (ih hl'')

/-- every field's type is there -/
def FieldsOK (P : Program) : Prop := ∀ (fs : Array Field) (t : TypeId), t < P.types.size → P.underlying t = some (.struct fs) → ∀ fl ∈ fs.toList, (szOf P fl.type).isSome

theorem op_val (hP : TypesOK P) (hF : FieldsOK P) {tm : Tm} {a : Act} (hS : St RP C β h F w tm a) {o : Oper} {v : AV} (hpl : (cop P C f o).plain = true) (ha : aop h (evo tm) (cop P C f o) = some (.val v)) :
    ∃ u, (execOp a.eval o).run P w = .ok (.value u) w ∧ V β h F w v u := by
  obtain ⟨hR, hG, hT⟩ := hS
  obtain ⟨dst, op, type, pos, after, guard⟩ := o
  unfold cop at ha hpl
  cases op <;> dsimp only at ha hpl <;> (have hx0 := getD_bad ha; clear ha; obtain ⟨cc, hc, ha⟩ := hx0) <;> rw [hc] at hpl <;> simp only [Option.getD_some] at hpl <;>
    (try simp only [Option.bind_eq_bind, Option.pure_def, Option.bind_eq_some_iff, Option.some.injEq, reduceCtorEq] at hc)
  case move x =>
    obtain ⟨y, hy, rfl⟩ := hc
    simp [aop] at ha; subst ha
    exact ⟨_, by simp [execOp], evo_V hG hT hy⟩
  case assign x =>
    obtain ⟨y, hy, rfl⟩ := hc
    simp [aop] at ha; subst ha
    exact ⟨_, by simp [execOp], evo_V hG hT hy⟩
  case pick x y z =>
    obtain ⟨x', hx, y', hy, z', hz, rfl⟩ := hc
    simp only [aop] at ha
    split at ha
    · rename_i t hx'
      simp at ha; subst ha
      have h1 := evo_V hG hT hx
      rw [hx'] at h1
      have he : a.eval x = .bool t := by
        generalize a.eval x = u at h1
        cases h1; rfl
      refine ⟨if t then a.eval y else a.eval z, ?_, ?_⟩
      · simp [execOp, he, asBool]
      · cases t
        · exact evo_V hG hT hz
        · exact evo_V hG hT hy
    · simp at ha
  case load t x =>
    obtain ⟨sz, hs, y, hy, rfl⟩ := hc
    simp only [aop, Option.map_eq_some_iff, ORes.val.injEq] at ha
    obtain ⟨r, hr, rfl⟩ := ha
    obtain ⟨ru, h1, h2⟩ := loadA_sound hP hR hs (evo_V hG hT hy) hr
    exact ⟨ru, by simp [execOp, h1], h2⟩
  case nilCheck x =>
    obtain ⟨y, hy, rfl⟩ := hc
    have hv := evo_V hG hT hy
    simp only [aop] at ha
    split at ha <;> simp at ha
    rename_i h1 h2 h3
    subst ha
    refine ⟨a.eval x, ?_, hv⟩
    simp only [execOp]
    generalize a.eval x = u at *
    generalize evo tm y = vv at *
    cases hv <;> first | contradiction | simp_all
  case binOp op t x y yt =>
    have eqcase : ∀ neg, ceq P C neg t x y = some cc → ∃ u, (do eqGuard (if neg then .neq else .eql) t x y (a.eval x) (a.eval y); Go.binOp (if neg then .neq else .eql) t (a.eval x) (a.eval y)).run P w = .ok u w ∧ V β h F w v u := by
      intro neg hc
      unfold ceq at hc
      cases hpt : plainT P t with
      | some sh =>
        rw [hpt] at hc
        simp only [Option.bind_eq_bind, Option.pure_def, Option.bind_eq_some_iff, Option.some.injEq] at hc
        obtain ⟨x', hx, y', hy, rfl⟩ := hc
        simp only [aop, Option.map_eq_some_iff, ORes.val.injEq] at ha
        obtain ⟨b, hb, rfl⟩ := ha
        exact ⟨_, eqT_sound hP hpt hb (evo_V hG hT hx) (evo_V hG hT hy) neg x y, .bool _⟩
      | none =>
        rw [hpt] at hc
        simp only [Option.bind_eq_bind, Option.pure_def, Option.bind_eq_some_iff, Option.some.injEq] at hc
        obtain ⟨k, hk, x', hx, y', hy, rfl⟩ := hc
        simp only [aop, Option.map_eq_some_iff, ORes.val.injEq] at ha
        obtain ⟨b, hb, rfl⟩ := ha
        exact ⟨_, eqN_sound hk hb (evo_V hG hT hx) (evo_V hG hT hy) neg x y, .bool _⟩
    have fin : ∀ op' u, (do eqGuard op' t x y (a.eval x) (a.eval y); Go.binOp op' t (a.eval x) (a.eval y)).run P w = .ok u w → op' = op →
        (execOp a.eval { dst, op := .binOp op t x y yt, type, pos, after, guard }).run P w = .ok (.value u) w := by
      rintro op' u h1 rfl
      show Sem.run P ((do eqGuard op' t x y (a.eval x) (a.eval y); Go.binOp op' t (a.eval x) (a.eval y)) >>= fun v => pure (Next.value v)) w = _
      rw [Sem.run_bind, h1]; rfl
    have bincase : op ≠ .eql → op ≠ .neq → (if numT P t then (do pure (.bin op (← opd C x) (← opd C y))) else none) = some cc → ∃ u, (do eqGuard op t x y (a.eval x) (a.eval y); Go.binOp op t (a.eval x) (a.eval y)).run P w = .ok u w ∧ V β h F w v u := by
      intro h1 h2 hc
      split at hc
      · simp only [Option.bind_eq_bind, Option.pure_def, Option.bind_eq_some_iff, Option.some.injEq] at hc
        obtain ⟨x', hx, y', hy, rfl⟩ := hc
        simp only [aop, Option.map_eq_some_iff, ORes.val.injEq] at ha
        obtain ⟨r, hr, rfl⟩ := ha
        exact binA_sound (evo_V hG hT hx) (evo_V hG hT hy) h1 h2 hr x y
      · simp at hc
    cases op
    case eql => obtain ⟨u, h1, h2⟩ := eqcase false hc; exact ⟨u, fin _ u h1 rfl, h2⟩
    case neq => obtain ⟨u, h1, h2⟩ := eqcase true hc; exact ⟨u, fin _ u h1 rfl, h2⟩
    all_goals (obtain ⟨u, h1, h2⟩ := bincase (by simp) (by simp) hc; exact ⟨u, fin _ u h1 rfl, h2⟩)
  case unOp op t x =>
    obtain ⟨y, hy, rfl⟩ := hc
    simp only [aop, Option.map_eq_some_iff, ORes.val.injEq] at ha
    obtain ⟨r, hr, rfl⟩ := ha
    obtain ⟨ru, h1, h2⟩ := unA_sound (P := P) (evo_V hG hT hy) hr
    exact ⟨ru, by simp [execOp, h1], h2⟩
  case fieldAddr s x i =>
    obtain ⟨d, hd, hc⟩ := hc
    cases d <;> simp only [reduceCtorEq] at hc
    rename_i fs
    simp only [Option.bind_eq_some_iff] at hc
    obtain ⟨fl, hfl, n, hn, hc⟩ := hc
    split at hc
    · simp at hc
    · rename_i hn0
      simp only [Option.bind_eq_some_iff, Option.some.injEq] at hc
      obtain ⟨y, hy, rfl⟩ := hc
      simp only [aop, Option.map_eq_some_iff, ORes.val.injEq] at ha
      obtain ⟨r, hr, rfl⟩ := ha
      obtain ⟨ru, h1, h2⟩ := fieldAt_sound hd hfl hn hn0 (evo_V hG hT hy) hr
      exact ⟨ru, by simp [execOp, h1], h2⟩
  case alloc t =>
    obtain ⟨n, _, z, _, rfl⟩ := hc
    simp [aop] at ha
  case box t x =>
    obtain ⟨n, _, y, _, rfl⟩ := hc
    simp only [aop] at ha
    split at ha <;> simp at ha
  case build t ps =>
    obtain ⟨z, hz, hc⟩ := hc
    cases z <;> simp only [reduceCtorEq] at hc
    rename_i zs
    simp only [Option.bind_eq_some_iff] at hc
    obtain ⟨d, hd, hc⟩ := hc
    obtain ⟨zv, hz1, hz2⟩ := zeroOf_run (w := w) hz
    have hzV : V β h F w (.agg zs) zv := ofValue_V zv _ hz2
    obtain ⟨us, rfl, hzl, hzc⟩ := hzV.agg_inv
    have hzC : CellsV β h F w zs us := ⟨hzl, hzc⟩
    obtain ⟨it, hit, hitz⟩ : ∃ it, P.info? t = some it ∧ it.zero = some (.agg us) := by
      obtain ⟨_, i, hi, v', hv', e⟩ := zeroOf_inv hz
      refine ⟨i, hi, ?_⟩
      have : (zeroValue t).run P w = .ok v' w := by simp [zeroValue, typeInfo, hi, hv']
      rw [this] at hz1; simp at hz1; rw [hv', hz1]
    cases d <;> simp only [reduceCtorEq] at hc
    case array n e =>
      simp only [Option.bind_eq_some_iff, Option.some.injEq] at hc
      obtain ⟨s, hs, ps', hps, rfl⟩ := hc
      simp only [aop, Option.map_eq_some_iff, ORes.val.injEq] at ha
      obtain ⟨cs, hcs, rfl⟩ := ha
      obtain ⟨ie, hie, hies⟩ := szOf_underlying hs
      have hpv := partsF_V (a := a) hG hT (place := fun i => some (i * s, s)) (g := fun p => do pure (p.1 * s, s, ← opd C p.2)) (fun i x q hq => by
        simp only [Option.bind_eq_bind, Option.pure_def, Option.bind_eq_some_iff, Option.some.injEq] at hq
        obtain ⟨y, hy, rfl⟩ := hq
        exact ⟨rfl, hy⟩) (l := ps.toList) (l' := ps') hps
      obtain ⟨us', hf1, hf2⟩ := fill_sound hpv hzC hcs
      refine ⟨.agg us', ?_, V.of_cells_agg hf2⟩
      have hb : P.built t (ps.map fun (i, x) => (i, a.eval x)).toList = some us' := by
        simp only [Program.built, hit, und] at hd ⊢
        simp only [hd, hitz, hie, hies, Array.toList_map]
        exact hf1
      simp [execOp, run_build w t _ us' hb]
    case struct fs =>
      simp only [Option.bind_eq_some_iff, Option.some.injEq] at hc
      obtain ⟨ps', hps, rfl⟩ := hc
      simp only [aop, Option.map_eq_some_iff, ORes.val.injEq] at ha
      obtain ⟨cs, hcs, rfl⟩ := ha
      -- the fields' places
      have hall : ∀ (l : List Field), (∀ fl ∈ l, (szOf P fl.type).isSome) → l.mapM (fun f => (P.info? f.type).map fun i => (f.offset, i.size)) = some (l.map fun f => (f.offset, P.cellsOf f.type)) := by
        intro l
        induction l with
        | nil => intro _; rfl
        | cons fl l ih =>
          intro hl
          obtain ⟨n, hn⟩ := Option.isSome_iff_exists.1 (hl fl (by simp))
          obtain ⟨i, hi, _⟩ := szOf_underlying hn
          simp [List.mapM_cons, hi, ih (fun g hg => hl g (by simp [hg])), Program.cellsOf]
      have hpl2 := hF fs t (zeroOf_inv hz).1 hd
      have hmap := hall fs.toList hpl2
      have hpv := partsF_V (a := a) hG hT (place := fun i => (fs.toList.map fun f => (f.offset, P.cellsOf f.type)).toArray[i]?) (g := fun p => do
          let fl ← fs[p.1]?
          pure (fl.offset, ← szOf P fl.type, ← opd C p.2)) (fun i x q hq => by
        simp only [Option.bind_eq_bind, Option.pure_def, Option.bind_eq_some_iff, Option.some.injEq] at hq
        obtain ⟨fl, hfl, n, hn, y, hy, rfl⟩ := hq
        obtain ⟨ii, hii, hin⟩ := szOf_underlying hn
        refine ⟨?_, hy⟩
        have : fs.toList[i]? = some fl := by simpa using hfl
        simp [this, hfl, Program.cellsOf, hii, hin]) (l := ps.toList) (l' := ps') hps
      obtain ⟨us', hf1, hf2⟩ := fill_sound hpv hzC hcs
      refine ⟨.agg us', ?_, V.of_cells_agg hf2⟩
      have hb : P.built t (ps.map fun (i, x) => (i, a.eval x)).toList = some us' := by
        simp only [und] at hd
        simp only [Program.built, hit, hd, hitz, hmap, Array.toList_map]
        exact hf1
      simp [execOp, run_build w t _ us' hb]
  case convert s d x =>
    have hv : ∀ y, opd C x = some y → V β h F w (evo tm y) (a.eval x) := fun y hy => evo_V hG hT hy
    have he : (execOp a.eval { dst, op := .convert s d x, type, pos, after, guard }) = (do let r ← Go.convert s d (a.eval x); pure (.value r)) := rfl
    unfold cconv at hc
    split at hc
    · rename_i k0 k hds hdd
      simp only [Option.map_eq_some_iff] at hc
      obtain ⟨y, hy, rfl⟩ := hc
      simp only [aop] at ha
      split at ha
      · rename_i k' n hn
        simp at ha; subst ha
        have h1 := hv y hy
        rw [hn] at h1
        have hu : a.eval x = .int k' n := by
          generalize a.eval x = u at h1
          cases h1; rfl
        exact ⟨_, by simp [he, hu, Go.convert, run_underlying hds, run_underlying hdd, Conv.intToInt], .int _ _⟩
      · simp at ha
    · rename_i hds hdd
      simp only [Option.map_eq_some_iff] at hc
      obtain ⟨y, hy, rfl⟩ := hc
      simp only [aop] at ha
      split at ha
      · rename_i s' hn
        simp at ha; subst ha
        have h1 := hv y hy
        rw [hn] at h1
        have hu : a.eval x = .string ⟨s'.toArray⟩ := by
          generalize a.eval x = u at h1
          cases h1; rfl
        exact ⟨_, by simp [he, hu, Go.convert, run_underlying hds, run_underlying hdd], .str _⟩
      · simp at ha
    · split at hc
      · simp only [Option.map_eq_some_iff] at hc
        obtain ⟨y, hy, rfl⟩ := hc
        simp only [aop] at ha
        split at ha <;> simp at ha
      · simp at hc
    · rename_i e hds hdd
      split at hc
      · rename_i hu8
        simp only [Option.map_eq_some_iff] at hc
        obtain ⟨y, hy, rfl⟩ := hc
        have hde : P.underlying e = some (.int .u8) := by
          unfold isU8 at hu8
          split at hu8
          · assumption
          · simp at hu8
        simp only [aop] at ha
        split at ha
        · rename_i xs hxs
          simp only [Option.map_eq_some_iff, ORes.val.injEq] at ha
          obtain ⟨bs, hbs, rfl⟩ := ha
          obtain ⟨hz, A, c, hu, hld⟩ := elems_load (P := P) hR hxs (hv y hy)
          have hflat : ∀ (l : List AV) (s : List UInt8), l.mapM (fun | AV.int .u8 n => some (UInt8.ofNat n.toNat) | _ => none) = some s → flatC l = l := by
            intro l
            induction l with
            | nil => intro _ _; rfl
            | cons y l ih =>
              intro s' hm
              simp only [List.mapM_cons, Option.bind_eq_bind, Option.bind_eq_some_iff, Option.pure_def, Option.some.injEq] at hm
              obtain ⟨b, hb, s'', hs'', _⟩ := hm
              have : y.cells = [y] := by
                cases y <;> first | rfl | simp at hb
              have h1 : flatC (y :: l) = y.cells ++ flatC l := by simp [flatC]
              rw [h1, this, ih s'' hs'']; rfl
          have hfx := hflat xs bs hbs
          obtain ⟨us, hus, hn0, hload⟩ := hld xs.length (Nat.le_refl _)
          simp only [List.take_length, hfx, Nat.mul_one] at hus hload
          refine ⟨.string ⟨bs.toArray⟩, ?_, .str _⟩
          have hcv : (Conv.bytesToString (.slice A xs.length c)).run P w = .ok (.string ⟨bs.toArray⟩) w := by
            cases A with
            | none =>
              have hxl : xs.length = 0 := by
                rcases hn0 with h0 | ⟨ad, h0, _⟩
                · exact h0
                · simp at h0
              have : xs = [] := List.length_eq_zero_iff.1 hxl
              subst this
              simp at hbs; subst hbs
              simp [Conv.bytesToString]; rfl
            | some ad =>
              obtain ⟨ns, rfl, rfl⟩ := mapM_bytes hbs
              exact b2s_run w hus (hload ad rfl)
          simp only [he, hu, Go.convert, Sem.run_bind, run_underlying hds, run_underlying hdd, Result.andThen_ok, run_underlying hde, hcv, Sem.run_pure]
        · simp at ha
      · simp at hc
    · simp at hc
  case makeFunc fn first captured =>
    unfold cmkf at hc
    split at hc
    · rename_i g
      split at hc
      · rename_i hf0
        simp only [Option.map_eq_some_iff] at hc
        obtain ⟨ys, hys, rfl⟩ := hc
        simp [aop] at ha; subst ha
        obtain ⟨h1, h2⟩ := opds_V hG hT hys
        have hfe : first = #[] := by simpa using hf0
        subst hfe
        refine ⟨.func (.func g) #[] (captured.map a.eval), by simp [execOp, Instr.makeFunc], .clo _ _ _ (by simpa using h1) (fun j c u hc hu => h2 j c u hc (by simpa using hu))⟩
      · simp at hc
    · simp at hc
  case makeSlice t l c =>
    obtain ⟨d, hd, hc⟩ := hc
    cases d <;> simp only [reduceCtorEq, Option.bind_eq_some_iff, Option.some.injEq] at hc
    obtain ⟨_, _, hc⟩ := hc
    split at hc
    · simp at hc
    · simp only [Option.bind_eq_some_iff, Option.some.injEq] at hc
      obtain ⟨_, _, _, _, _, _, rfl⟩ := hc
      simp [AOp.plain] at hpl
  case slice t x lo hi mx =>
    obtain ⟨lo', hlo, hi', hhi, mx', hmx, d, hd, hc⟩ := hc
    have hO1 := optOV hG hT hlo
    have hO2 := optOV hG hT hhi
    have hO3 := optOV hG hT hmx
    have fin : ∀ k y, opd C x = some y → cc = .slice k y lo' hi' mx' → (match k with | .str => P.underlying t = some .string | .sl sz => ∃ e, P.underlying t = some (.slice e) ∧ szOf P e = some sz | .arr n sz => ∃ e, P.underlying t = some (.array n e) ∧ szOf P e = some sz) →
        ∃ u, (execOp a.eval { dst, op := .slice t x lo hi mx, type, pos, after, guard }).run P w = .ok (.value u) w ∧ V β h F w v u := by
      intro k y hy hcc hk
      subst hcc
      simp only [aop, Option.map_eq_some_iff, ORes.val.injEq] at ha
      obtain ⟨r, hr, rfl⟩ := ha
      obtain ⟨ru, h1, h2⟩ := sliceA_sound hR hO1 hO2 hO3 (evo_V hG hT hy) hk hr
      exact ⟨ru, by simp [execOp, h1], h2⟩
    cases d <;> simp only [reduceCtorEq] at hc
    case string =>
      simp only [Option.bind_eq_some_iff, Option.some.injEq] at hc
      obtain ⟨y, hy, rfl⟩ := hc
      exact fin _ y hy rfl hd
    case slice e =>
      simp only [Option.bind_eq_some_iff, Option.some.injEq] at hc
      obtain ⟨s, hs, y, hy, rfl⟩ := hc
      exact fin _ y hy rfl ⟨e, hd, hs⟩
    case array n e =>
      simp only [Option.bind_eq_some_iff, Option.some.injEq] at hc
      obtain ⟨s, hs, y, hy, rfl⟩ := hc
      exact fin _ y hy rfl ⟨e, hd, hs⟩
  case field t x i =>
    obtain ⟨d, hd, hc⟩ := hc
    cases d <;> simp only [reduceCtorEq] at hc
    rename_i fs
    simp only [Option.bind_eq_some_iff, Option.some.injEq] at hc
    obtain ⟨fl, hfl, n, hn, y, hy, rfl⟩ := hc
    simp only [aop, Option.map_eq_some_iff, ORes.val.injEq] at ha
    obtain ⟨r, hr, rfl⟩ := ha
    obtain ⟨ru, h1, h2⟩ := field_sound hP hd hfl hn (evo_V hG hT hy) hr
    exact ⟨ru, by simp [execOp, h1], h2⟩
  case indexAddr t x i =>
    obtain ⟨d, hd, hc⟩ := hc
    cases d <;> simp only [reduceCtorEq] at hc
    case array n e =>
      simp only [Option.bind_eq_some_iff, Option.some.injEq] at hc
      obtain ⟨s, hs, y, hy, z, hz, rfl⟩ := hc
      simp only [aop, Option.bind_eq_some_iff, Option.map_eq_some_iff, ORes.val.injEq] at ha
      obtain ⟨j, hj, r, hr, rfl⟩ := ha
      obtain ⟨k, hk⟩ := asN_inv hj (evo_V hG hT hz)
      obtain ⟨ru, h1, h2⟩ := iaddr_arr_sound (k := k) hd hs (evo_V hG hT hy) hr
      exact ⟨ru, by simp [execOp, hk, h1], h2⟩
    case slice e =>
      simp only [Option.bind_eq_some_iff, Option.some.injEq] at hc
      obtain ⟨s, hs, y, hy, z, hz, rfl⟩ := hc
      simp only [aop, Option.bind_eq_some_iff, Option.map_eq_some_iff, ORes.val.injEq] at ha
      obtain ⟨j, hj, r, hr, rfl⟩ := ha
      obtain ⟨k, hk⟩ := asN_inv hj (evo_V hG hT hz)
      obtain ⟨ru, h1, h2⟩ := iaddr_slice_sound (k := k) hd hs (evo_V hG hT hy) hr
      exact ⟨ru, by simp [execOp, hk, h1], h2⟩
  case index t x i =>
    obtain ⟨d, hd, hc⟩ := hc
    cases d <;> simp only [reduceCtorEq] at hc
    case array n e =>
      simp only [Option.bind_eq_some_iff, Option.some.injEq] at hc
      obtain ⟨s, hs, y, hy, z, hz, rfl⟩ := hc
      simp only [aop, Option.bind_eq_some_iff, Option.map_eq_some_iff, ORes.val.injEq] at ha
      obtain ⟨j, hj, r, hr, rfl⟩ := ha
      obtain ⟨k, hk⟩ := asN_inv hj (evo_V hG hT hz)
      obtain ⟨ru, h1, h2⟩ := indexA_sound (k := k) hP hd hs (evo_V hG hT hy) hr
      exact ⟨ru, by simp [execOp, hk, h1], h2⟩
    case string =>
      simp only [Option.bind_eq_some_iff, Option.some.injEq] at hc
      obtain ⟨y, hy, z, hz, rfl⟩ := hc
      simp only [aop, Option.bind_eq_some_iff, Option.map_eq_some_iff, ORes.val.injEq] at ha
      obtain ⟨j, hj, r, hr, rfl⟩ := ha
      obtain ⟨k, hk⟩ := asN_inv hj (evo_V hG hT hz)
      obtain ⟨ru, h1, h2⟩ := indexS_sound (k := k) hd (evo_V hG hT hy) hr
      exact ⟨ru, by simp [execOp, hk, h1], h2⟩
  case lookup t x k ok =>
    obtain ⟨d, hd, hc⟩ := hc
    cases d <;> simp only [reduceCtorEq] at hc
    simp only [Option.bind_eq_some_iff, Option.some.injEq] at hc
    obtain ⟨_, _, _, _, _, _, _, _, rfl⟩ := hc
    simp [AOp.plain] at hpl
  case extract x i =>
    obtain ⟨y, hy, rfl⟩ := hc
    simp only [aop, Option.map_eq_some_iff, ORes.val.injEq] at ha
    obtain ⟨r, hr, rfl⟩ := ha
    obtain ⟨ru, h1, h2⟩ := extract_sound (P := P) (evo_V hG hT hy) hr
    exact ⟨ru, by simp [execOp, h1], h2⟩
  case call c =>
    unfold ccall at hc
    split at hc
    · simp at hc
    · rename_i as has
      obtain ⟨h1, h2⟩ := opds_V hG hT has
      split at hc
      · simp at hc; subst hc; simp [aop] at ha
      · simp at hc; subst hc
        simp only [aop] at ha
        split at ha <;> simp at ha
      · rename_i b hb
        have hres : ∀ (n : Next) , (builtin b c.argTypes type (c.args.map fun | .const _ => true | _ => false) (c.args.map a.eval)).run P w = .ok n w →
            (execOp a.eval { dst, op := .call c, type, pos, after, guard }).run P w = .ok n w := fun n hn => by
          simp only [execOp, Sem.run_bind, resolve, hb, Sem.run_pure, Result.andThen_ok, invoke]
          exact hn
        unfold cbuiltin at hc
        split at hc
        · -- len
          rename_i x
          have hargs : c.args.map a.eval = #[(c.args.map a.eval).getD 0 undef] := by
            have hl : c.args.size = 1 := by simpa using h1.symm
            apply Array.ext
            · simp [hl]
            · intro i hi _
              simp at hi
              have : i = 0 := by omega
              subst this
              simp [hl]
          have hV0 : V β h F w (evo tm x) ((c.args.map a.eval).getD 0 undef) := by
            have hl : c.args.size = 1 := by simpa using h1.symm
            refine h2 0 _ _ rfl ?_
            simp [hl]
          split at hc
          · rename_i ht
            simp at hc; subst hc
            simp only [aop, Option.map_eq_some_iff, ORes.val.injEq] at ha
            obtain ⟨n, hn, rfl⟩ := ha
            simp only [Option.bind_eq_some_iff] at ht
            obtain ⟨t0, ht0, ht⟩ := ht
            refine ⟨_, hres _ ?_, .int _ _⟩
            have hts : c.argTypes[0]? = some t0 := ht0
            rw [hargs]
            have := lenS_sound (P := P) (ty := type) ht hV0 hn
            simp only [builtin, Sem.run_bind, Builtin.len_] at this ⊢
            simp only [hts]
            simpa using congrArg (fun r => r.andThen fun v w' => Result.ok (Next.value v) w') this
          · rename_i e ht
            simp at hc; subst hc
            simp only [aop, Option.map_eq_some_iff, ORes.val.injEq] at ha
            obtain ⟨n, hn, rfl⟩ := ha
            simp only [Option.bind_eq_some_iff] at ht
            obtain ⟨t0, ht0, ht⟩ := ht
            refine ⟨_, hres _ ?_, .int _ _⟩
            have hts : c.argTypes[0]? = some t0 := ht0
            rw [hargs]
            have := lenL_sound (P := P) (ty := type) ht hV0 hn
            simp only [builtin, Sem.run_bind, Builtin.len_] at this ⊢
            simp only [hts]
            simpa using congrArg (fun r => r.andThen fun v w' => Result.ok (Next.value v) w') this
          · simp at hc
        · split at hc
          · split at hc
            · simp at hc
            · simp at hc; subst hc; simp [AOp.plain] at hpl
          · simp at hc
        · split at hc
          · simp at hc; subst hc; simp [AOp.plain] at hpl
          · simp at hc
        · -- MM
          simp at hc; subst hc
          simp only [aop] at ha
          split at ha
          · rename_i k n l hl
            simp only [Option.map_eq_some_iff, ORes.val.injEq] at ha
            obtain ⟨r, hr, rfl⟩ := ha
            refine ⟨_, hres _ ?_, .int _ _⟩
            -- the arguments
            cases hcl : (c.args.map a.eval).toList with
            | nil =>
              have e1 : (as.map (evo tm)).length = (c.args.toList.map a.eval).length := by simpa using h1
              have hcl' : c.args.toList.map a.eval = [] := by simpa using hcl
              rw [hl, hcl'] at e1
              simp at e1
            | cons u0 us =>
              have hcl' : c.args.toList.map a.eval = u0 :: us := by simpa using hcl
              have hV0 := h2 0 (.int k n) u0 (by rw [hl]; rfl) (by rw [hcl']; rfl)
              have hu0 : u0 = .int k n := by cases hV0; rfl
              subst hu0
              have hlen : l.length = us.length := by
                have e1 : (as.map (evo tm)).length = (c.args.toList.map a.eval).length := by simpa using h1
                rw [hl, hcl'] at e1
                simpa using e1
              have hrun := minmax_run (P := P) false k l us n r (fun j x u hx hu => h2 (j + 1) x u (by rw [hl]; simpa using hx) (by rw [hcl']; simpa using hu)) hlen hr
              simp only [builtin, Builtin.min_, hcl, Sem.run_bind]
              simp only [Bool.false_eq_true, if_false, if_true] at hrun
              rw [hrun]; rfl
          · simp at ha
        · -- MM
          simp at hc; subst hc
          simp only [aop] at ha
          split at ha
          · rename_i k n l hl
            simp only [Option.map_eq_some_iff, ORes.val.injEq] at ha
            obtain ⟨r, hr, rfl⟩ := ha
            refine ⟨_, hres _ ?_, .int _ _⟩
            -- the arguments
            cases hcl : (c.args.map a.eval).toList with
            | nil =>
              have e1 : (as.map (evo tm)).length = (c.args.toList.map a.eval).length := by simpa using h1
              have hcl' : c.args.toList.map a.eval = [] := by simpa using hcl
              rw [hl, hcl'] at e1
              simp at e1
            | cons u0 us =>
              have hcl' : c.args.toList.map a.eval = u0 :: us := by simpa using hcl
              have hV0 := h2 0 (.int k n) u0 (by rw [hl]; rfl) (by rw [hcl']; rfl)
              have hu0 : u0 = .int k n := by cases hV0; rfl
              subst hu0
              have hlen : l.length = us.length := by
                have e1 : (as.map (evo tm)).length = (c.args.toList.map a.eval).length := by simpa using h1
                rw [hl, hcl'] at e1
                simpa using e1
              have hrun := minmax_run (P := P) true k l us n r (fun j x u hx hu => h2 (j + 1) x u (by rw [hl]; simpa using hx) (by rw [hcl']; simpa using hu)) hlen hr
              simp only [builtin, Builtin.max_, hcl, Sem.run_bind]
              simp only [Bool.false_eq_true, if_false, if_true] at hrun
              rw [hrun]; rfl
          · simp at ha
        · simp at hc
      · simp at hc
  case store t x y =>
    obtain ⟨s, _, x', _, y', _, rfl⟩ := hc
    simp only [aop, Option.map_eq_some_iff] at ha
    obtain ⟨q, _, hq⟩ := ha
    simp at hq
  case makeMap t r =>
    cases r with
    | none =>
      simp only [Option.bind_eq_some_iff] at hc
      obtain ⟨d, hd, hc⟩ := hc
      cases d <;> simp only [reduceCtorEq] at hc
      split at hc
      · simp at hc; subst hc; simp [aop] at ha
      · simp at hc
    | some x => simp at hc
  case mapUpdate t m k x =>
    obtain ⟨d, hd, hc⟩ := hc
    cases d <;> simp only [reduceCtorEq] at hc
    simp only [Option.bind_eq_some_iff, Option.some.injEq] at hc
    obtain ⟨_, _, _, _, _, _, _, _, rfl⟩ := hc
    simp only [aop] at ha
    repeat' (split at ha <;> try simp at ha)
  case insert t m k x =>
    obtain ⟨d, hd, hc⟩ := hc
    cases d <;> simp only [reduceCtorEq] at hc
    simp only [Option.bind_eq_some_iff, Option.some.injEq] at hc
    obtain ⟨_, _, _, _, _, _, _, _, rfl⟩ := hc
    simp only [aop] at ha
    repeat' (split at ha <;> try simp at ha)
  case buildSlice t len ps =>
    obtain ⟨d, hd, hc⟩ := hc
    cases d <;> simp only [reduceCtorEq] at hc
    simp only [Option.bind_eq_some_iff] at hc
    obtain ⟨ps', _, s, _, hc⟩ := hc
    split at hc
    · simp at hc
    · simp only [Option.bind_eq_some_iff, Option.some.injEq] at hc
      obtain ⟨_, _, rfl⟩ := hc
      simp [AOp.plain] at hpl
  all_goals (first | exact hc.elim | (simp at hc; done))
end
end Go.Eng

