import Derived.Test.YtghmlonankhcgaaGreatDoorEngE
import Derived.Great.BuildSlice
import Derived.MapKept
/- The engine, part F1: memory that is made, and written. -/
namespace Go.Eng
set_option linter.unusedSectionVars false
set_option linter.unusedSimpArgs false

section
variable {RP : RPred} {β : Beta} {h : Heap} {F : Frz} {w w' : World} {P : Program} {C : Cfg} {f : Nat}

def upd (β : Beta) (n b : Nat) : Beta := fun m => if m = n then some b else β m
theorem upd_same (β : Beta) (n b : Nat) : upd β n b n = some b := by simp [upd]
theorem upd_ne (β : Beta) {n m : Nat} (b : Nat) (hne : m ≠ n) : upd β n b m = β m := by simp [upd, hne]

/-- a world whose other parts are as they were -/
structure Beside (w w' : World) : Prop where
  os : w'.os = w.os
  output : w'.output = w.output
  tape : w'.tape = w.tape

theorem Beside.refl (w : World) : Beside w w := ⟨rfl, rfl, rfl⟩

theorem push_get {H : Array Obj} {o : Obj} {b : Nat} (hb : b < H.size) : (H.push o)[b]? = H[b]? := by
  rw [Array.getElem?_push]; rw [if_neg (by omega)]
theorem push_last {H : Array Obj} {o : Obj} : (H.push o)[H.size]? = some o := by simp

/-- a new block of the abstract heap -/
theorem alloc_ext (hR : Rel RP β F h w) (B : Blk) (o : Obj) (hw : w'.heap = w.heap.push o) (hs : Beside w w') :
    Ext (fun _ => False) β F h w (upd β h.length w.heap.size) F (h ++ [B]) w' where
  len := by simp
  blk := fun n B' hB' => by
    have hn : n < h.length := (List.getElem?_eq_some_iff.1 hB').1
    refine ⟨B', by rw [List.getElem?_append_left hn]; exact hB', .inl ⟨Kept.refl _, upd_ne β _ (by omega), fun b hb => ?_⟩⟩
    unfold sizeAt
    rw [hw, push_get (hR.lt n b hb)]
  frz := fun _ _ hf => hf
  old := fun b hb _ => by rw [hw, push_get hb]
  size := by rw [hw]; simp
  news := fun n b hn => by
    by_cases hne : n = h.length
    · subst hne; rw [upd_same] at hn; simp at hn; right; omega
    · rw [upd_ne β _ hne] at hn; exact .inl ⟨hn, hR.out n b hn⟩
  newF := fun _ _ hf => .inl hf
  none_ := fun n hl hn => ⟨by rw [upd_ne β _ (by omega)]; exact hn, by rw [List.getElem?_append_left hl]⟩
  os := hs.os
  output := hs.output
  tape := hs.tape

theorem alloc_after (hR : Rel RP β F h w) {e : Nat} {g : Bool} {es : List AV} {us : Array Value} {el : TypeId} {fr : Nat × Nat} (hw : w'.heap = w.heap.push (.cells us el fr)) (hs : Beside w w')
    (hfr : Free us fr) (helt : ∀ x ∈ es, x.cells.length = e) (hg : g = false → us.size = es.length * e) (hfit : es.length * e ≤ us.size)
    (hc : ∀ (j : Nat) (c : AV), (flatC es)[j]? = some c → ∃ u, us[j]? = some u ∧ V β h F w c u) :
    Rel RP (upd β h.length w.heap.size) F (h ++ [.cells 0 e g es]) w' ∧ Ext (fun _ => False) β F h w (upd β h.length w.heap.size) F (h ++ [.cells 0 e g es]) w' := by
  have hE := alloc_ext (w' := w') hR (.cells 0 e g es) _ hw hs
  refine ⟨Rel.step hE hR ?_ ?_ ?_ ?_ ?_ ?_, hE⟩
  · intro n b B hb hB hnc
    by_cases hne : n = h.length
    · subst hne
      rw [upd_same] at hb; simp at hb; subst hb
      rw [List.getElem?_append_right (Nat.le_refl _)] at hB
      simp at hB; subst hB
      refine ⟨us, el, fr, by rw [hw]; exact push_last, hfr, helt, hg, hfit, fun j c hj => ?_⟩
      obtain ⟨u, hu, hv⟩ := hc j c hj
      exact ⟨u, hu, hv.ext hE hR⟩
    · rw [upd_ne β _ hne] at hb
      have hn : n < h.length := hR.out n b hb
      rw [List.getElem?_append_left hn] at hB
      exact absurd ⟨hb, hB, fun h => h⟩ hnc
  · intro n b hb
    rw [hw]
    by_cases hne : n = h.length
    · subst hne; rw [upd_same] at hb; simp at hb; subst hb; simp
    · rw [upd_ne β _ hne] at hb; have := hR.lt n b hb; simp; omega
  · intro n b hb
    by_cases hne : n = h.length
    · subst hne; simp
    · rw [upd_ne β _ hne] at hb; have := hR.out n b hb; simp; omega
  · intro n n' b hb hb'
    by_cases hne : n = h.length
    · by_cases hne' : n' = h.length
      · omega
      · subst hne
        rw [upd_same] at hb; rw [upd_ne β _ hne'] at hb'
        simp at hb; subst hb
        exact absurd (hR.lt _ _ hb') (by omega)
    · rw [upd_ne β _ hne] at hb
      by_cases hne' : n' = h.length
      · subst hne'
        rw [upd_same] at hb'; simp at hb'; subst hb'
        exact absurd (hR.lt _ _ hb) (by omega)
      · rw [upd_ne β _ hne'] at hb'; exact hR.inj n n' b hb hb'
  · intro n b o hb hF
    by_cases hne : n = h.length
    · subst hne; rw [upd_same] at hb; simp at hb; subst hb
      exact absurd (hR.cell _ _ hF) (by omega)
    · rw [upd_ne β _ hne] at hb; exact hR.apart n b o hb hF
  · intro b o hF hnF; exact absurd hF hnF

/-- a new map -/
theorem allocm_after (hR : Rel RP β F h w) (hw : w'.heap = w.heap.push (.map #[] 0)) (hs : Beside w w') :
    Rel RP (upd β h.length w.heap.size) F (h ++ [.map []]) w' ∧ Ext (fun _ => False) β F h w (upd β h.length w.heap.size) F (h ++ [.map []]) w' := by
  have hE := alloc_ext (w' := w') hR (.map []) _ hw hs
  refine ⟨Rel.step hE hR ?_ ?_ ?_ ?_ ?_ ?_, hE⟩
  · intro n b B hb hB hnc
    by_cases hne : n = h.length
    · subst hne
      rw [upd_same] at hb; simp at hb; subst hb
      rw [List.getElem?_append_right (Nat.le_refl _)] at hB
      simp at hB; subst hB
      exact ⟨#[], 0, by rw [hw]; exact push_last, rfl, by simp⟩
    · rw [upd_ne β _ hne] at hb
      have hn : n < h.length := hR.out n b hb
      rw [List.getElem?_append_left hn] at hB
      exact absurd ⟨hb, hB, fun h => h⟩ hnc
  · intro n b hb
    rw [hw]
    by_cases hne : n = h.length
    · subst hne; rw [upd_same] at hb; simp at hb; subst hb; simp
    · rw [upd_ne β _ hne] at hb; have := hR.lt n b hb; simp; omega
  · intro n b hb
    by_cases hne : n = h.length
    · subst hne; simp
    · rw [upd_ne β _ hne] at hb; have := hR.out n b hb; simp; omega
  · intro n n' b hb hb'
    by_cases hne : n = h.length
    · by_cases hne' : n' = h.length
      · omega
      · subst hne
        rw [upd_same] at hb; rw [upd_ne β _ hne'] at hb'
        simp at hb; subst hb
        exact absurd (hR.lt _ _ hb') (by omega)
    · rw [upd_ne β _ hne] at hb
      by_cases hne' : n' = h.length
      · subst hne'
        rw [upd_same] at hb'; simp at hb'; subst hb'
        exact absurd (hR.lt _ _ hb) (by omega)
      · rw [upd_ne β _ hne'] at hb'; exact hR.inj n n' b hb hb'
  · intro n b o hb hF
    by_cases hne : n = h.length
    · subst hne; rw [upd_same] at hb; simp at hb; subst hb
      exact absurd (hR.cell _ _ hF) (by omega)
    · rw [upd_ne β _ hne] at hb; exact hR.apart n b o hb hF
  · intro b o hF hnF; exact absurd hF hnF

/-- new memory that is frozen from the first: the abstract heap knows nothing of it -/
theorem frozen_after (hR : Rel RP β F h w) (o : Obj) (hw : w'.heap = w.heap.push o) (hs : Beside w w') :
    Rel RP β (fun b o => F b o ∨ b = w.heap.size) h w' ∧ Ext (fun _ => False) β F h w β (fun b o => F b o ∨ b = w.heap.size) h w' := by
  have hE : Ext (fun _ => False) β F h w β (fun b o => F b o ∨ b = w.heap.size) h w' := {
    len := Nat.le_refl _
    blk := fun n B' hB' => ⟨B', hB', .inl ⟨Kept.refl _, rfl, fun b hb => by unfold sizeAt; rw [hw, push_get (hR.lt n b hb)]⟩⟩
    frz := fun _ _ hf => .inl hf
    old := fun b hb _ => by rw [hw, push_get hb]
    size := by rw [hw]; simp
    news := fun n b hn => .inl ⟨hn, hR.out n b hn⟩
    newF := fun b o hf => by rcases hf with h0 | h0; exact .inl h0; right; omega
    none_ := fun n _ hn => ⟨hn, rfl⟩
    os := hs.os
    output := hs.output
    tape := hs.tape }
  refine ⟨Rel.step hE hR ?_ ?_ hR.out hR.inj ?_ ?_, hE⟩
  · intro n b B hb hB hnc; exact absurd ⟨hb, hB, fun h => h⟩ hnc
  · intro n b hb; rw [hw]; have := hR.lt n b hb; simp; omega
  · intro n b o hb hF
    rcases hF with hF | hF
    · exact hR.apart n b o hb hF
    · have := hR.lt n b hb; omega
  · intro b o hF hnF
    rcases hF with hF | hF
    · exact absurd hF hnF
    · rw [hw, hF]; simp

/-- a world in which nothing of the heap turned -/
theorem same_after (hR : Rel RP β F h w) (hw : w'.heap = w.heap) (hs : Beside w w') : Rel RP β F h w' ∧ Ext (fun _ => False) β F h w β F h w' := by
  have hE : Ext (fun _ => False) β F h w β F h w' := {
    len := Nat.le_refl _
    blk := fun n B' hB' => ⟨B', hB', .inl ⟨Kept.refl _, rfl, fun b hb => by unfold sizeAt; rw [hw]⟩⟩
    frz := fun _ _ hf => hf
    old := fun b hb _ => by rw [hw]
    size := by rw [hw]; exact Nat.le_refl _
    news := fun n b hn => .inl ⟨hn, hR.out n b hn⟩
    newF := fun b o hf => .inl hf
    none_ := fun n _ hn => ⟨hn, rfl⟩
    os := hs.os
    output := hs.output
    tape := hs.tape }
  refine ⟨Rel.step hE hR ?_ ?_ hR.out hR.inj hR.apart ?_, hE⟩
  · intro n b B hb hB hnc; exact absurd ⟨hb, hB, fun h => h⟩ hnc
  · intro n b hb; rw [hw]; exact hR.lt n b hb
  · intro b o hF hnF; exact absurd hF hnF
end
end Go.Eng

/- The engine, part F2: stores. -/
namespace Go.Eng
set_option linter.unusedSectionVars false
set_option linter.unusedSimpArgs false

section
variable {RP : RPred} {β : Beta} {h : Heap} {F : Frz} {w w' : World} {P : Program} {C : Cfg} {f : Nat}

/-- one block's cells turned, from a place on -/
structure Wrote (w : World) (b off : Nat) (vs : List Value) (us : Array Value) (el : TypeId) (fr : Nat × Nat) (w' : World) (us' : Array Value) : Prop where
  here : w'.heap[b]? = some (.cells us' el fr)
  size : us'.size = us.size
  get : ∀ k, us'[k]? = if off ≤ k ∧ k < off + vs.length then vs[k - off]? else us[k]?
  other : ∀ b', b' ≠ b → w'.heap[b']? = w.heap[b']?
  heap : w'.heap.size = w.heap.size
  side : Beside w w'

theorem V.oneCell {c : AV} {u : Value} (hv : V β h F w c u) (ho : c.one = true) : u.oneCell' = true := by
  cases hv <;> first | rfl | simp [AV.one] at ho

theorem storeCells_run {b : Nat} {el : TypeId} {fr : Nat × Nat} {a : Addr} (hs : a.spot = none) (hb : a.block = b) : ∀ (vs : List Value) (i : Nat) (w : World) (us : Array Value),
    w.heap[b]? = some (.cells us el fr) → Free us fr → (∀ v ∈ vs, v.oneCell' = true) → a.off + i + vs.length ≤ us.size →
    ∃ w' us', (storeCells a vs i).run P w = .ok () w' ∧ Wrote w b (a.off + i) vs us el fr w' us'
  | [], i, w, us, hw, _, _, _ => ⟨w, us, by simp [storeCells], hw, rfl, fun k => by rw [if_neg (by simp)], fun _ _ => rfl, rfl, Beside.refl w⟩
  | v :: vs, i, w, us, hw, hfr, hv, hle => by
    have hlt : a.off + i < us.size := by simp at hle; omega
    have hcell : w.cell? (a.add i) = some us[a.off + i] := by
      rw [add_none hs]; simp [World.cell?, hb, hw, hlt]
    have hfz : w.frozen? (a.add i) = false := by
      rw [add_none hs]
      simp only [World.frozen?, hb, hw]
      have := hfr (a.off + i) hlt
      simp; omega
    have h1 : (store (a.add i) v).run P w = .ok () (w.setCell (a.add i) v) := by
      rw [run_store P w _ v _ (hv v (by simp)), hcell]
      simp [hfz]
    have hbsz : b < w.heap.size := (Array.getElem?_eq_some_iff.1 hw).1
    have hw1 : (w.setCell (a.add i) v).heap[b]? = some (.cells (us.setIfInBounds (a.off + i) v) el fr) := by
      rw [add_none hs]
      simp only [World.setCell, hb]
      rw [Array.getElem?_modify]
      simp [hw]
    have hfr1 : Free (us.setIfInBounds (a.off + i) v) fr := fun o ho => hfr o (by simpa using ho)
    obtain ⟨w', us', h2, hW⟩ := storeCells_run hs hb vs (i + 1) (w.setCell (a.add i) v) (us.setIfInBounds (a.off + i) v) hw1 hfr1 (fun x hx => hv x (by simp [hx])) (by simp at hle ⊢; omega)
    refine ⟨w', us', by simp only [storeCells, Sem.run_bind, h1, Result.andThen_ok, h2], hW.here, by rw [hW.size]; simp, fun k => ?_, fun b' hb' => ?_, ?_, ?_⟩
    · rw [hW.get]
      by_cases hk : k = a.off + i
      · subst hk
        rw [if_neg (by omega), if_pos (by simp)]
        simp [hlt]
      · by_cases hin : a.off + (i + 1) ≤ k ∧ k < a.off + (i + 1) + vs.length
        · rw [if_pos hin, if_pos (by simp; omega)]
          have e : k - (a.off + i) = (k - (a.off + (i + 1))) + 1 := by omega
          rw [e, List.getElem?_cons_succ]
        · rw [if_neg hin, if_neg (by simp; omega)]
          rw [Array.getElem?_setIfInBounds_ne (by omega)]
    · rw [hW.other b' hb', add_none hs]
      simp only [World.setCell, hb]
      rw [Array.getElem?_modify, if_neg (fun e => hb' e.symm)]
    · rw [hW.heap]; simp [World.setCell]
    · exact ⟨hW.side.os, hW.side.output, hW.side.tape⟩

/-- a block's elements turned -/
theorem write_after (hR : Rel RP β F h w) {n b ver e : Nat} {g : Bool} {es es' : List AV} {us us' : Array Value} {el : TypeId} {fr : Nat × Nat} (hb : β n = some b) (hh : h[n]? = some (.cells ver e g es))
    (hw : w.heap[b]? = some (.cells us el fr)) (hfr : Free us fr) (hg : g = false → us.size = es.length * e) (hfit : es.length * e ≤ us.size) (hl : es'.length = es.length) (helt : ∀ x ∈ es', x.cells.length = e)
    (hw' : w'.heap[b]? = some (.cells us' el fr)) (hsz : us'.size = us.size) (hoth : ∀ b', b' ≠ b → w'.heap[b']? = w.heap[b']?) (hhs : w'.heap.size = w.heap.size) (hs : Beside w w')
    (hc : ∀ (j : Nat) (c : AV), (flatC es')[j]? = some c → ∃ u, us'[j]? = some u ∧ V β h F w c u) :
    Rel RP β F (h.set n (.cells ver e g es')) w' ∧ Ext (fun m => m = n) β F h w β F (h.set n (.cells ver e g es')) w' := by
  have hn : n < h.length := (List.getElem?_eq_some_iff.1 hh).1
  have hE : Ext (fun m => m = n) β F h w β F (h.set n (.cells ver e g es')) w' := {
    len := by simp
    blk := fun m B hB => by
      by_cases hm : m = n
      · subst hm
        rw [hh] at hB; simp at hB; subst hB
        refine ⟨_, List.getElem?_set_self hn, .inl ⟨by simp [Kept, hl], rfl, fun b' hb' => ?_⟩⟩
        rw [hb] at hb'; simp at hb'; subst hb'
        simp [sizeAt, hw, hw', hsz]
      · refine ⟨B, by rw [List.getElem?_set_ne (Ne.symm hm)]; exact hB, .inl ⟨Kept.refl _, rfl, fun b' hb' => ?_⟩⟩
        have : b' ≠ b := fun he => hm (hR.inj m n b' hb' (he ▸ hb))
        simp [sizeAt, hoth b' this]
    frz := fun _ _ hf => hf
    old := fun b' _ hW => hoth b' fun he => hW n rfl (he ▸ hb)
    size := by omega
    news := fun m b' hm => .inl ⟨hm, hR.out m b' hm⟩
    newF := fun _ _ hf => .inl hf
    none_ := fun m hl hm => ⟨hm, by rw [List.getElem?_set_ne]; intro he; subst he; rw [hb] at hm; simp at hm⟩
    os := hs.os
    output := hs.output
    tape := hs.tape }
  refine ⟨Rel.step hE hR ?_ ?_ (fun m b' hm => by simpa using hR.out m b' hm) hR.inj hR.apart ?_, hE⟩
  · intro m b' B hm hB hnc
    by_cases hmn : m = n
    · subst hmn
      rw [hb] at hm; simp at hm; subst hm
      rw [List.getElem?_set_self hn] at hB; simp at hB; subst hB
      refine ⟨us', el, fr, hw', fun o ho => hfr o (by omega), helt, fun h0 => by rw [hsz, hl]; exact hg h0, by rw [hsz, hl]; exact hfit, fun j c hj => ?_⟩
      obtain ⟨u, hu, hv⟩ := hc j c hj
      exact ⟨u, hu, hv.ext hE hR⟩
    · rw [List.getElem?_set_ne (Ne.symm hmn)] at hB
      exact absurd ⟨hm, hB, hmn⟩ hnc
  · intro m b' hm; rw [hhs]; exact hR.lt m b' hm
  · intro b' o hF hnF; exact absurd hF hnF

/-- the cells of a row in which one element was turned -/
theorem flatC_set {es : List AV} {e : Nat} (he : ∀ x ∈ es, x.cells.length = e) {i : Nat} (hi : i < es.length) {y : AV} (hy : y.cells.length = e) (k : Nat) :
    (flatC (es.set i y))[k]? = if i * e ≤ k ∧ k < i * e + e then y.cells[k - i * e]? else (flatC es)[k]? := by
  have h1 : flatC (es.set i y) = splice (flatC es) (i * e) y.cells := by
    have : es.set i y = es.take i ++ y :: es.drop (i + 1) := List.set_eq_take_append_cons_drop.trans (by rw [if_pos hi])
    rw [this]
    have hfl : flatC (es.take i ++ y :: es.drop (i + 1)) = flatC (es.take i) ++ y.cells ++ flatC (es.drop (i + 1)) := by simp [flatC]
    rw [hfl]
    unfold splice
    have ht : flatC (es.take i) = (flatC es).take (i * e) := by
      have hsplit : flatC es = flatC (es.take i) ++ flatC (es.drop i) := by
        simp only [flatC, ← List.flatten_append, ← List.map_append, List.take_append_drop]
      have hl : (flatC (es.take i)).length = i * e := by
        rw [flatC_length (e := e) (fun x hx => he x (List.mem_of_mem_take hx)), List.length_take, Nat.min_eq_left (by omega)]
      rw [hsplit, List.take_left' hl]
    rw [ht, flatC_drop_take he, hy, Nat.add_mul, Nat.one_mul]
  have hlen := flatC_length he
  rw [h1, splice_get (by rw [hlen, hy, ← Nat.succ_mul]; exact Nat.mul_le_mul_right _ hi), hy]

theorem storeA_sound (hR : Rel RP β F h w) {t : TypeId} {sz : Nat} (hs : szOf P t = some sz) {a v : AV} {ua uv : Value} (hva : V β h F w a ua) (hvv : V β h F w v uv) {n : Nat} {h' : Heap}
    (hst : storeA h sz a v = some (n, h')) : ∃ w', (Instr.storeAt t ua uv).run P w = .ok () w' ∧ Rel RP β F h' w' ∧ Ext (fun m => m = n) β F h w β F h' w' := by
  unfold storeA at hst
  cases a <;> simp only [reduceCtorEq] at hst
  rename_i n0 ver i o
  cases hl : look h n0 ver with
  | none => rw [hl] at hst; simp at hst
  | some q =>
    obtain ⟨e, g, es⟩ := q
    rw [hl] at hst; dsimp only at hst
    cases hi : es[i]? with
    | none => rw [hi] at hst; simp at hst
    | some x =>
      rw [hi] at hst; dsimp only at hst
      split at hst
      · simp at hst
      · rename_i hcond
        simp only [not_or, ne_eq, Decidable.not_not, Bool.not_eq_false] at hcond
        obtain ⟨hvl, hone⟩ := hcond
        have hh := look_eq hl
        obtain ⟨b, rfl, hb⟩ := hva.ptr_inv hl
        obtain ⟨us, el, fr, hw, hfr, hg, hC⟩ := hR.cells hb hh
        have hx : x.cells.length = e := hC.elt x (List.mem_of_getElem? hi)
        have hil : i < es.length := (List.getElem?_eq_some_iff.1 hi).1
        have hie : i * e + e ≤ es.length * e := by rw [← Nat.succ_mul]; exact Nat.mul_le_mul_right _ hil
        have hvc := hvv.cells
        have huone : ∀ y ∈ uv.cells.toList, y.oneCell' = true := fun y hy => by
          obtain ⟨j, hj, hje⟩ := List.mem_iff_getElem.1 hy
          have hjl : j < v.cells.length := by rw [hvc.len]; simpa using hj
          have := hvc.val j _ y (List.getElem?_eq_getElem hjl) (by rw [← hje]; simp [List.getElem?_eq_getElem] at hj ⊢)
          exact this.oneCell (List.all_eq_true.1 hone _ (List.getElem_mem hjl))
        have hul : uv.cells.toList.length = sz := by rw [← hvl, hvc.len]; simp
        have main : ∀ (y : AV), o + sz ≤ e → y.cells = splice x.cells o v.cells → n = n0 → h' = h.set n0 (.cells ver e g (es.set i y)) → ∃ w', (Instr.storeAt t (.pointer (some ⟨b, i * e + o, none⟩)) uv).run P w = .ok () w' ∧ Rel RP β F h' w' ∧ Ext (fun m => m = n) β F h w β F h' w' := by
          rintro y hoe hy rfl rfl
          obtain ⟨w', us', hrun, hW⟩ := storeCells_run (P := P) (a := ⟨b, i * e + o, none⟩) rfl rfl uv.cells.toList 0 w us hw hfr huone (by
            simp only [Nat.add_zero]; rw [hul]; have := hC.fit; omega)
          have hyl : y.cells.length = e := by rw [hy, splice_length (by rw [hvl, hx]; exact hoe), hx]
          refine ⟨w', ?_, write_after hR hb hh hw hfr hg hC.fit (by simp) (fun z hz => ?_) hW.here hW.size hW.other hW.heap hW.side fun j c hj => ?_⟩
          · simp only [Instr.storeAt, Instr.sureAddr, pure_bind, storeVar, Sem.run_bind, szOf_run hs, Result.andThen_ok]
            have : ¬ (uv.cells.size ≠ sz) := by rw [← hvl, hvc.len]; simp
            simp [this, hrun]
          · rcases List.mem_or_eq_of_mem_set hz with h0 | h0
            · exact hC.elt z h0
            · subst h0; exact hyl
          · rw [flatC_set hC.elt hil hyl] at hj
            rw [hW.get]
            simp only [Nat.add_zero]
            rw [hul]
            split at hj
            · rename_i hjr
              rw [hy, splice_get (by rw [hvl, hx]; exact hoe), hvl] at hj
              split at hj
              · rename_i hjv
                rw [if_pos (by omega)]
                have e2 : j - (i * e + o) = j - i * e - o := by omega
                rw [e2]
                have hlt : j - i * e - o < uv.cells.toList.length := by rw [hul]; omega
                refine ⟨_, List.getElem?_eq_getElem hlt, hvc.val _ c _ hj ?_⟩
                simp
              · rename_i hjv
                rw [if_neg (by omega)]
                obtain ⟨u, hu, hv⟩ := hC.val i x (j - i * e) c hi hj
                exact ⟨u, by rw [← hu]; congr 1; omega, hv⟩
            · rename_i hjr
              rw [if_neg (by omega)]
              have hjl : j < es.length * e := by rw [← flatC_length hC.elt]; exact (List.getElem?_eq_some_iff.1 hj).1
              obtain ⟨us2, _, _, hw2, _, _, _, _, hv2⟩ := hR.blk n b _ hb hh
              rw [hw] at hw2; simp at hw2; obtain ⟨rfl, _, _⟩ := hw2
              exact hv2 j c hj
        split at hst
        · rename_i ho
          obtain ⟨rfl, rfl⟩ := ho
          simp at hst
          refine main v (by omega) ?_ hst.1.symm hst.2.symm
          have : splice x.cells 0 v.cells = v.cells := by
            unfold splice
            rw [show 0 + v.cells.length = x.cells.length by omega]
            simp
          rw [this]
        · split at hst
          · rename_i hoe
            simp at hst
            exact main (.agg (splice x.cells o v.cells)) hoe rfl hst.1.symm hst.2.symm
          · simp at hst
end
end Go.Eng

/- The engine, part F3: append. -/
namespace Go.Eng
set_option linter.unusedSectionVars false
set_option linter.unusedSimpArgs false

section
variable {RP : RPred} {β : Beta} {h : Heap} {F : Frz} {w w' : World} {P : Program} {C : Cfg} {f : Nat}

theorem src_sound (hR : Rel RP β F h w) {sz : Nat} {y : AV} {ys : List AV} (he : srcA h sz y = some ys) {u : Value} (hy : V β h F w y u) :
    (∀ x ∈ ys, x.cells.length = sz) ∧ (Builtin.lenOf u).run P w = .ok ys.length w ∧ ∀ k, k ≤ ys.length → ∃ us : Array Value, CellsV β h F w (flatC (ys.take k)) us ∧ (Builtin.firstCells sz k u).run P w = .ok us w := by
  unfold srcA at he
  split at he
  · rename_i s
    split at he
    · rename_i h1
      subst h1
      simp at he; subst he
      cases hy with
      | str s =>
        refine ⟨?_, ?_, ?_⟩
        · intro x hx; simp at hx; obtain ⟨b, _, rfl⟩ := hx; rfl
        · simp [Builtin.lenOf, ByteArray.size]
        · intro k hk
          have hfl : flatC ((s.map fun b => AV.int .u8 (b.toNat : Int)).take k) = (s.take k).map fun b => AV.int .u8 (b.toNat : Int) := by
            rw [← List.map_take]
            generalize s.take k = l
            induction l with
            | nil => rfl
            | cons b l ih =>
              simp only [List.map_cons]
              have : flatC (AV.int .u8 (b.toNat : Int) :: l.map fun b => AV.int .u8 (b.toNat : Int)) = [AV.int .u8 (b.toNat : Int)] ++ flatC (l.map fun b => AV.int .u8 (b.toNat : Int)) := by simp [flatC, AV.cells]
              rw [this, ih]; rfl
          refine ⟨((s.take k).map fun b => Value.int .u8 (b.toNat : Int)).toArray, ?_, ?_⟩
          · rw [hfl]
            refine ⟨by simp, fun j c u hc hu => ?_⟩
            simp only [List.getElem?_map, Option.map_eq_some_iff, List.getElem?_toArray] at hc hu
            obtain ⟨b, hb, rfl⟩ := hc
            obtain ⟨b', hb', rfl⟩ := hu
            rw [hb] at hb'; simp at hb'; subst hb'
            exact .int _ _
          · simp only [Builtin.firstCells, Sem.run_pure]
            congr 1
            rw [ByteArray.extract_mk]
            simp
    · simp at he
  · obtain ⟨hz, a, c, rfl, hld⟩ := elems_load (P := P) hR he hy
    refine ⟨hz, by simp [Builtin.lenOf], fun k hk => ?_⟩
    obtain ⟨us, h1, h2, h3⟩ := hld k hk
    refine ⟨us, h1, ?_⟩
    cases a with
    | some ad => simpa [Builtin.firstCells] using h3 ad rfl
    | none =>
      rcases h2 with h0 | ⟨ad, h0, _⟩
      · subst h0
        have hl := h1.len
        simp [flatC] at hl
        have : us = #[] := by
          apply Array.ext <;> simp [← hl]
        subst this
        simp [Builtin.firstCells]
      · simp at h0

/-- the model's bound on a new capacity -/
theorem nextcap_le {need cap : Nat} (hc : cap < need) : Builtin.nextslicecap need cap ≤ 2 * need + 256 := by
  have hg : ∀ (k c : Nat), c ≤ 2 * need + 256 → Builtin.growBy need k c ≤ 2 * need + 256 := by
    intro k
    induction k with
    | zero => intro c hc; simpa [Builtin.growBy] using hc
    | succ k ih =>
      intro c hc
      simp only [Builtin.growBy]
      split
      · exact hc
      · exact ih _ (by omega)
  unfold Builtin.nextslicecap
  split
  · omega
  · split
    · omega
    · exact hg 4 cap (by omega)

/-- what a claim's program is asked, in closed facts -/
structure ProgOK (P : Program) : Prop where
  types : TypesOK P
  fields : FieldsOK P
  zero : ∀ (t : TypeId) (i : TypeInfo) (z : Value), t < P.types.size → P.info? t = some i → i.zero = some z → z.cells.size = i.size

theorem zeroOf_cells (hP : ProgOK P) {t : TypeId} {z : AV} (hz : zeroOf P t = some z) {sz : Nat} (hs : szOf P t = some sz) : ∃ v, (zeroValue t).run P w = .ok v w ∧ ofValue v = some z ∧ v.cells.size = sz := by
  obtain ⟨ht, i, hi, v, hv, e⟩ := zeroOf_inv hz
  simp only [szOf, hi, Option.map_some, Option.some.injEq] at hs
  exact ⟨v, by simp [zeroValue, typeInfo, hi, hv], e, by rw [hP.zero t i v ht hi hv, hs]⟩

theorem zeroCells_size (z : Array Value) (n : Nat) : (Builtin.zeroCells z n).size = n * z.size := by simp [Builtin.zeroCells]

theorem bytes_run {t : TypeId} {sz : Nat} (hs : szOf P t = some sz) (w : World) : (typeInfo t).run P w = .ok ((P.info? t).getD default) w ∧ ((P.info? t).getD default).bytes = P.bytesOf t ∧ ((P.info? t).getD default).size = sz := by
  obtain ⟨i, hi, hz⟩ := szOf_underlying hs
  simp [typeInfo, hi, Program.bytesOf, hz]

/-- the two ways of an append -/
theorem append_run (hP : ProgOK P) (hR : Rel RP β F h w) {ts : Array TypeId} {ty t0 e : TypeId} {sz : Nat} (ht0 : ts[0]? = some t0) (ht : P.underlying t0 = some (.slice e)) (hs : szOf P e = some sz) (hi : intTy P ts[1]? = false) (hb0 : P.bytesOf e ≠ 0)
    {z : AV} (hz : zeroOf P e = some z) {A : Option Addr} {sLen sCap : Nat} {y : AV} {ys : List AV} (he : srcA h sz y = some ys) {uy : Value} (hy : V β h F w y uy) :
    (sLen + ys.length ≤ sCap → ∃ us, CellsV β h F w (flatC ys) us ∧ (Builtin.append_ ts ty #[.slice A sLen sCap, uy]).run P w =
      ((match A with | some a => storeCells (a.add (sLen * sz)) us.toList | none => pure ()).run P w).andThen fun _ w' => .ok (.slice A (sLen + ys.length) sCap) w') ∧
    (sCap < sLen + ys.length → (2 * (sLen + ys.length) + 256) * P.bytesOf e ≤ 2 ^ 48 → ∀ (xs : List AV) (x : AV), elems h sz x = some xs → V β h F w x (.slice A sLen sCap) →
      ∃ us cap w', CellsV β h F w (flatC (xs ++ ys)) us ∧ sLen + ys.length ≤ cap ∧ w'.os = w.os ∧ w'.output = w.output ∧ w'.tape = w.tape ∧ (∃ rest : Array Value, rest.size = (cap - (sLen + ys.length)) * sz ∧ w'.heap = w.heap.push (.cells (us ++ rest) e (0, 0))) ∧
        (Builtin.append_ ts ty #[.slice A sLen sCap, uy]).run P w = .ok (.slice (some ⟨w.heap.size, 0, none⟩) (sLen + ys.length) cap) w') := by
  obtain ⟨hyz, hlen, hfirst⟩ := src_sound (P := P) hR he hy
  obtain ⟨us0, hus0, hf0⟩ := hfirst ys.length (Nat.le_refl _)
  rw [List.take_length] at hus0
  -- the type of what is appended is no integer
  obtain ⟨t1, h1, hd⟩ : ∃ t1, ts[1]? = some t1 ∧ ((∃ e', P.underlying t1 = some (.slice e')) ∨ P.underlying t1 = some .string) := by
    unfold intTy at hi
    cases h1 : ts[1]? with
    | none => rw [h1] at hi; simp at hi
    | some t1 =>
      rw [h1] at hi; dsimp only at hi
      split at hi
      · rename_i e' hd; exact ⟨t1, rfl, .inl ⟨e', hd⟩⟩
      · rename_i hd; exact ⟨t1, rfl, .inr hd⟩
      · simp at hi
  constructor
  · intro hle
    refine ⟨us0, hus0, ?_⟩
    rcases hd with ⟨e', hd⟩ | hd
    all_goals
      simp only [Builtin.append_, ht0]
      simp only [List.getElem?_toArray, List.getElem?_cons_zero, List.getElem?_cons_succ, Sem.run_bind, run_underlying ht, Result.andThen_ok, szOf_run hs, h1, run_underlying hd, Sem.run_pure, Bool.false_eq_true, if_false, hlen, hle, if_true, Bool.not_false, hf0]
      cases A with
      | none => simp only [Sem.run_bind, Sem.run_pure, Result.andThen_ok]
      | some a => simp only [Sem.run_bind, Sem.run_pure]
  · intro hlt hbound xs x hx hvx
    obtain ⟨hxz, a', c', hxe, hxl⟩ := elems_load (P := P) hR hx hvx
    have hxl0 : xs.length = sLen := by simp at hxe; omega
    -- behind the draw
    have hcap0 := nextcap_le hlt
    have hnb : ¬ (Builtin.nextslicecap (sLen + ys.length) sCap * P.bytesOf e > 2 ^ 48) := by
      have := Nat.mul_le_mul_right (P.bytesOf e) hcap0
      omega
    obtain ⟨b1, b2, b3⟩ := bytes_run hs w
    generalize hw1 : ({ w with drawn := w.drawn + 1 } : World) = w1
    have hw1h : w1.heap = w.heap := by rw [← hw1]
    have hS1 : Beside w w1 := by rw [← hw1]; exact ⟨rfl, rfl, rfl⟩
    obtain ⟨hR1, hE1⟩ := same_after hR hw1h hS1
    obtain ⟨hyz1, hlen1, hfirst1⟩ := src_sound (P := P) hR1 he (hy.ext hE1 hR)
    obtain ⟨usy, husy, hfy⟩ := hfirst1 ys.length (Nat.le_refl _)
    rw [List.take_length] at husy
    have hsrcx : srcA h sz x = some xs := by
      cases x <;> first | exact hx | simp [elems] at hx
    obtain ⟨hxz1, hlenx, hfirstx⟩ := src_sound (P := P) hR1 hsrcx (hvx.ext hE1 hR)
    obtain ⟨usx, husx, hfx⟩ := hfirstx xs.length (Nat.le_refl _)
    rw [List.take_length] at husx
    rw [hxl0] at hfx
    obtain ⟨zv, hzr, hzo, hzs⟩ := zeroOf_cells (w := w1) hP hz hs
    let q : Question := .appendCap (sLen + ys.length) sCap e
    let cap := q.cut (w.tape w.drawn q)
    have hcapge : sLen + ys.length ≤ cap := by
      show sLen + ys.length ≤ (sLen + ys.length) + _
      omega
    refine ⟨usx ++ usy, cap, { w1 with heap := w1.heap.push (.cells (usx ++ usy ++ Builtin.zeroCells zv.cells (cap - (sLen + ys.length))) e (0, 0)) }, ?_, hcapge, hS1.os, hS1.output, hS1.tape, ⟨_, by rw [zeroCells_size, hzs], by simp only [hw1h]⟩, ?_⟩
    · have hfl : flatC (xs ++ ys) = flatC xs ++ flatC ys := by simp [flatC]
      rw [hfl]
      refine ⟨by simp [husx.len, husy.len], fun j c u hc hu => ?_⟩
      have hb : ∀ {v u}, V β h F w1 v u → V β h F w v u := fun {v u} hv => by
        obtain ⟨_, hE2⟩ := same_after (w' := w) hR1 hw1h.symm ⟨hS1.os.symm, hS1.output.symm, hS1.tape.symm⟩
        exact hv.ext hE2 hR1
      by_cases hj : j < (flatC xs).length
      · rw [List.getElem?_append_left hj] at hc
        rw [Array.getElem?_append_left (by rw [← husx.len]; exact hj)] at hu
        exact hb (husx.val j c u hc hu)
      · rw [List.getElem?_append_right (by omega)] at hc
        rw [Array.getElem?_append_right (by rw [← husx.len]; omega), ← husx.len] at hu
        exact hb (husy.val _ c u hc hu)
    · have hnle : ¬ (sLen + ys.length ≤ sCap) := by omega
      have hforced : q.forced = false := rfl
      have hq : ∀ (w2 : World), w2 = { w with drawn := w.drawn + 1 } → w2 = w1 := fun w2 h => h.trans hw1
      rcases hd with ⟨e', hd⟩ | hd
      all_goals
        simp only [Builtin.append_, ht0]
        simp only [List.getElem?_toArray, List.getElem?_cons_zero, List.getElem?_cons_succ, Sem.run_bind, run_underlying ht, Result.andThen_ok, szOf_run hs, h1, run_underlying hd, Sem.run_pure, Bool.false_eq_true, if_false, hlen, hnle, b1, b2, hb0, or_self, and_false, hnb, run_choose]
        have hfc : (Question.appendCap (sLen + ys.length) sCap e).forced = false := rfl
        simp only [hfc, Bool.false_eq_true, if_false, Result.andThen_ok]
        rw [show ({ heap := w.heap, tape := w.tape, drawn := w.drawn + 1, os := w.os, output := w.output } : World) = w1 from hw1]
        simp only [(bytes_run hs w1).1, Result.andThen_ok, run_askRoom, hfx, Bool.not_false, if_true, hfy, hzr, newRow, Sem.run_bind, run_newObj, Sem.run_pure, hw1h]
        rfl
end
end Go.Eng

/- The engine, part F4: rows that grow. -/
namespace Go.Eng
set_option linter.unusedSectionVars false
set_option linter.unusedSimpArgs false

section
variable {RP : RPred} {β : Beta} {h : Heap} {F : Frz} {w w' : World} {P : Program} {C : Cfg} {f : Nat}

/-- a growing block goes on in a new array -/
theorem regrow_after (hR : Rel RP β F h w) {n b ver e : Nat} {es es' : List AV} {us : Array Value} {el : TypeId} (hb : β n = some b) (hh : h[n]? = some (.cells ver e true es))
    (hw : w'.heap = w.heap.push (.cells us el (0, 0))) (hs : Beside w w') (helt : ∀ x ∈ es', x.cells.length = e) (hfit : es'.length * e ≤ us.size)
    (hc : ∀ (j : Nat) (c : AV), (flatC es')[j]? = some c → ∃ u, us[j]? = some u ∧ V β h F w c u) :
    Rel RP (upd β n w.heap.size) F (h.set n (.cells (ver + 1) e true es')) w' ∧ Ext (fun m => m = n) β F h w (upd β n w.heap.size) F (h.set n (.cells (ver + 1) e true es')) w' := by
  have hn : n < h.length := (List.getElem?_eq_some_iff.1 hh).1
  have hE : Ext (fun m => m = n) β F h w (upd β n w.heap.size) F (h.set n (.cells (ver + 1) e true es')) w' := {
    len := by simp
    blk := fun m B hB => by
      by_cases hm : m = n
      · subst hm
        rw [hh] at hB; simp at hB; subst hB
        exact ⟨_, List.getElem?_set_self hn, .inr (by simp [Turned])⟩
      · refine ⟨B, by rw [List.getElem?_set_ne (Ne.symm hm)]; exact hB, .inl ⟨Kept.refl _, upd_ne β _ hm, fun b' hb' => ?_⟩⟩
        unfold sizeAt
        rw [hw, push_get (hR.lt m b' hb')]
    frz := fun _ _ hf => hf
    old := fun b' hb' _ => by rw [hw, push_get hb']
    size := by rw [hw]; simp
    news := fun m b' hm => by
      by_cases hmn : m = n
      · subst hmn; rw [upd_same] at hm; simp at hm; right; omega
      · rw [upd_ne β _ hmn] at hm; exact .inl ⟨hm, hR.out m b' hm⟩
    newF := fun _ _ hf => .inl hf
    none_ := fun m hl hm => by
      have hmn : m ≠ n := by intro he; subst he; rw [hb] at hm; simp at hm
      exact ⟨by rw [upd_ne β _ hmn]; exact hm, by rw [List.getElem?_set_ne (Ne.symm hmn)]⟩
    os := hs.os
    output := hs.output
    tape := hs.tape }
  refine ⟨Rel.step hE hR ?_ ?_ ?_ ?_ ?_ ?_, hE⟩
  · intro m b' B hm hB hnc
    by_cases hmn : m = n
    · subst hmn
      rw [upd_same] at hm; simp at hm; subst hm
      rw [List.getElem?_set_self hn] at hB; simp at hB; subst hB
      refine ⟨us, el, (0, 0), by rw [hw]; exact push_last, fun o _ => by simp, helt, by simp, hfit, fun j c hj => ?_⟩
      obtain ⟨u, hu, hv⟩ := hc j c hj
      exact ⟨u, hu, hv.ext hE hR⟩
    · rw [upd_ne β _ hmn] at hm
      rw [List.getElem?_set_ne (Ne.symm hmn)] at hB
      exact absurd ⟨hm, hB, hmn⟩ hnc
  · intro m b' hm
    rw [hw]
    by_cases hmn : m = n
    · subst hmn; rw [upd_same] at hm; simp at hm; subst hm; simp
    · rw [upd_ne β _ hmn] at hm; have := hR.lt m b' hm; simp; omega
  · intro m b' hm
    by_cases hmn : m = n
    · subst hmn; simpa using hn
    · rw [upd_ne β _ hmn] at hm; simpa using hR.out m b' hm
  · intro m m' b' hm hm'
    by_cases hmn : m = n
    · by_cases hmn' : m' = n
      · omega
      · subst hmn
        rw [upd_same] at hm; rw [upd_ne β _ hmn'] at hm'
        simp at hm; subst hm
        exact absurd (hR.lt _ _ hm') (by omega)
    · rw [upd_ne β _ hmn] at hm
      by_cases hmn' : m' = n
      · subst hmn'
        rw [upd_same] at hm'; simp at hm'; subst hm'
        exact absurd (hR.lt _ _ hm) (by omega)
      · rw [upd_ne β _ hmn'] at hm'; exact hR.inj m m' b' hm hm'
  · intro m b' o hm hF
    by_cases hmn : m = n
    · subst hmn; rw [upd_same] at hm; simp at hm; subst hm
      exact absurd (hR.cell _ _ hF) (by omega)
    · rw [upd_ne β _ hmn] at hm; exact hR.apart m b' o hm hF
  · intro b' o hF hnF; exact absurd hF hnF

/-- a growing block goes on in its own array -/
theorem grow_after (hR : Rel RP β F h w) {n b ver e : Nat} {es es' : List AV} {us us' : Array Value} {el : TypeId} {fr : Nat × Nat} (hb : β n = some b) (hh : h[n]? = some (.cells ver e true es))
    (_hw : w.heap[b]? = some (.cells us el fr)) (hfr : Free us fr) (helt : ∀ x ∈ es', x.cells.length = e)
    (hw' : w'.heap[b]? = some (.cells us' el fr)) (hsz : us'.size = us.size) (hoth : ∀ b', b' ≠ b → w'.heap[b']? = w.heap[b']?) (hhs : w'.heap.size = w.heap.size) (hs : Beside w w')
    (hfit : es'.length * e ≤ us'.size) (hc : ∀ (j : Nat) (c : AV), (flatC es')[j]? = some c → ∃ u, us'[j]? = some u ∧ V β h F w c u) :
    Rel RP β F (h.set n (.cells (ver + 1) e true es')) w' ∧ Ext (fun m => m = n) β F h w β F (h.set n (.cells (ver + 1) e true es')) w' := by
  have hn : n < h.length := (List.getElem?_eq_some_iff.1 hh).1
  have hE : Ext (fun m => m = n) β F h w β F (h.set n (.cells (ver + 1) e true es')) w' := {
    len := by simp
    blk := fun m B hB => by
      by_cases hm : m = n
      · subst hm
        rw [hh] at hB; simp at hB; subst hB
        exact ⟨_, List.getElem?_set_self hn, .inr (by simp [Turned])⟩
      · refine ⟨B, by rw [List.getElem?_set_ne (Ne.symm hm)]; exact hB, .inl ⟨Kept.refl _, rfl, fun b' hb' => ?_⟩⟩
        have : b' ≠ b := fun he => hm (hR.inj m n b' hb' (he ▸ hb))
        simp [sizeAt, hoth b' this]
    frz := fun _ _ hf => hf
    old := fun b' _ hW => hoth b' fun he => hW n rfl (he ▸ hb)
    size := by omega
    news := fun m b' hm => .inl ⟨hm, hR.out m b' hm⟩
    newF := fun _ _ hf => .inl hf
    none_ := fun m hl hm => ⟨hm, by rw [List.getElem?_set_ne]; intro he; subst he; rw [hb] at hm; simp at hm⟩
    os := hs.os
    output := hs.output
    tape := hs.tape }
  refine ⟨Rel.step hE hR ?_ ?_ (fun m b' hm => by simpa using hR.out m b' hm) hR.inj hR.apart ?_, hE⟩
  · intro m b' B hm hB hnc
    by_cases hmn : m = n
    · subst hmn
      rw [hb] at hm; simp at hm; subst hm
      rw [List.getElem?_set_self hn] at hB; simp at hB; subst hB
      refine ⟨us', el, fr, hw', fun o ho => hfr o (by omega), helt, by simp, hfit, fun j c hj => ?_⟩
      obtain ⟨u, hu, hv⟩ := hc j c hj
      exact ⟨u, hu, hv.ext hE hR⟩
    · rw [List.getElem?_set_ne (Ne.symm hmn)] at hB
      exact absurd ⟨hm, hB, hmn⟩ hnc
  · intro m b' hm; rw [hhs]; exact hR.lt m b' hm
  · intro b' o hF hnF; exact absurd hF hnF

/-- what an operation that turns something leaves -/
def EffPost (RP : RPred) (β : Beta) (h : Heap) (F : Frz) (w : World) (s : Result Value) (v : AV) (h' : Heap) (wr : Option Nat) : Prop :=
  ∃ u w' β' F', s = .ok u w' ∧ Rel RP β' F' h' w' ∧ V β' h' F' w' v u ∧ Ext (fun n => wr = some n) β F h w β' F' h' w'

def resH (h : Heap) : ORes → Option (AV × Heap × Option Nat)
  | .val v => some (v, h, none)
  | .eff v h' wr => some (v, h', wr)
  | .call _ _ => none

theorem Ext.weaken {W W₂ β F h w β' F' h' w'} (hE : Ext W β F h w β' F' h' w') (hW : ∀ n, W n → W₂ n) : Ext W₂ β F h w β' F' h' w' :=
  { hE with old := fun b hb hn => hE.old b hb fun n hw => hn n (hW n hw) }

theorem splice_elts {es ys : List AV} {e k : Nat} (he : ∀ x ∈ es, x.cells.length = e) (hy : ∀ x ∈ ys, x.cells.length = e) : ∀ x ∈ splice es k ys, x.cells.length = e := by
  intro x hx
  unfold splice at hx
  simp only [List.mem_append] at hx
  rcases hx with (hx | hx) | hx
  · exact he x (List.mem_of_mem_take hx)
  · exact hy x hx
  · exact he x (List.mem_of_mem_drop hx)

theorem flatC_append (xs ys : List AV) : flatC (xs ++ ys) = flatC xs ++ flatC ys := by simp [flatC]

theorem flatC_take {es : List AV} {e : Nat} (he : ∀ x ∈ es, x.cells.length = e) {k : Nat} (hk : k ≤ es.length) : flatC (es.take k) = (flatC es).take (k * e) := by
  have hsplit : flatC es = flatC (es.take k) ++ flatC (es.drop k) := by rw [← flatC_append, List.take_append_drop]
  have hl : (flatC (es.take k)).length = k * e := by
    rw [flatC_length (e := e) (fun x hx => he x (List.mem_of_mem_take hx)), List.length_take, Nat.min_eq_left hk]
  rw [hsplit, List.take_left' hl]

theorem flatC_splice {es ys : List AV} {e k : Nat} (he : ∀ x ∈ es, x.cells.length = e) (hy : ∀ x ∈ ys, x.cells.length = e) (hk : k + ys.length ≤ es.length) : flatC (splice es k ys) = splice (flatC es) (k * e) (flatC ys) := by
  unfold splice
  rw [flatC_append, flatC_append, flatC_take he (by omega), flatC_drop_take he, flatC_length hy, Nat.add_mul]

theorem ones_cells {ys : List AV} (ho : ones ys = true) {us : Array Value} (hc : CellsV β h F w (flatC ys) us) : ∀ v ∈ us.toList, v.oneCell' = true := by
  intro v hv
  obtain ⟨j, hj, hje⟩ := List.mem_iff_getElem.1 hv
  have hjl : j < (flatC ys).length := by rw [hc.len]; simpa using hj
  have h1 := hc.val j _ v (List.getElem?_eq_getElem hjl) (by rw [← hje]; simp)
  refine h1.oneCell ?_
  have hm : (flatC ys)[j] ∈ flatC ys := List.getElem_mem hjl
  unfold flatC at hm
  rw [List.mem_flatten] at hm
  obtain ⟨l, hl, hm⟩ := hm
  rw [List.mem_map] at hl
  obtain ⟨y, hy, rfl⟩ := hl
  have := List.all_eq_true.1 ho y hy
  exact List.all_eq_true.1 this _ hm

/-- the cells of a row behind a write of other rows into it -/
theorem wrote_cells {b off e : Nat} {es ys : List AV} {us us' usy : Array Value} {el : TypeId} {fr : Nat × Nat} (hC : CellsAt β h F w b e es us) (hall : ∀ (j : Nat) (c : AV), (flatC es)[j]? = some c → ∃ u, us[j]? = some u ∧ V β h F w c u)
    (hy : ∀ x ∈ ys, x.cells.length = e) (husy : CellsV β h F w (flatC ys) usy) {k : Nat} (hk : k + ys.length ≤ es.length) (hoff : off = k * e) {w' : World} (hW : Wrote w b off usy.toList us el fr w' us') :
    ∀ (j : Nat) (c : AV), (flatC (splice es k ys))[j]? = some c → ∃ u, us'[j]? = some u ∧ V β h F w c u := by
  intro j c hj
  subst hoff
  have hle : k * e + (flatC ys).length ≤ (flatC es).length := by
    rw [flatC_length hy, flatC_length hC.elt, ← Nat.add_mul]; exact Nat.mul_le_mul_right _ hk
  rw [flatC_splice hC.elt hy hk, splice_get hle] at hj
  rw [hW.get]
  have hul : usy.toList.length = (flatC ys).length := by rw [husy.len]; simp
  split at hj
  · rename_i hr
    rw [if_pos (by rw [hul]; exact hr)]
    have hlt : j - k * e < usy.toList.length := by rw [hul]; omega
    exact ⟨_, List.getElem?_eq_getElem hlt, husy.val _ c _ hj (by simp)⟩
  · rename_i hr
    rw [if_neg (by rw [hul]; exact hr)]
    exact hall j c hj
end
end Go.Eng

/- The engine, part F5: append, whole; copy. -/
namespace Go.Eng
set_option linter.unusedSectionVars false
set_option linter.unusedSimpArgs false

section
variable {RP : RPred} {β : Beta} {h : Heap} {F : Frz} {w w' : World} {P : Program} {C : Cfg} {f : Nat}

theorem Rel.flat (hR : Rel RP β F h w) {n b ver e : Nat} {g : Bool} {es : List AV} (hb : β n = some b) (hh : h[n]? = some (.cells ver e g es)) {us : Array Value} {el : TypeId} {fr : Nat × Nat} (hw : w.heap[b]? = some (.cells us el fr)) :
    ∀ (j : Nat) (c : AV), (flatC es)[j]? = some c → ∃ u, us[j]? = some u ∧ V β h F w c u := by
  obtain ⟨us2, _, _, hw2, _, _, _, _, hv2⟩ := hR.blk n b _ hb hh
  rw [hw] at hw2; simp at hw2; obtain ⟨rfl, _, _⟩ := hw2
  exact hv2

theorem append_sound (hP : ProgOK P) (hR : Rel RP β F h w) {ts : Array TypeId} {ty t0 e : TypeId} {sz : Nat} (ht0 : ts[0]? = some t0) (ht : P.underlying t0 = some (.slice e)) (hs : szOf P e = some sz) (hi : intTy P ts[1]? = false) (hb0 : P.bytesOf e ≠ 0) (hsz0 : sz ≠ 0)
    {z : AV} (hz : zeroOf P e = some z) {x y : AV} {ux uy : Value} (hx : V β h F w x ux) (hy : V β h F w y uy) {r : ORes} (hr : appendA h sz (P.bytesOf e) x y = some r) :
    ∃ v h' wr, resH h r = some (v, h', wr) ∧ EffPost RP β h F w ((Builtin.append_ ts ty #[ux, uy]).run P w) v h' wr := by
  unfold appendA at hr
  simp only [Option.bind_eq_some_iff] at hr
  obtain ⟨ys, hys, hr⟩ := hr
  obtain ⟨hyz, _, _⟩ := src_sound (P := P) hR hys hy
  have hrun := fun A sLen sCap => append_run (ty := ty) (A := A) (sLen := sLen) (sCap := sCap) hP hR ht0 ht hs hi hb0 hz hys hy
  -- nothing is appended
  have noop : ∀ (A : Option Addr) (sLen sCap : Nat) (v : AV), ux = .slice A sLen sCap → sLen ≤ sCap → ys.isEmpty = true → V β h F w v (.slice A sLen sCap) →
      EffPost RP β h F w ((Builtin.append_ ts ty #[ux, uy]).run P w) v h none := by
    rintro A sLen sCap v rfl hle hye hv
    have hy0 : ys = [] := by simpa using hye
    subst hy0
    obtain ⟨us, hus, hrn⟩ := (hrun A sLen sCap).1 (by simpa using hle)
    have : us = #[] := by
      have := hus.len
      simp [flatC] at this
      apply Array.ext <;> simp [← this]
    subst this
    refine ⟨.slice A sLen sCap, w, β, F, ?_, hR, hv, Ext.refl _ _ _ _ _ hR.out⟩
    rw [hrn]
    cases A <;> simp [storeCells]
  unfold appendL at hr
  split at hr
  · -- nil
    cases hx with
    | nils a0 =>
      split at hr
      · rename_i hye
        simp at hr; subst hr
        exact ⟨_, _, _, rfl, noop a0 0 0 .nils rfl (Nat.le_refl _) hye (.nils a0)⟩
      · rename_i hye
        split at hr
        · simp at hr
        · rename_i hbd
          simp at hr; subst hr
          refine ⟨_, _, _, rfl, ?_⟩
          have hpos : 0 < ys.length := by
            cases ys with
            | nil => simp at hye
            | cons _ _ => simp
          obtain ⟨us, cap, w', hus, hcap, h1, h2, h3, ⟨rest, hrest, hheap⟩, hrn⟩ := (hrun a0 0 0).2 (by omega) (by simpa using hbd) [] .nils rfl (.nils a0)
          simp only [List.nil_append, Nat.zero_add] at hus hcap hrest hrn
          have hS : Beside w w' := ⟨h1, h2, h3⟩
          have husz : us.size = ys.length * sz := by rw [← hus.len, flatC_length hyz]
          obtain ⟨hR', hE'⟩ := alloc_after (w' := w') (e := sz) (g := true) (es := ys) (fr := (0, 0)) hR hheap hS (fun o _ => by simp) hyz (by simp) (by simp [husz]) (fun j c hj => by
            have hlt : j < us.size := by rw [← hus.len]; exact (List.getElem?_eq_some_iff.1 hj).1
            exact ⟨us[j], by rw [Array.getElem?_append_left hlt]; exact Array.getElem?_eq_getElem hlt, hus.val j c _ hj (Array.getElem?_eq_getElem hlt)⟩)
          refine ⟨_, w', _, F, hrn, hR', ?_, hE'.weaken (fun _ h => h.elim)⟩
          refine .slcG h.length 0 sz 0 ys.length cap w.heap.size _ ys (us ++ rest) e (0, 0) (upd_same _ _ _) (by simp) hcap (by rw [hheap]; exact push_last) ?_ (by omega) (by simp)
          simp only [Nat.zero_mul, Nat.zero_add, Array.size_append, husz, hrest]
          rw [← Nat.add_mul]
          exact Nat.mul_le_mul_right _ (by omega)
  · -- a frozen row
    rename_i xs
    split at hr
    · rename_i hye
      simp at hr; subst hr
      obtain ⟨⟨a, cap, rfl, hcap⟩, _⟩ := hx.lst_at
      exact ⟨_, _, _, rfl, noop a xs.length cap _ rfl hcap hye hx⟩
    · simp at hr
  · -- a live row
    rename_i n ver s i o len cp
    split at hr
    · simp at hr
    · rename_i hss
      have hss : s = sz := by simpa using hss
      subst hss
      cases hl : look h n ver with
      | none => rw [hl] at hr; simp at hr
      | some q =>
        obtain ⟨e', g, es⟩ := q
        rw [hl] at hr; dsimp only at hr
        have hh := look_eq hl
        split at hr
        · simp at hr
        · rename_i hcond
          simp only [not_or, ne_eq, Decidable.not_not, gt_iff_lt, Nat.not_lt, Bool.not_eq_false] at hcond
          obtain ⟨rfl, rfl, hbd, hones⟩ := hcond
          cases hx with
          | slcX n ver sz i o len c b e'' g' es' hb hh' hlc hf =>
            rw [hh] at hh'; simp at hh'; obtain ⟨rfl, rfl, rfl⟩ := hh'
            dsimp only at hr
            obtain ⟨us, el, fr, hw, hfr, hg, hC⟩ := hR.cells hb hh
            have hic : i + c ≤ es.length := by
              have : (i + c) * e' ≤ es.length * e' := by rw [Nat.add_mul]; omega
              exact Nat.le_of_mul_le_mul_right this (by omega)
            split at hr
            · rename_i hfits
              simp at hr; subst hr
              refine ⟨_, _, _, rfl, ?_⟩
              obtain ⟨usy, husy, hrn⟩ := (hrun (some ⟨b, i * e' + 0, none⟩) len c).1 hfits
              have haddr : (⟨b, i * e' + 0, none⟩ : Addr).add (len * e') = ⟨b, (i + len) * e', none⟩ := by
                rw [add_none rfl]; simp [Nat.add_mul]
              have hul : usy.toList.length = ys.length * e' := by simp [← husy.len, flatC_length hyz]
              obtain ⟨w', us', hst, hW⟩ := storeCells_run (P := P) (a := ⟨b, (i + len) * e', none⟩) rfl rfl usy.toList 0 w us hw hfr (ones_cells hones husy) (by
                simp only [Nat.add_zero, hul]
                have : (i + len) * e' + ys.length * e' ≤ es.length * e' := by rw [← Nat.add_mul]; exact Nat.mul_le_mul_right _ (by omega)
                have := hC.fit; omega)
              simp only [Nat.add_zero] at hW
              have hkk : i + len + ys.length ≤ es.length := by omega
              obtain ⟨hR', hE'⟩ := write_after (w' := w') (es' := splice es (i + len) ys) hR hb hh hw hfr hg hC.fit (splice_length hkk) (splice_elts hC.elt hyz) hW.here hW.size hW.other hW.heap hW.side
                (wrote_cells hC (hR.flat hb hh hw) hyz husy hkk rfl hW)
              refine ⟨.slice (some ⟨b, i * e' + 0, none⟩) (len + ys.length) c, w', β, F, ?_, hR', ?_, hE'.weaken (fun m hm => by simp [hm])⟩
              · rw [hrn]; dsimp only; rw [haddr, hst]; rfl
              · exact .slcX n ver e' i 0 _ c b e' g _ hb (List.getElem?_set_self (List.getElem?_eq_some_iff.1 hh).1) hfits (by rw [splice_length hkk]; exact hf)
            · rename_i hfits
              split at hr
              · rename_i hil
                simp at hr; subst hr
                refine ⟨_, _, _, rfl, ?_⟩
                have hel : elems h e' (.slc n ver e' i 0 len (some c)) = some ((es.drop i).take len) := by
                  simp [elems, hl, hil]
                obtain ⟨us2, cap, w', hus, hcap, h1, h2, h3, ⟨rest, hrest, hheap⟩, hrn⟩ := (hrun (some ⟨b, i * e' + 0, none⟩) len c).2 (by omega) hbd _ _ hel (.slcX n ver e' i 0 len c b e' g es hb hh hlc hf)
                have hS : Beside w w' := ⟨h1, h2, h3⟩
                have hall : ∀ x ∈ (es.drop i).take len ++ ys, x.cells.length = e' := fun x hx => by
                  rcases List.mem_append.1 hx with h0 | h0
                  · exact hC.elt x (List.mem_of_mem_drop (List.mem_of_mem_take h0))
                  · exact hyz x h0
                have hlen2 : ((es.drop i).take len ++ ys).length = len + ys.length := by simp; omega
                have husz : us2.size = (len + ys.length) * e' := by rw [← hus.len, flatC_length hall, hlen2]
                obtain ⟨hR', hE'⟩ := alloc_after (w' := w') (e := e') (g := true) (es := (es.drop i).take len ++ ys) (fr := (0, 0)) hR hheap hS (fun o _ => by simp) hall (by simp) (by rw [hlen2]; simp [husz]) (fun j c hj => by
                  have hlt : j < us2.size := by rw [← hus.len]; exact (List.getElem?_eq_some_iff.1 hj).1
                  exact ⟨us2[j], by rw [Array.getElem?_append_left hlt]; exact Array.getElem?_eq_getElem hlt, hus.val j c _ hj (Array.getElem?_eq_getElem hlt)⟩)
                refine ⟨_, w', _, F, hrn, hR', ?_, hE'.weaken (fun _ h => h.elim)⟩
                refine .slcG h.length 0 e' 0 (len + ys.length) cap w.heap.size _ ((es.drop i).take len ++ ys) (us2 ++ rest) e (0, 0) (upd_same _ _ _) (by simp) hcap (by rw [hheap]; exact push_last) ?_ (by rw [hlen2]; omega) (by simp)
                simp only [Nat.zero_mul, Nat.zero_add, Array.size_append, husz, hrest]
                rw [← Nat.add_mul]
                exact Nat.mul_le_mul_right _ (by omega)
              · simp at hr
          | slcG n ver sz i len c b A es' us' el' fr' hb hh' hlc hw' hf hk0 ha =>
            rw [hh] at hh'; simp at hh'; obtain ⟨rfl, rfl⟩ := hh'
            dsimp only at hr
            obtain ⟨us, el, fr, hw, hfr, hg, hC⟩ := hR.cells hb hh
            rw [hw] at hw'; simp at hw'; obtain ⟨rfl, rfl, rfl⟩ := hw'
            split at hr
            · simp at hr
            · rename_i hgi
              simp only [not_or, Bool.not_eq_false, ne_eq, Decidable.not_not] at hgi
              obtain ⟨_, rfl⟩ := hgi
              have hA := ha (.inr rfl)
              simp only [Nat.zero_mul] at hA hf
              subst hA
              have hvx : V β h F w (.slc n ver e' 0 0 len none) (.slice (some ⟨b, 0, none⟩) len c) := .slcG n ver e' 0 len c b _ es us el fr hb hh hlc hw (by simpa using hf) hk0 (by simp)
              have haddr : (⟨b, 0, none⟩ : Addr).add (len * e') = ⟨b, len * e', none⟩ := by
                rw [add_none rfl]; simp
              split at hr
              · rename_i hle
                simp at hr; subst hr
                refine ⟨_, _, _, rfl, ?_⟩
                have hall : ∀ x ∈ es ++ ys, x.cells.length = e' := fun x hx => by
                  rcases List.mem_append.1 hx with h0 | h0
                  · exact hC.elt x h0
                  · exact hyz x h0
                by_cases hfits : len + ys.length ≤ c
                · -- in its own array
                  obtain ⟨usy, husy, hrn⟩ := (hrun (some ⟨b, 0, none⟩) len c).1 hfits
                  have hul : usy.toList.length = ys.length * e' := by simp [← husy.len, flatC_length hyz]
                  have hroom : (len + ys.length) * e' ≤ us.size := Nat.le_trans (Nat.mul_le_mul_right _ hfits) (by simpa using hf)
                  obtain ⟨w', us', hst, hW⟩ := storeCells_run (P := P) (a := ⟨b, len * e', none⟩) rfl rfl usy.toList 0 w us hw hfr (ones_cells hones husy) (by
                    simp only [Nat.add_zero, hul]; rw [← Nat.add_mul]; exact hroom)
                  simp only [Nat.add_zero] at hW
                  obtain ⟨hR', hE'⟩ := grow_after (w' := w') (es' := es ++ ys) hR hb hh hw hfr hall hW.here hW.size hW.other hW.heap hW.side (by rw [hW.size, List.length_append, ← hle]; exact hroom) (fun j c hj => by
                    rw [flatC_append] at hj
                    rw [hW.get]
                    have hfl : (flatC es).length = len * e' := by rw [flatC_length hC.elt, hle]
                    by_cases hj2 : j < (flatC es).length
                    · rw [List.getElem?_append_left hj2] at hj
                      rw [if_neg (by omega)]
                      exact hR.flat hb hh hw j c hj
                    · rw [List.getElem?_append_right (by omega)] at hj
                      have hjy := (List.getElem?_eq_some_iff.1 hj).1
                      rw [flatC_length hyz] at hjy
                      rw [if_pos (by rw [hul]; omega), ← hfl]
                      have hlt : j - (flatC es).length < usy.toList.length := by rw [hul]; exact hjy
                      exact ⟨_, List.getElem?_eq_getElem hlt, husy.val _ c _ hj (by simp)⟩)
                  refine ⟨.slice (some ⟨b, 0, none⟩) (len + ys.length) c, w', β, F, ?_, hR', ?_, hE'.weaken (fun m hm => by simp [hm])⟩
                  · rw [hrn]; dsimp only; rw [haddr, hst]; rfl
                  · refine .slcG n (ver + 1) e' 0 _ c b _ (es ++ ys) us' el fr hb (List.getElem?_set_self (List.getElem?_eq_some_iff.1 hh).1) hfits hW.here (by rw [hW.size]; simpa using hf) (by simp; omega) (by simp)
                · -- in a new one
                  have hel : elems h e' (.slc n ver e' 0 0 len none) = some es := by
                    simp [elems, hl, hle]
                  obtain ⟨us2, cap, w', hus, hcap, h1, h2, h3, ⟨rest, hrest, hheap⟩, hrn⟩ := (hrun (some ⟨b, 0, none⟩) len c).2 (by omega) hbd _ _ hel hvx
                  have hS : Beside w w' := ⟨h1, h2, h3⟩
                  have hlen2 : (es ++ ys).length = len + ys.length := by simp; omega
                  have husz : us2.size = (len + ys.length) * e' := by rw [← hus.len, flatC_length hall, hlen2]
                  obtain ⟨hR', hE'⟩ := regrow_after (w' := w') (es' := es ++ ys) hR hb hh hheap hS hall (by rw [hlen2]; simp [husz]) (fun j c hj => by
                    have hlt : j < us2.size := by rw [← hus.len]; exact (List.getElem?_eq_some_iff.1 hj).1
                    exact ⟨us2[j], by rw [Array.getElem?_append_left hlt]; exact Array.getElem?_eq_getElem hlt, hus.val j c _ hj (Array.getElem?_eq_getElem hlt)⟩)
                  refine ⟨_, w', _, F, hrn, hR', ?_, hE'.weaken (fun m hm => by simp [hm])⟩
                  refine .slcG n (ver + 1) e' 0 (len + ys.length) cap w.heap.size _ (es ++ ys) (us2 ++ rest) e (0, 0) (upd_same _ _ _) (List.getElem?_set_self (List.getElem?_eq_some_iff.1 hh).1) hcap (by rw [hheap]; exact push_last) ?_ (by rw [hlen2]; omega) (by simp)
                  simp only [Nat.zero_mul, Nat.zero_add, Array.size_append, husz, hrest]
                  rw [← Nat.add_mul]
                  exact Nat.mul_le_mul_right _ (by omega)
              · split at hr
                · rename_i hne hfits
                  simp at hr; subst hr
                  refine ⟨_, _, _, rfl, ?_⟩
                  have hfc : len + ys.length ≤ c := by omega
                  obtain ⟨usy, husy, hrn⟩ := (hrun (some ⟨b, 0, none⟩) len c).1 hfc
                  have hul : usy.toList.length = ys.length * e' := by simp [← husy.len, flatC_length hyz]
                  obtain ⟨w', us', hst, hW⟩ := storeCells_run (P := P) (a := ⟨b, len * e', none⟩) rfl rfl usy.toList 0 w us hw hfr (ones_cells hones husy) (by
                    simp only [Nat.add_zero, hul]
                    have : len * e' + ys.length * e' ≤ es.length * e' := by rw [← Nat.add_mul]; exact Nat.mul_le_mul_right _ (by omega)
                    have := hC.fit; omega)
                  simp only [Nat.add_zero] at hW
                  obtain ⟨hR', hE'⟩ := write_after (w' := w') (es' := splice es len ys) hR hb hh hw hfr hg hC.fit (splice_length hfits) (splice_elts hC.elt hyz) hW.here hW.size hW.other hW.heap hW.side
                    (wrote_cells hC (hR.flat hb hh hw) hyz husy hfits rfl hW)
                  refine ⟨.slice (some ⟨b, 0, none⟩) (len + ys.length) c, w', β, F, ?_, hR', ?_, hE'.weaken (fun m hm => by simp [hm])⟩
                  · rw [hrn]; dsimp only; rw [haddr, hst]; rfl
                  · exact .slcG n ver e' 0 _ c b _ _ us' el fr hb (List.getElem?_set_self (List.getElem?_eq_some_iff.1 hh).1) hfc hW.here (by rw [hW.size]; simpa using hf) (by rw [splice_length hfits]; exact hk0) (by simp)
                · simp at hr
          | slcS n ver sz i o len cap a c hst => exact absurd hst (not_stale hh)
  · simp at hr
end
end Go.Eng

/- The engine, part F6: variables, literals, conversions to bytes, make, copy. -/
namespace Go.Eng
set_option linter.unusedSectionVars false
set_option linter.unusedSimpArgs false

section
variable {RP : RPred} {β : Beta} {h : Heap} {F : Frz} {w w' : World} {P : Program} {C : Cfg} {f : Nat}

theorem copy_sound (hR : Rel RP β F h w) {ts : Array TypeId} {ty t0 e : TypeId} {sz : Nat} (ht0 : ts[0]? = some t0) (ht : P.underlying t0 = some (.slice e)) (hs : szOf P e = some sz)
    {x y : AV} {ux uy : Value} (hx : V β h F w x ux) (hy : V β h F w y uy) {r : ORes} (hr : copyA h sz x y = some r) :
    ∃ v h' wr, resH h r = some (v, h', wr) ∧ EffPost RP β h F w ((Builtin.copy_ ts ty #[ux, uy]).run P w) v h' wr := by
  unfold copyA at hr
  simp only [Option.bind_eq_some_iff] at hr
  obtain ⟨ys, hys, hr⟩ := hr
  obtain ⟨hyz, hlen, hfirst⟩ := src_sound (P := P) hR hys hy
  split at hr
  · cases hx with
    | nils a0 =>
      simp at hr; subst hr
      refine ⟨_, _, _, rfl, .int .i64 0, w, β, F, ?_, hR, .int _ _, Ext.refl _ _ _ _ _ hR.out⟩
      obtain ⟨us, hus, hf⟩ := hfirst 0 (Nat.zero_le _)
      have : us = #[] := by
        have := hus.len
        simp [flatC] at this
        apply Array.ext <;> simp [← this]
      subst this
      simp only [Builtin.copy_, ht0, List.getElem?_toArray, List.getElem?_cons_zero, List.getElem?_cons_succ, Sem.run_bind, run_underlying ht, Result.andThen_ok, szOf_run hs, hlen]
      rw [show Nat.min ys.length 0 = 0 by simp, hf]
      cases a0 <;> simp [storeCells, goInt]
  · rename_i n ver s i o len cp
    split at hr
    · simp at hr
    · rename_i hss
      have hss : s = sz := by simpa using hss
      subst hss
      cases hl : look h n ver with
      | none => rw [hl] at hr; simp at hr
      | some q =>
        obtain ⟨e', g, es⟩ := q
        rw [hl] at hr; dsimp only at hr
        have hh := look_eq hl
        split at hr
        · simp at hr
        · rename_i hcond
          simp only [not_or, ne_eq, Decidable.not_not, gt_iff_lt, Nat.not_lt, Bool.not_eq_false] at hcond
          obtain ⟨rfl, rfl, hil, hones⟩ := hcond
          simp at hr; subst hr
          refine ⟨_, _, _, rfl, ?_⟩
          -- the address
          obtain ⟨b, a, c, rfl, hb, ha⟩ : ∃ b a c, ux = .slice a len c ∧ β n = some b ∧ (len ≠ 0 → a = some ⟨b, i * e', none⟩) := by
            cases hx with
            | slcX n ver sz i o len c b e'' g' es' hb hh' hlc hf =>
              rw [hh] at hh'; simp at hh'; obtain ⟨rfl, rfl, rfl⟩ := hh'
              exact ⟨b, _, c, rfl, hb, fun _ => rfl⟩
            | slcG n ver sz i len c b a es' us el fr hb hh' hlc hw hf hk0 ha =>
              rw [hh] at hh'; simp at hh'; obtain ⟨rfl, rfl, rfl⟩ := hh'
              exact ⟨b, a, c, rfl, hb, fun h0 => ha (.inl (by omega))⟩
            | slcS n ver sz i o len cap a c hs => exact absurd hs (not_stale hh)
          obtain ⟨us, el, fr, hw, hfr, hg, hC⟩ := hR.cells hb hh
          have hkl : min ys.length len ≤ ys.length := Nat.min_le_left _ _
          obtain ⟨usy, husy, hf⟩ := hfirst (min ys.length len) hkl
          have hyz2 : ∀ x ∈ ys.take (min ys.length len), x.cells.length = e' := fun x hx => hyz x (List.mem_of_mem_take hx)
          have htl : (ys.take (min ys.length len)).length = min ys.length len := by simp
          have hul : usy.toList.length = min ys.length len * e' := by
            have := husy.len
            rw [flatC_length hyz2, htl] at this
            simpa using this.symm
          have hkk : i + (ys.take (min ys.length len)).length ≤ es.length := by rw [htl]; have := Nat.min_le_right ys.length len; omega
          have hones2 : ones (ys.take (min ys.length len)) = true := List.all_eq_true.2 fun x hx => List.all_eq_true.1 hones x (List.mem_of_mem_take hx)
          obtain ⟨w', us', hst, hW⟩ := storeCells_run (P := P) (a := ⟨b, i * e', none⟩) rfl rfl usy.toList 0 w us hw hfr (ones_cells hones2 husy) (by
            simp only [Nat.add_zero, hul]
            have : i * e' + min ys.length len * e' ≤ es.length * e' := by rw [← Nat.add_mul]; exact Nat.mul_le_mul_right _ (by rw [← htl]; exact hkk)
            have := hC.fit; omega)
          simp only [Nat.add_zero] at hW
          obtain ⟨hR', hE'⟩ := write_after (w' := w') (es' := splice es i (ys.take (min ys.length len))) hR hb hh hw hfr hg hC.fit (splice_length hkk) (splice_elts hC.elt hyz2) hW.here hW.size hW.other hW.heap hW.side
            (wrote_cells hC (hR.flat hb hh hw) hyz2 husy hkk rfl hW)
          refine ⟨.int .i64 (min ys.length len : Nat), w', β, F, ?_, hR', .int _ _, hE'.weaken (fun m hm => by simp [hm])⟩
          simp only [Builtin.copy_, ht0, List.getElem?_toArray, List.getElem?_cons_zero, List.getElem?_cons_succ, Sem.run_bind, run_underlying ht, Result.andThen_ok, szOf_run hs, hlen]
          rw [show Nat.min ys.length len = min ys.length len from rfl, hf]
          by_cases hl0 : len = 0
          · subst hl0
            have hw' : usy = #[] := by
              apply Array.ext <;> simp at hul <;> simp [hul]
            subst hw'
            simp [storeCells] at hst
            subst hst
            cases a <;> simp [storeCells, goInt]
          · rw [ha hl0]
            simp only [Result.andThen_ok, Sem.run_bind, hst, Sem.run_pure, goInt]
  · simp at hr

theorem flatC_set_eq {es : List AV} {e : Nat} (he : ∀ x ∈ es, x.cells.length = e) {i : Nat} (hi : i < es.length) {y : AV} (hy : y.cells.length = e) : flatC (es.set i y) = splice (flatC es) (i * e) y.cells := by
  have hle : i * e + y.cells.length ≤ (flatC es).length := by rw [flatC_length he, hy, ← Nat.succ_mul]; exact Nat.mul_le_mul_right _ hi
  apply List.ext_getElem?
  intro k
  rw [flatC_set he hi hy, splice_get hle, hy]

theorem fillE_flat {s : Nat} : ∀ {ps : List (Nat × AV)} {es es' : List AV}, fillE es s ps = some es' → (∀ x ∈ es, x.cells.length = s) →
    fillA (flatC es) (ps.map fun (i, v) => (i * s, s, v)) = some (flatC es') ∧ (∀ x ∈ es', x.cells.length = s) ∧ es'.length = es.length
  | [], es, es', hf, he => by simp [fillE] at hf; subst hf; exact ⟨rfl, he, rfl⟩
  | (i, v) :: ps, es, es', hf, he => by
    unfold fillE at hf
    split at hf
    · simp at hf
    · rename_i hc
      simp only [not_or, ne_eq, Decidable.not_not, ge_iff_le, Nat.not_le] at hc
      have hset : ∀ x ∈ es.set i v, x.cells.length = s := fun x hx => by
        rcases List.mem_or_eq_of_mem_set hx with h0 | h0
        · exact he x h0
        · subst h0; exact hc.1
      obtain ⟨h1, h2, h3⟩ := fillE_flat hf hset
      refine ⟨?_, h2, by rw [h3]; simp⟩
      simp only [List.map_cons, fillA]
      rw [if_neg, ← flatC_set_eq he hc.2 hc.1, h1]
      simp only [not_or, ne_eq, Decidable.not_not, gt_iff_lt, Nat.not_lt]
      refine ⟨hc.1, ?_⟩
      rw [flatC_length he, ← Nat.succ_mul]; exact Nat.mul_le_mul_right _ hc.2

theorem replicate_cells {z : AV} {zs : Array Value} (hz : CellsV β h F w z.cells zs) {s : Nat} (hs : zs.size = s) (hs0 : 0 < s) (n : Nat) :
    CellsV β h F w (flatC (List.replicate n z)) ((Array.range (n * s)).map fun i => zs[i % zs.size]!) := by
  have hzl : z.cells.length = s := by rw [hz.len, hs]
  have he : ∀ x ∈ List.replicate n z, x.cells.length = s := fun x hx => by rw [List.eq_of_mem_replicate hx]; exact hzl
  refine ⟨by rw [flatC_length he]; simp, fun j c u hc hu => ?_⟩
  have hj : j < n * s := by
    have := (List.getElem?_eq_some_iff.1 hc).1
    rw [flatC_length he] at this; simpa using this
  have hq : j / s < n := Nat.div_lt_of_lt_mul (by rw [Nat.mul_comm]; exact hj)
  have hm : j % s < s := Nat.mod_lt _ hs0
  have hc2 : (flatC (List.replicate n z))[j / s * s + j % s]? = some (z.cells[j % s]'(by omega)) := flatC_get he (by simp [hq]) (List.getElem?_eq_getElem (by omega))
  have e : j / s * s + j % s = j := by rw [Nat.mul_comm]; exact Nat.div_add_mod j s
  rw [e, hc] at hc2
  simp at hc2
  have hlt : j % s < zs.size := by omega
  simp [hj, hs] at hu
  rw [getElem!_pos zs (j % s) hlt] at hu
  subst hu
  exact hz.val (j % s) c _ (by rw [List.getElem?_eq_getElem (by omega), hc2]) (Array.getElem?_eq_getElem hlt)

theorem free0 (us : Array Value) : Free us (0, 0) := fun o _ => by simp

theorem CellsV.get {cs : List AV} {us : Array Value} (hc : CellsV β h F w cs us) : ∀ (j : Nat) (c : AV), cs[j]? = some c → ∃ u, us[j]? = some u ∧ V β h F w c u := fun j c hj => by
  have hlt : j < us.size := by rw [← hc.len]; exact (List.getElem?_eq_some_iff.1 hj).1
  exact ⟨us[j], Array.getElem?_eq_getElem hlt, hc.val j c _ hj (Array.getElem?_eq_getElem hlt)⟩

theorem flatC_one (x : AV) : flatC [x] = x.cells := by simp [flatC]

/-- a variable -/
theorem var_sound (hR : Rel RP β F h w) {t : TypeId} {x : AV} {u : Value} (hx : V β h F w x u) {e : Nat} (he : x.cells.length = e) :
    ∃ w' β' F', (newVar t u).run P w = .ok ⟨w.heap.size, 0, none⟩ w' ∧ Rel RP β' F' (h ++ [.cells 0 e false [x]]) w' ∧ V β' (h ++ [.cells 0 e false [x]]) F' w' (.ptr h.length 0 0 0) (.pointer (some ⟨w.heap.size, 0, none⟩)) ∧
      Ext (fun _ => False) β F h w β' F' (h ++ [.cells 0 e false [x]]) w' := by
  have hc := hx.cells
  obtain ⟨hR', hE'⟩ := alloc_after (w' := { w with heap := w.heap.push (.cells u.cells t (0, 0)) }) (e := e) (g := false) (es := [x]) hR rfl ⟨rfl, rfl, rfl⟩ (free0 _) (by simp [he]) (fun _ => by simp [← hc.len, he]) (by simp [← hc.len, he])
    (by rw [flatC_one]; exact hc.get)
  refine ⟨_, _, F, by simp [newVar, newRow], hR', ?_, hE'⟩
  have := V.ptr (β := upd β h.length w.heap.size) (h := h ++ [.cells 0 e false [x]]) (F := F) (w := { w with heap := w.heap.push (.cells u.cells t (0, 0)) }) h.length 0 0 0 w.heap.size e false [x] (upd_same _ _ _) (by simp)
  simpa using this
end
end Go.Eng

/- The engine, part F7: bytes, make, maps. -/
namespace Go.Eng
set_option linter.unusedSectionVars false
set_option linter.unusedSimpArgs false

section
variable {RP : RPred} {β : Beta} {h : Heap} {F : Frz} {w w' : World} {P : Program} {C : Cfg} {f : Nat}

theorem flatC_bytes (s : List UInt8) : flatC (s.map fun b => AV.int .u8 (b.toNat : Int)) = s.map fun b => AV.int .u8 (b.toNat : Int) := by
  induction s with
  | nil => rfl
  | cons b l ih =>
    simp only [List.map_cons]
    have : flatC (AV.int .u8 (b.toNat : Int) :: l.map fun b => AV.int .u8 (b.toNat : Int)) = [AV.int .u8 (b.toNat : Int)] ++ flatC (l.map fun b => AV.int .u8 (b.toNat : Int)) := by simp [flatC, AV.cells]
    rw [this, ih]; rfl

theorem s2b_sound (hR : Rel RP β F h w) {e : TypeId} (s : List UInt8) :
    EffPost RP β h F w ((Conv.stringToBytes e ⟨s.toArray⟩).run P w) (.slc h.length 0 1 0 0 s.length none) (h ++ [.cells 0 1 true (s.map fun b => .int .u8 b.toNat)]) none := by
  generalize hw1 : ({ w with drawn := w.drawn + 1 } : World) = w1
  have hw1h : w1.heap = w.heap := by rw [← hw1]
  have hsz : (⟨s.toArray⟩ : ByteArray).size = s.length := by simp [ByteArray.size]
  let q : Question := .appendCap s.length 0 e
  let cap := q.cut (w.tape w.drawn q)
  have hcap : s.length ≤ cap := by show s.length ≤ s.length + _; omega
  let us : Array Value := (s.map fun b => Value.int .u8 (b.toNat : Int)).toArray ++ Array.replicate (cap - s.length) (.int .u8 0)
  have hus : us.size = cap := by simp [us]; omega
  let w' : World := { w1 with heap := w1.heap.push (.cells us e (us.size, us.size + 1)) }
  have hS : Beside w w' := by subst hw1; exact ⟨rfl, rfl, rfl⟩
  have hheap : w'.heap = w.heap.push (.cells us e (us.size, us.size + 1)) := by show w1.heap.push _ = _; rw [hw1h]
  have hfl := flatC_bytes s
  obtain ⟨hR', hE'⟩ := alloc_after (w' := w') (e := 1) (g := true) (es := s.map fun b => .int .u8 b.toNat) hR hheap hS (fun o ho => by simp; omega) (fun x hx => by simp at hx; obtain ⟨b, _, rfl⟩ := hx; rfl) (by simp) (by simp [hus]; exact hcap) (fun j c hj => by
    rw [hfl] at hj
    simp only [List.getElem?_map, Option.map_eq_some_iff] at hj
    obtain ⟨b, hb, rfl⟩ := hj
    have hlt := (List.getElem?_eq_some_iff.1 hb).1
    refine ⟨.int .u8 b.toNat, ?_, .int _ _⟩
    rw [Array.getElem?_append_left (by simpa using hlt)]
    simp [hb])
  refine ⟨.slice (some ⟨w.heap.size, 0, none⟩) s.length cap, w', _, F, ?_, hR', ?_, hE'.weaken (fun _ h => h.elim)⟩
  · have hfc : (Question.appendCap s.length 0 e).forced = false := rfl
    simp only [Conv.stringToBytes, Sem.run_bind, run_choose, hsz, hfc, Bool.false_eq_true, if_false, Result.andThen_ok]
    rw [show ({ heap := w.heap, tape := w.tape, drawn := w.drawn + 1, os := w.os, output := w.output } : World) = w1 from hw1]
    have hel : (⟨s.toArray⟩ : ByteArray).data.map (fun b => Value.int .u8 (b.toNat : Int)) ++ Array.replicate ((Question.appendCap s.length 0 e).cut (w.tape w.drawn (Question.appendCap s.length 0 e)) - s.length) (.int .u8 0) = us := by
      simp [us, cap, q]
    simp only [newRow, Sem.run_bind, run_newObj, Sem.run_pure, Result.andThen_ok, hel, markStringish, run_shape]
    have hsh : ({ w1 with heap := w1.heap.push (.cells us e (0, 0)) } : World).shape? w1.heap.size = some (e, us.size) := by simp [World.shape?]
    rw [hsh]
    simp only [run_freeze, Result.andThen_ok]
    have hfr : ({ w1 with heap := w1.heap.push (.cells us e (0, 0)) } : World).freeze ⟨w1.heap.size, us.size, none⟩ 1 = w' := by
      simp only [World.freeze, w', Nat.one_ne_zero, if_false]
      congr 1
      apply Array.ext
      · simp
      · intro j h1 h2
        simp only [Array.getElem_modify]
        by_cases hj : w1.heap.size = j
        · subst hj; simp
        · rw [if_neg hj]
          simp at h1
          have : j < w1.heap.size := by omega
          simp [Array.getElem_push_lt this]
    rw [hfr, hw1h]
  · refine .slcG h.length 0 1 0 s.length cap w.heap.size _ _ us e _ (upd_same _ _ _) (by simp; rfl) hcap (by rw [hheap]; exact push_last) (by simp [hus]) (by simp; omega) (by simp)

theorem mkslice_sound (hP : ProgOK P) (hR : Rel RP β F h w) {t e : TypeId} {sz : Nat} (ht : P.underlying t = some (.slice e)) (hs : szOf P e = some sz) {z : AV} (hz : zeroOf P e = some z) {a b : Int} {ka kb : IntKind}
    (h0 : 0 ≤ a) (h1 : a ≤ b) (h2 : b * P.bytesOf e ≤ 2 ^ 47) (h3 : b ≤ 2 ^ 62) :
    ∃ v h', (if b = 0 then some (AV.nils, h) else some (.slc h.length 0 sz 0 0 a.toNat (some b.toNat), h ++ [.cells 0 sz false (List.replicate b.toNat z)])) = some (v, h') ∧
      (b = 0 ∨ sz ≠ 0 → EffPost RP β h F w ((Instr.makeSlice t (.int ka a) (.int kb b)).run P w) v h' none) := by
  obtain ⟨zv, hzr, hzo, hzs⟩ := zeroOf_cells (w := w) hP hz hs
  obtain ⟨bb1, bb2, bb3⟩ := bytes_run hs w
  have hwa : IntKind.i64.wrap a = a := by unfold IntKind.wrap; simp [IntKind.bits, IntKind.signed]; omega
  have hwb : IntKind.i64.wrap b = b := by unfold IntKind.wrap; simp [IntKind.bits, IntKind.signed]; omega
  have hbb : ¬ ((P.bytesOf e : Int) * b > 2 ^ 48) := by rw [Int.mul_comm]; omega
  have hneg : ¬ (b < 0) := by omega
  have hrun : (Instr.makeSlice t (.int ka a) (.int kb b)).run P w = .ok (.slice (some ⟨w.heap.size, 0, none⟩) a.toNat b.toNat)
      { w with heap := w.heap.push (.cells ((Array.range (b.toNat * sz)).map ((if b.toNat * sz = 0 then #[] else zv.cells)[· % (if b.toNat * sz = 0 then #[] else zv.cells).size]!)) e (0, 0)) } := by
    have ha1 : ¬ (a < 0) := by omega
    have hab : ¬ (a > b) := by omega
    simp only [Instr.makeSlice, Sem.run_bind, run_underlying ht, Result.andThen_ok, asInt, asIntOf, Sem.run_pure, bb1, bb2, hwa, hwb, szOf_run hs]
    have hc1 : ((decide (b < 0) || decide ((P.bytesOf e : Int) * b > 2 ^ 48)) || decide (a < 0) || decide (a > b)) = false := by simp [hneg, ha1, hab]; omega
    simp only [hc1, Bool.false_eq_true, if_false, Sem.run_bind, run_askRoom, Result.andThen_ok, szOf_run hs]
    by_cases hn : b.toNat * sz = 0
    · simp only [hn, if_true, Sem.run_pure, Result.andThen_ok, newRow, Sem.run_bind, run_newObj]
    · simp only [hn, if_false, Sem.run_bind, hzr, Sem.run_pure, Result.andThen_ok, newRow, run_newObj]
  by_cases hb0 : b = 0
  · refine ⟨.nils, h, by simp [hb0], fun _ => ?_⟩
    have ha0 : a = 0 := by omega
    obtain ⟨hR', hE'⟩ := frozen_after (w' := { w with heap := w.heap.push (.cells ((Array.range (b.toNat * sz)).map ((if b.toNat * sz = 0 then #[] else zv.cells)[· % (if b.toNat * sz = 0 then #[] else zv.cells).size]!)) e (0, 0)) }) hR _ rfl ⟨rfl, rfl, rfl⟩
    refine ⟨_, _, _, _, hrun, hR', ?_, hE'.weaken (fun _ h => h.elim)⟩
    subst hb0; subst ha0
    exact .nils _
  · refine ⟨_, _, by rw [if_neg hb0], fun hsz => ?_⟩
    have hsz0 : sz ≠ 0 := hsz.resolve_left hb0
    have hn : b.toNat * sz ≠ 0 := by
      have : 0 < b.toNat := by omega
      exact Nat.pos_iff_ne_zero.1 (Nat.mul_pos this (Nat.pos_of_ne_zero hsz0))
    simp only [hn, if_false] at hrun
    have hzV : V β h F w z zv := ofValue_V zv z hzo
    have hcc := replicate_cells hzV.cells hzs (Nat.pos_of_ne_zero hsz0) b.toNat
    have hzl : z.cells.length = sz := by rw [hzV.cells.len, hzs]
    obtain ⟨hR', hE'⟩ := alloc_after (w' := { w with heap := w.heap.push (.cells ((Array.range (b.toNat * sz)).map (zv.cells[· % zv.cells.size]!)) e (0, 0)) }) (e := sz) (g := false) (es := List.replicate b.toNat z) hR rfl ⟨rfl, rfl, rfl⟩ (free0 _)
      (fun x hx => by rw [List.eq_of_mem_replicate hx]; exact hzl) (fun _ => by simp) (by simp) hcc.get
    refine ⟨_, _, _, F, hrun, hR', ?_, hE'.weaken (fun _ h => h.elim)⟩
    have := V.slcX (β := upd β h.length w.heap.size) (h := h ++ [.cells 0 sz false (List.replicate b.toNat z)]) (F := F) (w := { w with heap := w.heap.push (.cells ((Array.range (b.toNat * sz)).map (zv.cells[· % zv.cells.size]!)) e (0, 0)) })
      h.length 0 sz 0 0 a.toNat b.toNat w.heap.size sz false (List.replicate b.toNat z) (upd_same _ _ _) (by simp) (by omega) (by simp)
    simpa using this
end
end Go.Eng

/- The engine, part F8: maps. -/
namespace Go.Eng
set_option linter.unusedSectionVars false
set_option linter.unusedSimpArgs false

section
variable {RP : RPred} {β : Beta} {h : Heap} {F : Frz} {w w' : World} {P : Program} {C : Cfg} {f : Nat}

theorem shapeFs_app {g : TypeId → Option (List Leaf)} : ∀ (l : List Field) (acc sh : List Leaf), shapeFs P g l acc = some sh → ∃ r, sh = acc ++ r := by
  intro l
  induction l with
  | nil => intro acc sh hs; simp [shapeFs] at hs; exact ⟨[], by simp [hs]⟩
  | cons fl l ihl =>
    intro acc sh hs
    unfold shapeFs at hs
    split at hs
    · simp at hs
    · split at hs
      · split at hs
        · obtain ⟨r, hr⟩ := ihl _ _ hs
          exact ⟨_, by rw [hr, List.append_assoc]⟩
        · simp at hs
      · simp at hs

theorem ofCells_part {t : TypeId} {us : Array Value} {u : Value} {a n : Nat} {cs : List AV} (h1 : aggT P t = true → u = .agg (us.extract a (a + n))) (h2 : aggT P t = false → ∃ c, cs[a]? = some c ∧ us[a]? = some u ∧ V β h F w c u) (hone : aggT P t = false → n = 1) :
    OfCells P t (us.extract a (a + n)) u := by
  refine ⟨h1, fun h0 => ?_⟩
  obtain ⟨c, _, hc2, _⟩ := h2 h0
  rw [hone h0]
  have hlt : a < us.size := (Array.getElem?_eq_some_iff.1 hc2).1
  apply Array.ext_getElem?
  intro j
  rw [Array.getElem?_extract]
  cases j with
  | zero => rw [if_pos (by omega)]; simpa using hc2
  | succ j => rw [if_neg (by omega)]; simp

/-- a key of plain cells may be hashed -/
theorem checkKey_shape (hP : TypesOK P) (em : Bool) : ∀ (d : Nat) (t : TypeId) (sh : List Leaf), shapeT P d t = some sh → ∀ (D : Nat), d ≤ D → ∀ (cx : List AV) (us : Array Value) (u : Value),
    CellsV β h F w cx us → OfCells P t us u → cx.length = sh.length → (Instr.checkKey em D t u).run P w = .ok () w := by
  intro d
  induction d with
  | zero => intro t sh hs; simp [shapeT] at hs
  | succ d ih =>
    intro t sh hs D hD cx us u hx hu hlen
    obtain ⟨D, rfl⟩ : ∃ k, D = k + 1 := ⟨D - 1, by omega⟩
    unfold shapeT at hs
    split at hs
    · rename_i ht; simp [Instr.checkKey, run_underlying ht]
    · rename_i ht; simp [Instr.checkKey, run_underlying ht]
    · rename_i ht; simp [Instr.checkKey, run_underlying ht]
    · rename_i fs ht
      split at hs
      · simp at hs
      · have ha : aggT P t = true := by simp [aggT, ht]
        have e1 := hu.1 ha
        subst e1
        rw [Instr.checkKey]
        simp only [Sem.run_bind, run_underlying ht, Result.andThen_ok]
        rw [← Array.forIn_toList]
        have key : ∀ (l : List Field) (acc sh : List Leaf), shapeFs P (shapeT P d) l acc = some sh → sh.length = cx.length →
            (forIn l PUnit.unit fun f r => do
              if f.name ≠ "_" then
                let x ← part f.type us f.offset
                Instr.checkKey em D f.type x
                pure (ForInStep.yield PUnit.unit)
              else pure (ForInStep.yield PUnit.unit) : Sem PUnit).run P w = .ok ⟨⟩ w := by
          intro l
          induction l with
          | nil => intro acc sh hs _; simp
          | cons fl l ihl =>
            intro acc sh hs hcx
            unfold shapeFs at hs
            split at hs
            · simp at hs
            · rename_i hc
              simp only [not_or, ne_eq, Decidable.not_not] at hc
              obtain ⟨hname, hoff⟩ := hc
              split at hs
              · rename_i s hsf
                split at hs
                · rename_i hsz
                  obtain ⟨rest', hrest'⟩ := shapeFs_app _ _ _ hs
                  have htot : acc.length + s.length ≤ cx.length := by rw [← hcx, hrest']; simp
                  have hone : aggT P fl.type = false → s.length = 1 := shapeT_scalar hsf
                  obtain ⟨pu, hpu, hpu1, hpu2⟩ := part_run hP hsz hx htot hone
                  have hE := ih fl.type s hsf D (by omega) _ _ pu (hx.extract _ _ htot) (ofCells_part hpu1 hpu2 hone) (by simp; omega)
                  simp only [List.forIn_cons, Sem.run_bind, hname, ne_eq, not_false_eq_true, if_true, Result.andThen_ok, hoff, hpu, hE, Sem.run_pure]
                  exact ihl _ _ hs hcx
                · simp at hs
              · simp at hs
        have hk := key fs.toList [] sh hs hlen.symm
        simp only [Sem.run_pure] at hk ⊢
        rw [hk]; rfl
    · rename_i n e ht
      cases hse : shapeT P d e with
      | none => rw [hse] at hs; simp at hs
      | some s =>
        rw [hse] at hs; dsimp only at hs
        split at hs
        · rename_i hsz
          simp at hs; subst hs
          have ha : aggT P t = true := by simp [aggT, ht]
          have e1 := hu.1 ha
          subst e1
          have hone : aggT P e = false → s.length = 1 := shapeT_scalar hse
          have htotal : (List.replicate n s).flatten.length = n * s.length := by simp
          rw [Instr.checkKey]
          simp only [Sem.run_bind, run_underlying ht, Result.andThen_ok]
          simp only [Std.Legacy.Range.forIn_eq_forIn_range', Std.Legacy.Range.size, Nat.sub_zero, Nat.add_one_sub_one, Nat.div_one]
          have hall : ∀ i ∈ List.range' 0 n, i < n := fun i hi => by simp at hi; omega
          generalize List.range' 0 n = is at hall
          induction is with
          | nil => simp
          | cons i is ihi =>
            have hin := hall i (by simp)
            have htot : i * s.length + s.length ≤ cx.length := by rw [hlen, htotal, ← Nat.succ_mul]; exact Nat.mul_le_mul_right _ (by omega)
            obtain ⟨pu, hpu, hpu1, hpu2⟩ := part_run hP hsz hx htot hone
            have hE := ih e s hse D (by omega) _ _ pu (hx.extract _ _ htot) (ofCells_part hpu1 hpu2 hone) (by simp; omega)
            simp only [List.forIn_cons, Sem.run_bind, szOf_run hsz, Result.andThen_ok, hpu, hE, Sem.run_pure]
            exact ihi fun j hj => hall j (by simp [hj])
        · simp at hs
    · simp at hs

/-- the entry that a key finds -/
theorem find_sound (hP : TypesOK P) {kt : TypeId} {sh : List Leaf} (hs : plainT P kt = some sh) {k : AV} {uk : Value} (hk : V β h F w k uk) :
    ∀ {es : List (AV × AV)} {ms : List MapEntry} (i : Nat), es.length = ms.length → (∀ (j : Nat) (k v : AV) (m : MapEntry), es[j]? = some (k, v) → ms[j]? = some m → V β h F w k m.key ∧ V β h F w v m.val) →
    ∀ {r : Option AV}, findA (aggT P kt) sh k es = some r →
      ((r = none ∧ (∀ v', putA (aggT P kt) sh k v' es = some (es ++ [(k, v')])) ∧ (Instr.findAsking kt uk ms i).run P w = .ok none w) ∨
       (∃ (j : Nat) (kk v : AV) (m : MapEntry), r = some v ∧ es[j]? = some (kk, v) ∧ ms[j]? = some m ∧ eqT (aggT P kt) sh k kk = some true ∧ (∀ v', putA (aggT P kt) sh k v' es = some (es.set j (k, v'))) ∧ (Instr.findAsking kt uk ms i).run P w = .ok (some (i + j, m.val)) w)) := by
  intro es
  induction es with
  | nil =>
    intro ms i hl _ r hr
    have : ms = [] := List.length_eq_zero_iff.1 (by simpa using hl.symm)
    subst this
    simp [findA] at hr
    exact .inl ⟨hr.symm, fun v' => by simp [putA], by simp [Instr.findAsking]⟩
  | cons e es ih =>
    obtain ⟨k', v⟩ := e
    intro ms i hl hV r hr
    cases ms with
    | nil => simp at hl
    | cons m ms =>
      obtain ⟨hk', hv'⟩ := hV 0 k' v m rfl rfl
      unfold findA at hr
      split at hr
      · rename_i heq
        simp at hr; subst hr
        have hE := equal_plain hP hs heq hk hk' 10000 (by omega)
        refine .inr ⟨0, k', v, m, rfl, rfl, rfl, heq, fun v' => by simp [putA, heq], ?_⟩
        have : (Op.equal kt uk m.key).run P w = .ok true w := hE
        simp [Instr.findAsking, this]
      · rename_i heq
        have hE : (Op.equal kt uk m.key).run P w = .ok false w := equal_plain hP hs heq hk hk' 10000 (by omega)
        rcases ih (i + 1) (by simpa using hl) (fun j k v m hj hm => hV (j + 1) k v m hj hm) hr with ⟨h1, h3, h2⟩ | ⟨j, kk, v2, m2, h1, h2, h3, h4, h5, h6⟩
        · exact .inl ⟨h1, fun v' => by simp [putA, heq, h3 v'], by simp [Instr.findAsking, hE, h2]⟩
        · refine .inr ⟨j + 1, kk, v2, m2, h1, h2, h3, h4, fun v' => by simp [putA, heq, h5 v'], ?_⟩
          simp only [Instr.findAsking, Sem.run_bind, hE, Result.andThen_ok, Bool.false_eq_true, if_false, h6]
          congr 3; omega
      · simp at hr

theorem sameNow_equal {kt : TypeId} {d : TypeDesc} (hd : P.underlying kt = some d) {a b : Value} {c : Bool} (hs : Instr.sameNow d a b = some c) : (Op.equal kt a b).run P w = .ok c w := by
  unfold Instr.sameNow at hs
  split at hs
  · rename_i k0 k x k' y
    split at hs
    · rename_i hk; subst hk
      simp at hs; subst hs
      exact run_equalIn_int w 9999 kt k k0 x y hd
    · simp at hs
  · simp at hs; subst hs
    rw [beq_toListBytes]
    exact run_equalIn_string w 9999 kt _ _ hd
  · simp at hs; subst hs
    exact run_equalIn_bool' w 9999 kt _ _ hd
  · simp at hs

theorem findNow_asking {kt : TypeId} {d : TypeDesc} (hd : P.underlying kt = some d) (uk : Value) : ∀ (ms : List MapEntry) (i : Nat) (r : Option (Nat × Value)), Instr.findNow d uk ms i = some r → (Instr.findAsking kt uk ms i).run P w = .ok r w
  | [], i, r, hr => by simp [Instr.findNow] at hr; subst hr; simp [Instr.findAsking]
  | m :: ms, i, r, hr => by
    unfold Instr.findNow at hr
    split at hr
    · rename_i hs
      simp at hr; subst hr
      simp [Instr.findAsking, sameNow_equal (w := w) hd hs]
    · rename_i hs
      simp [Instr.findAsking, sameNow_equal (w := w) hd hs, findNow_asking hd uk ms (i + 1) r hr]
    · simp at hr

theorem run_findKey {kt : TypeId} {d : TypeDesc} (hd : P.underlying kt = some d) (uk : Value) (ms : List MapEntry) {r : Option (Nat × Value)} (hr : (Instr.findAsking kt uk ms).run P w = .ok r w) : (Instr.findKey kt uk ms).run P w = .ok r w := by
  unfold Instr.findKey
  simp only [Sem.run_bind, run_underlying hd, Result.andThen_ok]
  split
  · rename_i r' hf
    have := findNow_asking (w := w) hd uk ms 0 r' hf
    rw [this] at hr
    simp at hr ⊢; exact hr
  · exact hr

theorem V.plainEq : ∀ {sh : List Leaf} {xs ys : List AV}, eqL sh xs ys = some true → ∀ {us vs : Array Value}, CellsV β h F w xs us → CellsV β h F w ys vs → us = vs := by
  intro sh xs ys he us vs hx hy
  have hl := eqL_len he
  have key : ∀ (sh : List Leaf) (xs ys : List AV), eqL sh xs ys = some true → ∀ (j : Nat) (x y : AV) (u v : Value), xs[j]? = some x → ys[j]? = some y → V β h F w x u → V β h F w y v → u = v := by
    intro sh
    induction sh with
    | nil => intro xs ys he; obtain ⟨rfl, rfl, _⟩ := eqL_nil he; intro j x y u v hx; simp at hx
    | cons l sh ih =>
      intro xs ys he j x y u v hx hy hu hv
      obtain ⟨x0, xs', y0, ys', b0, b1, rfl, rfl, hr, hb, hall⟩ := eqL_cons he
      have hb' : b0 = true ∧ b1 = true := by revert hb; cases b0 <;> cases b1 <;> simp
      obtain ⟨rfl, rfl⟩ := hb'
      cases j with
      | zero =>
        simp at hx hy; subst hx; subst hy
        clear ih hl hr
        cases l with
        | b => cases x0 <;> cases y0 <;> simp [eqL] at he; cases hu; cases hv; simp [he]
        | i => cases x0 <;> cases y0 <;> simp [eqL] at he; cases hu; cases hv; simp [he]
        | s => cases x0 <;> cases y0 <;> simp [eqL] at he; cases hu; cases hv; simp [he]
      | succ j => exact ih xs' ys' hr j x y u v (by simpa using hx) (by simpa using hy) hu hv
  apply Array.ext
  · rw [← hx.len, ← hy.len, hl.1, hl.2]
  · intro j h1 h2
    have hjx : j < xs.length := by rw [hx.len]; exact h1
    have hjy : j < ys.length := by rw [hy.len]; exact h2
    exact key sh xs ys he j _ _ _ _ (List.getElem?_eq_getElem hjx) (List.getElem?_eq_getElem hjy) (hx.val j _ _ (List.getElem?_eq_getElem hjx) (Array.getElem?_eq_getElem h1)) (hy.val j _ _ (List.getElem?_eq_getElem hjy) (Array.getElem?_eq_getElem h2))

/-- plain values that are equal are one value -/
theorem V.eqT_eq {t : TypeId} {sh : List Leaf} {x y : AV} (he : eqT (aggT P t) sh x y = some true) {ux uy : Value} (hx : V β h F w x ux) (hy : V β h F w y uy) : ux = uy := by
  unfold eqT at he
  split at he
  · rename_i hag
    have h1 := hx.ofCells (P := P) (t := t) hag.1
    have h2 := hy.ofCells (P := P) (t := t) hag.2
    have h3 := V.plainEq he hx.cells hy.cells
    cases ha : aggT P t with
    | true => rw [h1.1 ha, h2.1 ha, h3]
    | false =>
      have e1 := h1.2 ha; have e2 := h2.2 ha
      rw [e1, e2] at h3; simpa using h3
  · simp at he

theorem eqL_one {sh : List Leaf} {x : AV} {b : Bool} (he : eqL sh [x] [x] = some b) : (∃ b, x = .bool b) ∨ (∃ k n, x = .int k n) ∨ (∃ s, x = .str s) := by
  match sh, he with
  | l :: sh, he =>
    cases l <;> cases x <;> simp [eqL] at he <;> simp

/-- a plain value's bits -/
theorem V.sameBits {t : TypeId} {sh : List Leaf} {x : AV} {b : Bool} (he : eqT (aggT P t) sh x x = some b) {u : Value} (hx : V β h F w x u) : ∀ n, Instr.sameBits (n + 1) u u = true := by
  intro n
  unfold eqT at he
  split at he
  · rename_i hag
    have leaf : ∀ (sh : List Leaf) (xs : List AV) (b : Bool), eqL sh xs xs = some b → ∀ x ∈ xs, ∀ u, V β h F w x u → ∀ n, Instr.sameBits n u u = true := by
      intro sh
      induction sh with
      | nil => intro xs b he; obtain ⟨rfl, _, _⟩ := eqL_nil he; simp
      | cons l sh ih =>
        intro xs b he x hx u hu n
        obtain ⟨x0, xs', y0, ys', b0, b1, rfl, h2, hr, hb, hall⟩ := eqL_cons he
        simp at h2; obtain ⟨rfl, rfl⟩ := h2
        rcases List.mem_cons.1 hx with rfl | hx
        · cases l <;> cases x <;> simp [eqL] at he <;> cases hu <;> cases n <;> simp [Instr.sameBits, beq_toListBytes]
        · exact ih xs' b1 hr x hx u hu n
    cases hx with
    | agg cs us hl hv =>
      simp only [Instr.sameBits, beq_self_eq_true, Bool.true_and, List.all_eq_true]
      intro p hp
      obtain ⟨a, b'⟩ := p
      rw [List.mem_iff_getElem?] at hp
      obtain ⟨j, hj⟩ := hp
      rw [List.getElem?_zip_eq_some] at hj
      simp at hj
      obtain ⟨h1, h2⟩ := hj
      rw [h1] at h2; simp at h2; subst h2
      have hjl : j < cs.length := by rw [hl]; exact (Array.getElem?_eq_some_iff.1 h1).1
      exact leaf sh cs b he _ (List.getElem_mem hjl) _ (hv j _ _ (List.getElem?_eq_getElem hjl) h1) n
    | bool b => simp [Instr.sameBits]
    | int k n => simp [Instr.sameBits]
    | str s => simp [Instr.sameBits, beq_toListBytes]
    | _ =>
      simp only [AV.cells] at he
      rcases eqL_one he with ⟨b, hb⟩ | ⟨k, n, hb⟩ | ⟨s, hb⟩ <;> simp at hb
  · simp at he
end
end Go.Eng

/- The engine, part F9: maps, read and written. -/
namespace Go.Eng
set_option linter.unusedSectionVars false
set_option linter.unusedSimpArgs false

section
variable {RP : RPred} {β : Beta} {h : Heap} {F : Frz} {w w' : World} {P : Program} {C : Cfg} {f : Nat}

theorem checkKey_eqT (hP : TypesOK P) {kt : TypeId} {sh : List Leaf} (hs : plainT P kt = some sh) {k : AV} {b : Bool} (he : eqT (aggT P kt) sh k k = some b) {uk : Value} (hk : V β h F w k uk) (em : Bool) :
    (Instr.checkKey em 10000 kt uk).run P w = .ok () w := by
  unfold plainT at hs
  split at hs
  · simp at hs
  · unfold eqT at he
    split at he
    · rename_i hag
      exact checkKey_shape hP em 20 kt sh hs 10000 (by omega) _ _ _ hk.cells (hk.ofCells hag.1) (eqL_len he).1
    · simp at he

theorem run_lookup_eq (t kt e : TypeId) (ht : P.underlying t = some (.map kt e)) (um uk : Value) (ok : Bool) {ms : Array MapEntry} (hm : (um = .map none ∧ ms = #[]) ∨ ∃ b clock, um = .map (some b) ∧ w.heap[b]? = some (.map ms clock)) :
    (Instr.lookup t um uk ok).run P w = (do
    Instr.checkKey ms.isEmpty 10000 kt uk
    let (v, b) ← match ← Instr.findKey kt uk ms.toList with
      | some (_, v) => pure (v, true)
      | none => pure (← zeroValue e, false)
    pure (if ok then Value.tuple #[v, .bool b] else v) : Sem Value).run P w := by
  unfold Instr.lookup
  rcases hm with ⟨rfl, rfl⟩ | ⟨b, clock, rfl, h1⟩
  · simp only [Sem.run_bind, run_underlying ht, Result.andThen_ok, Sem.run_pure]; rfl
  · simp only [Sem.run_bind, run_underlying ht, Result.andThen_ok, Sem.run_pure, MapKept.run_getObj_map h1]; rfl

def lkRes (ok : Bool) (z : AV) : Option AV → AV
  | some v => if ok then .tup [v, .bool true] else v
  | none => if ok then .tup [z, .bool false] else z

theorem lookup_sound (hP : ProgOK P) (hR : Rel RP β F h w) {t kt e : TypeId} (ht : P.underlying t = some (.map kt e)) {sh : List Leaf} (hs : plainT P kt = some sh) {z : AV} (hz : zeroOf P e = some z) {ok : Bool} {m k : AV} {um uk : Value}
    (hm : V β h F w m um) (hk : V β h F w k uk) {dk : TypeDesc} (hdk : P.underlying kt = some dk) {es : List (AV × AV)} (hme : m = .nilm ∧ es = [] ∨ ∃ n, m = .mapr n ∧ h[n]? = some (.map es)) {b : Bool} (he : eqT (aggT P kt) sh k k = some b)
    {r : Option AV} (hr : findA (aggT P kt) sh k es = some r) {v : AV} (hv : v = lkRes ok z r) :
    ∃ u, (Instr.lookup t um uk ok).run P w = .ok u w ∧ V β h F w v u := by
  obtain ⟨i, hi, zv, hzv, hzo⟩ : ∃ i, P.info? e = some i ∧ ∃ zv, i.zero = some zv ∧ ofValue zv = some z := by
    obtain ⟨_, i, hi, v, hv, e⟩ := zeroOf_inv hz
    exact ⟨i, hi, v, hv, e⟩
  have hzr : ∀ w : World, (zeroValue e).run P w = .ok zv w := fun w => by simp [zeroValue, typeInfo, hi, hzv]
  have hzV : V β h F w z zv := ofValue_V zv z hzo
  -- the entries
  obtain ⟨ms, hms, hl, hV⟩ : ∃ ms : Array MapEntry, ((um = .map none ∧ ms = #[]) ∨ ∃ b clock, um = .map (some b) ∧ w.heap[b]? = some (.map ms clock)) ∧
      es.length = ms.toList.length ∧ (∀ (j : Nat) (k v : AV) (m : MapEntry), es[j]? = some (k, v) → ms.toList[j]? = some m → V β h F w k m.key ∧ V β h F w v m.val) := by
    rcases hme with ⟨rfl, rfl⟩ | ⟨n, rfl, hn⟩
    · have := hm.nilm_eq; subst this
      exact ⟨#[], .inl ⟨rfl, rfl⟩, rfl, fun j k v m h => by simp at h⟩
    · cases hm with
      | mapr n b es' hb hh =>
        obtain ⟨ms, clock, h1, h2, h3⟩ := hR.blk n b _ hb hn
        exact ⟨ms, .inr ⟨b, clock, rfl, h1⟩, by simpa using h2.symm, fun j k v m hj hm => h3 j k v m hj (by simpa using hm)⟩
      | mapS n b hs => rw [hn] at hs; simp at hs
  have hF := find_sound hP.types hs hk 0 hl hV hr
  rw [run_lookup_eq t kt e ht um uk ok hms]
  simp only [Result.andThen_ok, Sem.run_bind, checkKey_eqT hP.types hs he hk]
  rcases hF with ⟨rfl, _, hfa⟩ | ⟨j, kk, v2, m2, rfl, h2, h3, _, _, hfa⟩
  · rw [run_findKey hdk uk _ hfa]
    simp only [Result.andThen_ok, Sem.run_bind, hzr, Sem.run_pure]
    subst hv
    cases ok
    · exact ⟨_, rfl, hzV⟩
    · refine ⟨_, rfl, .tup _ _ rfl fun j c u hj hu => ?_⟩
      match j with
      | 0 => simp at hj hu; subst hj; subst hu; exact hzV
      | 1 => simp at hj hu; subst hj; subst hu; exact .bool _
      | j + 2 => simp at hj
  · rw [run_findKey hdk uk _ hfa]
    simp only [Result.andThen_ok, Sem.run_bind, Sem.run_pure]
    have hvv := (hV j kk v2 m2 h2 h3).2
    subst hv
    cases ok
    · exact ⟨_, rfl, hvv⟩
    · refine ⟨_, rfl, .tup _ _ rfl fun j c u hj hu => ?_⟩
      match j with
      | 0 => simp at hj hu; subst hj; subst hu; exact hvv
      | 1 => simp at hj hu; subst hj; subst hu; exact .bool _
      | j + 2 => simp at hj

/-- a map's entries turned -/
theorem writem_after (hR : Rel RP β F h w) {n b : Nat} {es es' : List (AV × AV)} (hb : β n = some b) (hh : h[n]? = some (.map es)) {ms ms' : Array MapEntry} {ck ck' : Nat}
    (hw : w.heap[b]? = some (.map ms ck)) (hw' : w' = { w with heap := w.heap.setIfInBounds b (.map ms' ck') }) (hl : ms'.size = es'.length)
    (hc : ∀ (j : Nat) (k v : AV) (m : MapEntry), es'[j]? = some (k, v) → ms'[j]? = some m → V β h F w k m.key ∧ V β h F w v m.val) :
    Rel RP β F (h.set n (.map es')) w' ∧ Ext (fun m => m = n) β F h w β F (h.set n (.map es')) w' := by
  have hn : n < h.length := (List.getElem?_eq_some_iff.1 hh).1
  have hbl : b < w.heap.size := (Array.getElem?_eq_some_iff.1 hw).1
  have hoth : ∀ b', b' ≠ b → w'.heap[b']? = w.heap[b']? := fun b' hb' => by subst hw'; simp [Array.getElem?_setIfInBounds, Ne.symm hb']
  have hhere : w'.heap[b]? = some (.map ms' ck') := by subst hw'; simp [Array.getElem?_setIfInBounds, hbl]
  have hhs : w'.heap.size = w.heap.size := by subst hw'; simp
  have hE : Ext (fun m => m = n) β F h w β F (h.set n (.map es')) w' := {
    len := by simp
    blk := fun m B hB => by
      by_cases hm : m = n
      · subst hm
        rw [hh] at hB; simp at hB; subst hB
        refine ⟨_, List.getElem?_set_self hn, .inl ⟨by simp [Kept], rfl, fun b' hb' => ?_⟩⟩
        rw [hb] at hb'; simp at hb'; subst hb'
        simp [sizeAt, hw, hhere]
      · refine ⟨B, by rw [List.getElem?_set_ne (Ne.symm hm)]; exact hB, .inl ⟨Kept.refl _, rfl, fun b' hb' => ?_⟩⟩
        have : b' ≠ b := fun he => hm (hR.inj m n b' hb' (he ▸ hb))
        simp [sizeAt, hoth b' this]
    frz := fun _ _ hf => hf
    old := fun b' _ hW => hoth b' fun he => hW n rfl (he ▸ hb)
    size := by omega
    news := fun m b' hm => .inl ⟨hm, hR.out m b' hm⟩
    newF := fun _ _ hf => .inl hf
    none_ := fun m hl hm => ⟨hm, by rw [List.getElem?_set_ne]; intro he; subst he; rw [hb] at hm; simp at hm⟩
    os := by subst hw'; rfl
    output := by subst hw'; rfl
    tape := by subst hw'; rfl }
  refine ⟨Rel.step hE hR ?_ ?_ (fun m b' hm => by simpa using hR.out m b' hm) hR.inj hR.apart ?_, hE⟩
  · intro m b' B hm hB hnc
    by_cases hmn : m = n
    · subst hmn
      rw [hb] at hm; simp at hm; subst hm
      rw [List.getElem?_set_self hn] at hB; simp at hB; subst hB
      exact ⟨ms', ck', hhere, hl, fun j k v m hj hm => ⟨(hc j k v m hj hm).1.ext hE hR, (hc j k v m hj hm).2.ext hE hR⟩⟩
    · rw [List.getElem?_set_ne (Ne.symm hmn)] at hB
      exact absurd ⟨hm, hB, hmn⟩ hnc
  · intro m b' hm; rw [hhs]; exact hR.lt m b' hm
  · intro b' o hF hnF; exact absurd hF hnF

theorem mapset_sound (hP : ProgOK P) (hR : Rel RP β F h w) {t kt e : TypeId} (ht : P.underlying t = some (.map kt e)) {sh : List Leaf} (hs : plainT P kt = some sh) {n : Nat} {k v : AV} {um uk uv : Value}
    (hm : V β h F w (.mapr n) um) (hk : V β h F w k uk) (hv : V β h F w v uv) {dk : TypeDesc} (hdk : P.underlying kt = some dk) {es : List (AV × AV)} (hn : h[n]? = some (.map es)) {b : Bool} (he : eqT (aggT P kt) sh k k = some b)
    {es' : List (AV × AV)} (hp : putA (aggT P kt) sh k v es = some es') :
    ∃ w', (Instr.mapUpdate t um uk uv).run P w = .ok () w' ∧ Rel RP β F (h.set n (.map es')) w' ∧ Ext (fun m => m = n) β F h w β F (h.set n (.map es')) w' := by
  cases hm with
  | mapS n b hs => rw [hn] at hs; simp at hs
  | mapr n b0 es0 hb hh =>
    obtain ⟨ms, clock, h1, h2, h3⟩ := hR.blk n b0 _ hb hn
    obtain ⟨r, hr⟩ : ∃ r, findA (aggT P kt) sh k es = some r := by
      clear hh hn h2 h3 h1
      induction es generalizing es' with
      | nil => exact ⟨_, rfl⟩
      | cons q es ih =>
        obtain ⟨k', v'⟩ := q
        unfold putA at hp
        unfold findA
        split at hp
        · exact ⟨_, rfl⟩
        · split at hp
          · rename_i hp'; exact ih hp'
          · simp at hp
        · simp at hp
    have hF := find_sound hP.types hs hk 0 (es := es) (ms := ms.toList) (by simpa using h2.symm) (fun j k v m hj hm => h3 j k v m hj (by simpa using hm)) hr
    simp only [Instr.mapUpdate, Sem.run_bind, run_underlying ht, Result.andThen_ok, MapKept.run_getObj_map h1, checkKey_eqT hP.types hs he hk]
    rcases hF with ⟨rfl, hput, hfa⟩ | ⟨j, kk, v2, m2, rfl, g2, g3, g4, hput, hfa⟩
    · rw [hput v] at hp; simp at hp; subst hp
      rw [run_findKey hdk uk _ hfa]
      simp only [Result.andThen_ok]
      rw [MapKept.run_setObj_map _ h1]
      refine ⟨_, rfl, writem_after hR hb hn h1 rfl (by simp [h2]) fun i k' v' m hi hm' => ?_⟩
      by_cases hlt : i < es.length
      · rw [List.getElem?_append_left hlt] at hi
        rw [Array.getElem?_push, if_neg (by omega)] at hm'
        exact h3 i k' v' m hi hm'
      · have hil := (List.getElem?_eq_some_iff.1 hi).1
        simp at hil
        have : i = es.length := by omega
        subst this
        simp at hi
        rw [Array.getElem?_push, if_pos h2.symm] at hm'
        simp at hm'
        obtain ⟨rfl, rfl⟩ := hi
        subst hm'
        exact ⟨hk, hv⟩
    · rw [hput v] at hp; simp at hp; subst hp
      rw [run_findKey hdk uk _ hfa]
      have hkv := h3 j kk v2 m2 g2 (by simpa using g3)
      have hkeq : uk = m2.key := V.eqT_eq g4 hk hkv.1
      have hb2 := V.sameBits he hk 9999
      have hg3 : ms[j]? = some m2 := by simpa using g3
      have hks : (Instr.keyThatStays (((ms[0 + j]?).map (·.key)).getD uk) uk).run P w = .ok uk w := by
        rw [Nat.zero_add, hg3]
        simp only [Option.map_some, Option.getD_some, ← hkeq, Instr.keyThatStays, hb2, if_true, Sem.run_pure]
      simp only [Result.andThen_ok, Sem.run_bind, hks]
      rw [MapKept.run_setObj_map _ h1]
      refine ⟨_, rfl, writem_after hR hb hn h1 rfl (by simp [h2]) fun i k' v' m hi hm' => ?_⟩
      rw [Nat.zero_add, Array.getElem?_modify] at hm'
      by_cases hij : j = i
      · subst hij
        rw [List.getElem?_set_self (List.getElem?_eq_some_iff.1 g2).1] at hi
        rw [if_pos rfl, hg3] at hm'
        simp at hi hm'
        obtain ⟨rfl, rfl⟩ := hi
        subst hm'
        exact ⟨hk, hv⟩
      · rw [List.getElem?_set_ne hij] at hi
        rw [if_neg hij] at hm'
        exact h3 i k' v' m hi hm'
end
end Go.Eng

