import Derived.Test.YtghmlonankhcgaaGreatDoorEngG
import Derived.Orders
/- The engine, part H1: what an operation hangs on. -/
namespace Go.Eng
set_option linter.unusedSectionVars false
set_option linter.unusedSimpArgs false

mutual
theorem AV.beq_eq : ∀ {x y : AV}, x.beq y = true → x = y
  | .bool a, y, h => by cases y <;> simp [AV.beq] at h; rw [h]
  | .int k a, y, h => by cases y <;> simp [AV.beq] at h; rw [h.1, h.2]
  | .str a, y, h => by cases y <;> simp [AV.beq] at h; rw [h]
  | .nilp, y, h => by cases y <;> simp [AV.beq] at h; rfl
  | .nils, y, h => by cases y <;> simp [AV.beq] at h; rfl
  | .nilm, y, h => by cases y <;> simp [AV.beq] at h; rfl
  | .nilf, y, h => by cases y <;> simp [AV.beq] at h; rfl
  | .nili, y, h => by cases y <;> simp [AV.beq] at h; rfl
  | .agg xs, y, h => by cases y <;> simp [AV.beq] at h; rw [AV.beqs_eq h]
  | .tup xs, y, h => by cases y <;> simp [AV.beq] at h; rw [AV.beqs_eq h]
  | .lst xs, y, h => by cases y <;> simp [AV.beq] at h; rw [AV.beqs_eq h]
  | .cref xs, y, h => by cases y <;> simp [AV.beq] at h; rw [AV.beqs_eq h]
  | .ptr n v i o, y, h => by cases y <;> simp [AV.beq] at h; obtain ⟨⟨⟨rfl, rfl⟩, rfl⟩, rfl⟩ := h; rfl
  | .slc n v s i o l c, y, h => by cases y <;> simp [AV.beq] at h; obtain ⟨⟨⟨⟨⟨⟨rfl, rfl⟩, rfl⟩, rfl⟩, rfl⟩, rfl⟩, rfl⟩ := h; rfl
  | .mapr n, y, h => by cases y <;> simp [AV.beq] at h; rw [h]
  | .clo f xs, y, h => by cases y <;> simp [AV.beq] at h; rw [h.1, AV.beqs_eq h.2]
theorem AV.beqs_eq : ∀ {xs ys : List AV}, AV.beqs xs ys = true → xs = ys
  | [], ys, h => by cases ys <;> simp [AV.beqs] at h; rfl
  | x :: xs, ys, h => by
    cases ys <;> simp [AV.beqs] at h
    rw [AV.beq_eq h.1, AV.beqs_eq h.2]
end

theorem aop_congr {h : Heap} {ρ ρ' : Opd → AV} {c : AOp} (hc : ∀ y ∈ c.opds, ρ y = ρ' y) : aop h ρ c = aop h ρ' c := by
  cases c <;> simp only [AOp.opds, List.mem_cons, List.not_mem_nil, or_false, forall_eq_or_imp, forall_eq, List.mem_map, forall_exists_index, and_imp, List.mem_append, List.cons_append] at hc
  case iaddr sz arr x i => cases arr <;> simp [aop, hc]
  case len b x => cases b <;> simp [aop, hc]
  case build z ps =>
    have : (ps.map fun (o, s, x) => (o, s, ρ x)) = ps.map fun (o, s, x) => (o, s, ρ' x) := List.map_congr_left fun p hp => by obtain ⟨o, s, x⟩ := p; simp only [hc x (o, s, x) hp rfl]
    simp only [aop, this]
  case lit lv e n z ps =>
    have : (ps.map fun (o, x) => (o, ρ x)) = ps.map fun (o, x) => (o, ρ' x) := List.map_congr_left fun p hp => by obtain ⟨o, x⟩ := p; simp only [hc x (o, x) hp rfl]
    simp only [aop, this]
  case slice k x lo hi mx =>
    obtain ⟨h1, h2⟩ := hc
    have e1 : lo.map ρ = lo.map ρ' := by cases lo <;> simp; exact h2 _ (by simp)
    have e2 : hi.map ρ = hi.map ρ' := by cases hi <;> simp; exact h2 _ (by simp)
    have e3 : mx.map ρ = mx.map ρ' := by cases mx <;> simp; exact h2 _ (by simp)
    simp only [aop, h1, e1, e2, e3]
  case call g as =>
    have : as.map ρ = as.map ρ' := List.map_congr_left hc
    simp only [aop, this]
  case callv x as =>
    have : as.map ρ = as.map ρ' := List.map_congr_left hc.2
    simp only [aop, this, hc.1]
  case minmax m as =>
    have : as.map ρ = as.map ρ' := List.map_congr_left hc
    simp only [aop, this]
  case mkfunc g as =>
    have : as.map ρ = as.map ρ' := List.map_congr_left hc
    simp only [aop, this]
  all_goals simp only [aop, hc]

theorem evo_cst (tm tm' : Tm) (x : Opd) : evo tm' (cst tm x) = evo tm x := rfl

theorem aop_fixed {h : Heap} {tm tm' : Tm} {c : AOp} (hl : c.looks = true) : aop h (evo tm') (c.fixed tm) = aop h (evo tm) c := by
  cases c <;> simp [AOp.looks] at hl
  case iaddr sz arr x i => cases arr <;> simp [aop, AOp.fixed, evo_cst]
  case slice k x lo hi mx =>
    have e : ∀ y : Option Opd, (y.map (cst tm)).map (evo tm') = y.map (evo tm) := fun y => by cases y <;> simp [evo_cst]
    simp only [aop, AOp.fixed, evo_cst, e]
  all_goals simp only [aop, AOp.fixed, evo_cst]

def laidB : AOp → Option Blk
  | .alloc e z => some (.cells 0 e false [z])
  | .mkmap => some (.map [])
  | _ => none

/-- what neither looks nor acts does not hang on the heap -/
theorem aop_noheap {h h' : Heap} {ρ : Opd → AV} {c : AOp} (hl : c.looks = false) (ha : c.acts = false) (hn : laidB c = none) : aop h ρ c = aop h' ρ c := by
  cases c <;> simp [AOp.looks, AOp.acts, laidB] at hl ha hn <;> try rfl
  case len b x => cases b <;> rfl
  case lit lv e n z ps =>
    cases lv <;> simp [AOp.acts] at ha
    simp only [aop, Bool.false_eq_true, if_false]

theorem aop_calm_val {h : Heap} {ρ : Opd → AV} {c : AOp} (ha : c.acts = false) (hn : laidB c = none) {r : ORes} (hr : aop h ρ c = some r) : ∃ v, r = .val v := by
  cases c <;> simp [AOp.acts, laidB] at ha hn
  case iaddr sz arr x i => cases arr <;> simp [aop, Option.bind_eq_some_iff] at hr <;> (obtain ⟨_, _, _, _, rfl⟩ := hr; exact ⟨_, rfl⟩)
  case len b x => cases b <;> simp [aop] at hr <;> (obtain ⟨_, _, rfl⟩ := hr; exact ⟨_, rfl⟩)
  case eq ng ag sh x y => simp only [aop, Option.map_eq_some_iff] at hr; obtain ⟨_, _, rfl⟩ := hr; exact ⟨_, rfl⟩
  case eqNil ng k x y => simp only [aop, Option.map_eq_some_iff] at hr; obtain ⟨_, _, rfl⟩ := hr; exact ⟨_, rfl⟩
  case lit lv e n z ps =>
    cases lv <;> simp [AOp.acts] at ha
    simp only [aop, Bool.false_eq_true, if_false] at hr
    (repeat' (split at hr)) <;> simp at hr <;> subst hr <;> exact ⟨_, rfl⟩
  all_goals
    unfold aop at hr
    dsimp only at hr
    (repeat' (split at hr)) <;> first | (simp at hr; done) | (simp at hr; subst hr; exact ⟨_, rfl⟩) | (simp at hr; obtain ⟨_, _, rfl⟩ := hr; exact ⟨_, rfl⟩) | (simp [Option.bind_eq_some_iff] at hr; obtain ⟨_, _, _, _, rfl⟩ := hr; exact ⟨_, rfl⟩)
end Go.Eng

/- The engine, part H2: a block that was laid ahead is made. -/
namespace Go.Eng
set_option linter.unusedSectionVars false
set_option linter.unusedSimpArgs false

section
variable {RP : RPred} {β β0 : Beta} {h h0 : Heap} {F F0 : Frz} {w w0 w' : World} {P : Program} {C : Cfg} {f : Nat}

theorem V.mat {n : Nat} (hn : β n = none) (hold : ∀ b, b < w.heap.size → w'.heap[b]? = w.heap[b]?) (hF : ∀ b o, F b o → b < w.heap.size) {v : AV} {u : Value} (hv : V β h F w v u) (nb : Nat) : V (upd β n nb) h F w' v u := by
  have ne : ∀ {k b : Nat}, β k = some b → upd β n nb k = some b := fun {k b} hk => by
    rw [upd_ne β _ (fun e => by subst e; rw [hn] at hk; simp at hk)]; exact hk
  have cell : ∀ {b o : Nat} {u : Value}, F b o → w.cell? ⟨b, o, none⟩ = some u → w'.cell? ⟨b, o, none⟩ = some u := fun {b o u} hf hu => by
    have := hold b (hF b o hf)
    simpa [World.cell?, this] using hu
  induction hv with
  | bool b => exact .bool b
  | int k n => exact .int k n
  | str s => exact .str s
  | nilp => exact .nilp
  | nils a => exact .nils a
  | nilm => exact .nilm
  | nilf => exact .nilf
  | nili => exact .nili
  | agg cs us hl hv ih => exact .agg cs us hl ih
  | tup cs us hl hv ih => exact .tup cs us hl ih
  | clo f cs us hl hv ih => exact .clo f cs us hl ih
  | lst0 a cap => exact .lst0 a cap
  | lst xs a cap sz hc hs hz us hu hv ih => exact .lst xs a cap sz hc hs hz us (fun j c hj => ⟨cell (hu j c hj).2 (hu j c hj).1, (hu j c hj).2⟩) ih
  | cref cs a hs us hu hv ih => exact .cref cs a hs us (fun j c hj => ⟨cell (hu j c hj).2 (hu j c hj).1, (hu j c hj).2⟩) ih
  | ptr n ver i o b e g es hb hh => exact .ptr n ver i o b e g es (ne hb) hh
  | repl n o b ps hb hh => exact .repl n o b ps (ne hb) hh
  | ptrS n ver i o a hs => exact .ptrS n ver i o a hs
  | slcX n ver sz i o len c b e g es hb hh hl hf => exact .slcX n ver sz i o len c b e g es (ne hb) hh hl hf
  | slcG n ver sz i len c b a es us el fr hb hh hl hw hf hk ha =>
    exact .slcG n ver sz i len c b a es us el fr (ne hb) hh hl (by rw [hold b (Array.getElem?_eq_some_iff.1 hw).1]; exact hw) hf hk ha
  | slcS n ver sz i o len cap a c hs => exact .slcS n ver sz i o len cap a c hs
  | mapr n b es hb hh => exact .mapr n b es (ne hb) hh
  | mapS n b hs => exact .mapS n b hs

theorem Inv.mat {wr : List Nat} (hI : Inv RP C β0 F0 h0 w0 wr β F h w) {n : Nat} {B : Blk} (hn : β n = none) (hge : h0.length ≤ n) (hB : h[n]? = some B) {o : Obj} (hw : w'.heap = w.heap.push o) (hs : Beside w w')
    (hnew : BlkRel RP (upd β n w.heap.size) h F w' w.heap.size B) : Inv RP C β0 F0 h0 w0 wr (upd β n w.heap.size) F h w' := by
  have hold : ∀ b, b < w.heap.size → w'.heap[b]? = w.heap[b]? := fun b hb => by rw [hw, push_get hb]
  have hsz : w.heap.size ≤ w'.heap.size := by rw [hw]; simp
  have hF := hI.rel.cell
  have inv : ∀ {k b : Nat}, upd β n w.heap.size k = some b → (k = n ∧ b = w.heap.size) ∨ (k ≠ n ∧ β k = some b) := by
    intro k b hk
    by_cases hkn : k = n
    · subst hkn; rw [upd_same] at hk; simp at hk; exact .inl ⟨rfl, hk.symm⟩
    · rw [upd_ne β _ hkn] at hk; exact .inr ⟨hkn, hk⟩
  have hR : Rel RP (upd β n w.heap.size) F h w' := {
    lt := fun k b hk => by
      rcases inv hk with ⟨_, rfl⟩ | ⟨_, h1⟩
      · rw [hw]; simp
      · exact Nat.lt_of_lt_of_le (hI.rel.lt k b h1) hsz
    blk := fun k b B' hk hB' => by
      rcases inv hk with ⟨rfl, rfl⟩ | ⟨hkn, h1⟩
      · rw [hB] at hB'; simp at hB'; subst hB'; exact hnew
      · have hb := hI.rel.blk k b B' h1 hB'
        have hbo := hold b (hI.rel.lt k b h1)
        cases B' with
        | cells v e g es =>
          obtain ⟨us, el, fr, g1, g2, g3, g4, g5, g6⟩ := hb
          exact ⟨us, el, fr, hbo.trans g1, g2, g3, g4, g5, fun j c hj => let ⟨u, hu, hv⟩ := g6 j c hj; ⟨u, hu, hv.mat hn hold hF _⟩⟩
        | map es =>
          obtain ⟨ms, clock, g1, g2, g3⟩ := hb
          exact ⟨ms, clock, hbo.trans g1, g2, fun j k v m hj hm => let ⟨a, b⟩ := g3 j k v m hj hm; ⟨a.mat hn hold hF _, b.mat hn hold hF _⟩⟩
        | repl ps => exact RP.mono hb (fun _ _ hf => hf) (fun b o hf => hold b (hF b o hf)) hbo
        | dead => trivial
    inj := fun k k' b hk hk' => by
      rcases inv hk with ⟨rfl, rfl⟩ | ⟨_, h1⟩ <;> rcases inv hk' with ⟨rfl, h3⟩ | ⟨_, h2⟩
      · rfl
      · exact absurd (hI.rel.lt _ _ h2) (by omega)
      · subst h3; exact absurd (hI.rel.lt _ _ h1) (by omega)
      · exact hI.rel.inj k k' b h1 h2
    out := fun k b hk => by
      rcases inv hk with ⟨rfl, rfl⟩ | ⟨_, h1⟩
      · exact (List.getElem?_eq_some_iff.1 hB).1
      · exact hI.rel.out k b h1
    apart := fun k b o hk hf => by
      rcases inv hk with ⟨rfl, rfl⟩ | ⟨_, h1⟩
      · exact absurd (hF _ _ hf) (by omega)
      · exact hI.rel.apart k b o h1 hf
    cell := fun b o hf => Nat.lt_of_lt_of_le (hF b o hf) hsz }
  have hE : Ext (· ∈ wr) β0 F0 h0 w0 (upd β n w.heap.size) F h w' := {
    len := hI.ext.len
    blk := fun k B' hB' => by
      have hk : k < h0.length := (List.getElem?_eq_some_iff.1 hB').1
      obtain ⟨B2, hB2, hkt⟩ := hI.ext.blk k B' hB'
      refine ⟨B2, hB2, ?_⟩
      rcases hkt with ⟨k1, k2, k3⟩ | k1
      · refine .inl ⟨k1, by rw [upd_ne β _ (by omega)]; exact k2, fun b hb => ?_⟩
        rw [← k3 b hb]
        unfold sizeAt
        rw [hold b (hI.rel.lt k b (by rw [k2]; exact hb))]
      · exact .inr k1
    frz := hI.ext.frz
    old := fun b hb hW => by rw [hold b (Nat.lt_of_lt_of_le hb hI.ext.size)]; exact hI.ext.old b hb hW
    size := Nat.le_trans hI.ext.size hsz
    news := fun k b hk => by
      rcases inv hk with ⟨rfl, rfl⟩ | ⟨_, h1⟩
      · exact .inr hI.ext.size
      · exact hI.ext.news k b h1
    newF := hI.ext.newF
    none_ := fun k hl hk => by
      obtain ⟨g1, g2⟩ := hI.ext.none_ k hl hk
      exact ⟨by rw [upd_ne β _ (by omega)]; exact g1, g2⟩
    os := hs.os.trans hI.ext.os
    output := hs.output.trans hI.ext.output
    tape := hs.tape.trans hI.ext.tape }
  exact ⟨hR, fun g c hg => (hI.glob g c hg).mat hn hold hF _, hE, hI.same⟩

/-- blocks that are laid ahead -/
theorem Inv.laid {wr : List Nat} (hI : Inv RP C β0 F0 h0 w0 wr β F h w) (L : List Blk) : Inv RP C β0 F0 h0 w0 wr β F (h ++ L) w := by
  have hE : Ext (fun _ => False) β F h w β F (h ++ L) w := {
    len := by simp
    blk := fun n B hB => ⟨B, by rw [List.getElem?_append_left (List.getElem?_eq_some_iff.1 hB).1]; exact hB, .inl ⟨Kept.refl _, rfl, fun _ _ => rfl⟩⟩
    frz := fun _ _ hf => hf
    old := fun _ _ _ => rfl
    size := Nat.le_refl _
    news := fun n b hn => .inl ⟨hn, hI.rel.out n b hn⟩
    newF := fun _ _ hf => .inl hf
    none_ := fun n hl hn => ⟨hn, List.getElem?_append_left hl⟩
    os := rfl
    output := rfl
    tape := rfl }
  have hR : Rel RP β F (h ++ L) w := Rel.step hE hI.rel (fun n b B hb hB hnc => by
      have hn := hI.rel.out n b hb
      rw [List.getElem?_append_left hn] at hB
      exact absurd ⟨hb, hB, fun h => h⟩ hnc) hI.rel.lt (fun n b hb => by have := hI.rel.out n b hb; simp; omega) hI.rel.inj hI.rel.apart (fun b o hF hnF => absurd hF hnF)
  exact hI.step hR hE (fun n hn _ => List.getElem?_append_left hn) (fun _ hn => hn) (fun _ hf _ => hf.elim)

theorem TmRel.mat {n : Nat} (hn : β n = none) (hold : ∀ b, b < w.heap.size → w'.heap[b]? = w.heap[b]?) (hF : ∀ b o, F b o → b < w.heap.size) {tm : Tm} {ts : Array Value} (hT : TmRel β h F w tm ts) (nb : Nat) : TmRel (upd β n nb) h F w' tm ts :=
  ⟨hT.len, fun j c u hc hu => (hT.val j c u hc hu).mat hn hold hF nb⟩
end
end Go.Eng

/- The engine, part H3: the trace of a region with an open order. -/
namespace Go.Eng
set_option linter.unusedSectionVars false
set_option linter.unusedSimpArgs false

structure DSt where
  na : Nat
  tm : Tm
  h : Heap
  wr : List Nat

def laidV (na : Nat) : AOp → AV
  | .alloc _ _ => .ptr na 0 0 0
  | _ => .mapr na

/-- one operation, in the text's order -/
inductive DStep (r : Nat → List AV → Heap → Option (AV × Heap × List Nat)) (m : Nat) (o : AOper) (s : DSt) : DSt → Prop
  | skip (hw : wants s.tm o.guard = false) : DStep r m o s ⟨if (laidB o.op).isSome then s.na + 1 else s.na, putT s.tm o.dst undefA, s.h, s.wr⟩
  | laid (hw : wants s.tm o.guard = true) (hl : (laidB o.op).isSome = true) : DStep r m o s ⟨s.na + 1, putT s.tm o.dst (laidV s.na o.op), s.h, s.wr⟩
  | val (hw : wants s.tm o.guard = true) (hl : laidB o.op = none) (v : AV) (ha : aop s.h (evo s.tm) o.op = some (.val v)) : DStep r m o s ⟨s.na, putT s.tm o.dst v, s.h, s.wr⟩
  | eff (hw : wants s.tm o.guard = true) (hl : laidB o.op = none) (hact : o.op.acts = true) (v : AV) (h' : Heap) (w : Option Nat) (ha : aop s.h (evo s.tm) o.op = some (.eff v h' w)) : DStep r m o s ⟨s.na, putT s.tm o.dst v, h', wrA m s.wr w⟩
  | call (hw : wants s.tm o.guard = true) (hl : laidB o.op = none) (f : Nat) (args : List AV) (ha : aop s.h (evo s.tm) o.op = some (.call f args)) (v : AV) (h' : Heap) (ws : List Nat) (hr : r f args s.h = some (v, h', ws)) : DStep r m o s ⟨s.na, putT s.tm o.dst v, h', addW m s.wr ws⟩
  | callQ (hw : wants s.tm o.guard = true) (hl : laidB o.op = none) (f : Nat) (args : List AV) (ha : aop s.h (evo s.tm) o.op = some (.call f args)) (v : AV) (h' : Heap) (hr : r f args s.h = some (v, h', [])) (hlen : h'.length = s.h.length) : DStep r m o s ⟨s.na, putT s.tm o.dst v, s.h, s.wr⟩

structure Tr (r : Nat → List AV → Heap → Option (AV × Heap × List Nat)) (m : Nat) (os : List AOper) (i : Nat) (sn : List (Nat × Heap)) (wt : List (Nat × AOp × AV)) (st : Nat → DSt) : Prop where
  step : ∀ j o, os[j]? = some o → DStep r m o (st j) (st (j + 1))
  look : ∀ j o v, os[j]? = some o → wants (st j).tm o.guard = true → o.op.looks = true → aop (st j).h (evo (st j).tm) o.op = some (.val v) →
    (∀ p ∈ sn, o.bef.testBit p.1 = true ∨ again p.2 (o.op.fixed (st j).tm) v = true) ∧
    (∀ k, k < j → (st (k + 1)).h = (st k).h ∨ o.bef.testBit (i + k) = true ∨ again (st k).h (o.op.fixed (st j).tm) v = true) ∧
    (∀ k ok, j < k → os[k]? = some ok → (st (k + 1)).h = (st k).h ∨ ok.bef.testBit (i + j) = true ∨ again (st (k + 1)).h (o.op.fixed (st j).tm) v = true)
  wait : ∀ q ∈ wt, ∀ k ok, os[k]? = some ok → (st (k + 1)).h = (st k).h ∨ ok.bef.testBit q.1 = true ∨ again (st (k + 1)).h q.2.1 q.2.2 = true

def consSt (s : DSt) (st : Nat → DSt) : Nat → DSt
  | 0 => s
  | k + 1 => st k

theorem Tr.cons {r : Nat → List AV → Heap → Option (AV × Heap × List Nat)} {m : Nat} {o : AOper} {os : List AOper} {i : Nat} {sn sn' : List (Nat × Heap)} {wt wt' : List (Nat × AOp × AV)} {st : Nat → DSt} {s : DSt}
    (hT : Tr r m os (i + 1) sn' wt' st) (hstep : DStep r m o s (st 0)) (hsn : ∀ p ∈ sn, p ∈ sn') (hwt : ∀ q ∈ wt, q ∈ wt')
    (hh : (st 0).h = s.h ∨ ((i, s.h) ∈ sn' ∧ ∀ q ∈ wt, o.bef.testBit q.1 = true ∨ again (st 0).h q.2.1 q.2.2 = true))
    (hlook : wants s.tm o.guard = true → o.op.looks = true → ∀ v, aop s.h (evo s.tm) o.op = some (.val v) → (∀ p ∈ sn, o.bef.testBit p.1 = true ∨ again p.2 (o.op.fixed s.tm) v = true) ∧ (i, o.op.fixed s.tm, v) ∈ wt') :
    Tr r m (o :: os) i sn wt (consSt s st) where
  step := fun j o' hj => by
    cases j with
    | zero => simp at hj; subst hj; exact hstep
    | succ j => exact hT.step j o' (by simpa using hj)
  look := fun j o' v hj hw hl ha => by
    cases j with
    | zero =>
      simp at hj; subst hj
      obtain ⟨g1, g2⟩ := hlook hw hl v ha
      refine ⟨g1, fun k hk => absurd hk (by omega), fun k ok hk hok => ?_⟩
      cases k with
      | zero => omega
      | succ k => exact hT.wait _ g2 k ok (by simpa using hok)
    | succ j =>
      obtain ⟨g1, g2, g3⟩ := hT.look j o' v (by simpa using hj) hw hl ha
      refine ⟨fun p hp => g1 p (hsn p hp), fun k hk => ?_, fun k ok hk hok => ?_⟩
      · cases k with
        | zero =>
          rcases hh with hh | ⟨h1, _⟩
          · exact .inl hh
          · exact .inr (g1 _ h1)
        | succ k =>
          have := g2 k (by omega)
          rw [show i + 1 + k = i + (k + 1) by omega] at this
          exact this
      · cases k with
        | zero => omega
        | succ k =>
          have := g3 k ok (by omega) (by simpa using hok)
          rw [show i + 1 + j = i + (j + 1) by omega] at this
          exact this
  wait := fun q hq k ok hok => by
    cases k with
    | zero =>
      simp at hok; subst hok
      rcases hh with hh | ⟨_, h2⟩
      · exact .inl hh
      · exact .inr (h2 q hq)
    | succ k => exact hT.wait q (hwt q hq) k ok (by simpa using hok)

theorem all_or {l : List (Nat × Heap)} {b : Nat} {o : AOp} {v : AV} (h : (l.all fun (k, h0) => b.testBit k || again h0 o v) = true) : ∀ p ∈ l, b.testBit p.1 = true ∨ again p.2 o v = true := fun p hp => by
  have := List.all_eq_true.1 h p hp
  simpa using this

theorem all_or2 {l : List (Nat × AOp × AV)} {b : Nat} {h' : Heap} (h : (l.all fun (k, o', v) => b.testBit k || again h' o' v) = true) : ∀ q ∈ l, b.testBit q.1 = true ∨ again h' q.2.1 q.2.2 = true := fun p hp => by
  have := List.all_eq_true.1 h p hp
  simpa using this

theorem dgo_trace {r : Nat → List AV → Heap → Option (AV × Heap × List Nat)} {m : Nat} : ∀ {os : List AOper} {i na : Nat} {sn : List (Nat × Heap)} {wt : List (Nat × AOp × AV)} {tm : Tm} {h : Heap} {wr : List Nat} {tm' : Tm} {h' : Heap} {wr' : List Nat},
    dgo r m os i na sn wt tm h wr = some (tm', h', wr') → ∃ st : Nat → DSt, st 0 = ⟨na, tm, h, wr⟩ ∧ (st os.length).tm = tm' ∧ (st os.length).h = h' ∧ (st os.length).wr = wr' ∧ Tr r m os i sn wt st := by
  intro os
  induction os with
  | nil =>
    intro i na sn wt tm h wr tm' h' wr' hd
    simp only [dgo, Option.some.injEq, Prod.mk.injEq] at hd
    obtain ⟨rfl, rfl, rfl⟩ := hd
    exact ⟨fun _ => ⟨na, tm, h, wr⟩, rfl, rfl, rfl, rfl, ⟨fun j o hj => by simp at hj, fun j o v hj => by simp at hj, fun q _ k ok hk => by simp at hk⟩⟩
  | cons o os ih =>
    intro i na sn wt tm h wr tm' h' wr' hd
    unfold dgo at hd
    split at hd
    · rename_i hw
      -- laid ahead
      have hLaid : ∀ {na' : Nat} {v : AV}, (laidB o.op).isSome = true → v = laidV na o.op → dgo r m os (i + 1) (na + 1) sn wt (putT tm o.dst v) h wr = some (tm', h', wr') →
          ∃ st : Nat → DSt, st 0 = ⟨na, tm, h, wr⟩ ∧ (st (o :: os).length).tm = tm' ∧ (st (o :: os).length).h = h' ∧ (st (o :: os).length).wr = wr' ∧ Tr r m (o :: os) i sn wt st := by
        intro _ v hl hv hd
        obtain ⟨st, e0, e1, e2, e3, hT⟩ := ih hd
        subst hv
        refine ⟨consSt ⟨na, tm, h, wr⟩ st, rfl, e1, e2, e3, hT.cons (by rw [e0]; exact .laid hw hl) (fun _ hp => hp) (fun _ hq => hq) (.inl (by rw [e0])) fun _ hlo => ?_⟩
        cases hop : o.op <;> rw [hop] at hl hlo <;> simp [laidB, AOp.looks] at hl hlo
      split at hd
      · rename_i e z hop; exact hLaid (na' := 0) (by simp [hop, laidB]) (by simp [hop, laidV]) hd
      · rename_i hop; exact hLaid (na' := 0) (by simp [hop, laidB]) (by simp [hop, laidV]) hd
      · rename_i hn1 hn2
        have hlb : laidB o.op = none := by
          cases hop : o.op <;> simp [laidB]
          · exact hn1 _ _ hop
          · exact hn2 hop
        split at hd
        · rename_i v ha
          split at hd
          · rename_i hlo
            split at hd
            · rename_i hall
              obtain ⟨st, e0, e1, e2, e3, hT⟩ := ih hd
              refine ⟨consSt ⟨na, tm, h, wr⟩ st, rfl, e1, e2, e3, hT.cons (by rw [e0]; exact .val hw hlb v ha) (fun _ hp => hp) (fun _ hq => List.mem_cons_of_mem _ hq) (.inl (by rw [e0])) fun _ _ v' ha' => ?_⟩
              have hvv : v = v' := by
                have : aop h (evo tm) o.op = some (.val v') := ha'
                rw [ha] at this; simpa using this
              subst hvv
              exact ⟨all_or hall, List.mem_cons_self ..⟩
            · simp at hd
          · rename_i hlo
            obtain ⟨st, e0, e1, e2, e3, hT⟩ := ih hd
            exact ⟨consSt ⟨na, tm, h, wr⟩ st, rfl, e1, e2, e3, hT.cons (by rw [e0]; exact .val hw hlb v ha) (fun _ hp => hp) (fun _ hq => hq) (.inl (by rw [e0])) fun _ h2 => absurd h2 hlo⟩
        · rename_i v h1 w1 ha
          split at hd
          · rename_i hc
            simp only [Bool.and_eq_true] at hc
            obtain ⟨st, e0, e1, e2, e3, hT⟩ := ih hd
            refine ⟨consSt ⟨na, tm, h, wr⟩ st, rfl, e1, e2, e3, hT.cons (by rw [e0]; exact .eff hw hlb hc.1 v h1 w1 ha) (fun _ hp => List.mem_cons_of_mem _ hp) (fun _ hq => hq) (.inr ⟨List.mem_cons_self .., by rw [e0]; exact all_or2 hc.2⟩) fun _ h2 v' ha' => ?_⟩
            have : aop h (evo tm) o.op = some (.val v') := ha'
            rw [ha] at this; simp at this
          · simp at hd
        · rename_i g args ha
          split at hd
          · rename_i v h1 ws hr
            split at hd
            · rename_i hq
              obtain ⟨q1, rfl⟩ := hq
              obtain ⟨st, e0, e1, e2, e3, hT⟩ := ih hd
              refine ⟨consSt ⟨na, tm, h, wr⟩ st, rfl, e1, e2, e3, hT.cons (by rw [e0]; exact .callQ hw hlb g args ha v h1 hr q1) (fun _ hp => hp) (fun _ hq => hq) (.inl (by rw [e0])) fun _ h2 v' ha' => ?_⟩
              have : aop h (evo tm) o.op = some (.val v') := ha'
              rw [ha] at this; simp at this
            · split at hd
              · rename_i hc
                obtain ⟨st, e0, e1, e2, e3, hT⟩ := ih hd
                refine ⟨consSt ⟨na, tm, h, wr⟩ st, rfl, e1, e2, e3, hT.cons (by rw [e0]; exact .call hw hlb g args ha v h1 ws hr) (fun _ hp => List.mem_cons_of_mem _ hp) (fun _ hq => hq) (.inr ⟨List.mem_cons_self .., by rw [e0]; exact all_or2 hc⟩) fun _ h2 v' ha' => ?_⟩
                have : aop h (evo tm) o.op = some (.val v') := ha'
                rw [ha] at this; simp at this
              · simp at hd
          · simp at hd
        · simp at hd
    · rename_i hw
      obtain ⟨st, e0, e1, e2, e3, hT⟩ := ih hd
      refine ⟨consSt ⟨na, tm, h, wr⟩ st, rfl, e1, e2, e3, hT.cons ?_ (fun _ hp => hp) (fun _ hq => hq) (.inl (by rw [e0])) fun h2 => absurd h2 hw⟩
      rw [e0]
      have := DStep.skip (r := r) (m := m) (o := o) (s := ⟨na, tm, h, wr⟩) (by simpa using hw)
      refine Eq.mp (congrArg (fun z => DStep r m o ⟨na, tm, h, wr⟩ ⟨z, putT tm o.dst undefA, h, wr⟩) ?_) this
      show (if (laidB o.op).isSome = true then na + 1 else na) = _
      cases o.op <;> rfl
end Go.Eng

/- The engine, part H4: what stands before what. -/
namespace Go.Eng
set_option linter.unusedSectionVars false
set_option linter.unusedSimpArgs false

theorem foldl_push {α : Type} (g : Array Nat → α → Nat) : ∀ (l : List α) (A : Array Nat),
    (l.foldl (fun acc o => acc.push (g acc o)) A).size = A.size + l.length ∧ (∀ i, i < A.size → (l.foldl (fun acc o => acc.push (g acc o)) A)[i]? = A[i]?) ∧
    ∀ k o, l[k]? = some o → ∃ A' : Array Nat, A'.size = A.size + k ∧ (∀ i, i < A'.size → (l.foldl (fun acc o => acc.push (g acc o)) A)[i]? = A'[i]?) ∧ (l.foldl (fun acc o => acc.push (g acc o)) A)[A.size + k]? = some (g A' o)
  | [], A => ⟨rfl, fun _ _ => rfl, fun k o hk => by simp at hk⟩
  | o :: l, A => by
    obtain ⟨h1, h2, h3⟩ := foldl_push g l (A.push (g A o))
    refine ⟨by simp only [List.foldl_cons, h1, Array.size_push, List.length_cons]; omega, fun i hi => ?_, fun k o' hk => ?_⟩
    · simp only [List.foldl_cons]
      rw [h2 i (by simp; omega), Array.getElem?_push, if_neg (by omega)]
    · cases k with
      | zero =>
        simp at hk; subst hk
        refine ⟨A, rfl, fun i hi => ?_, ?_⟩
        · simp only [List.foldl_cons]
          rw [h2 i (by simp; omega), Array.getElem?_push, if_neg (by omega)]
        · simp only [List.foldl_cons, Nat.add_zero]
          rw [h2 A.size (by simp), Array.getElem?_push, if_pos rfl]
      | succ k =>
        obtain ⟨A', g1, g2, g3⟩ := h3 k o' (by simpa using hk)
        refine ⟨A', by rw [g1]; simp; omega, fun i hi => by simp only [List.foldl_cons]; exact g2 i hi, ?_⟩
        simp only [List.foldl_cons]
        rw [← g3]; simp; congr 1; omega

theorem foldl_bits (acc : Array Nat) : ∀ (l : List Edge) (s i : Nat),
    (l.foldl (fun s e => if Region.binds .any e then s ||| 2 ^ e.on ||| acc.getD e.on 0 else s) s).testBit i = true ↔ s.testBit i = true ∨ ∃ e ∈ l, Region.binds .any e = true ∧ (e.on = i ∨ (acc.getD e.on 0).testBit i = true)
  | [], s, i => by simp
  | e :: l, s, i => by
    simp only [List.foldl_cons]
    rw [foldl_bits acc l]
    by_cases hb : Region.binds .any e = true
    · simp only [hb, if_true, Nat.testBit_or, Bool.or_eq_true, Nat.testBit_two_pow, decide_eq_true_eq, List.mem_cons, exists_eq_or_imp, true_and]
      constructor
      · rintro (((h | h) | h) | h)
        · exact .inl h
        · exact .inr (.inl (.inl h))
        · exact .inr (.inl (.inr h))
        · exact .inr (.inr h)
      · rintro (h | (h | h) | h)
        · exact .inl (.inl (.inl h))
        · exact .inl (.inl (.inr h))
        · exact .inl (.inr h)
        · exact .inr h
    · simp only [hb, if_false, Bool.false_eq_true, List.mem_cons, exists_eq_or_imp, false_and, false_or]

theorem before_bit {ops : Array Oper} {j : Nat} {o : Oper} (hj : ops[j]? = some o) : ∃ A' : Array Nat, A'.size = j ∧ (∀ i, i < j → (Region.before ops)[i]? = A'[i]?) ∧
    ∀ i, ((Region.before ops).getD j 0).testBit i = true ↔ ∃ e ∈ o.after, Region.binds .any e = true ∧ (e.on = i ∨ (A'.getD e.on 0).testBit i = true) := by
  have hb : Region.before ops = ops.toList.foldl (fun acc o => acc.push (o.after.foldl (fun s e => if Region.binds .any e then s ||| 2 ^ e.on ||| acc.getD e.on 0 else s) 0)) #[] := by
    unfold Region.before
    rw [← Array.foldl_toList]
  obtain ⟨_, _, h3⟩ := foldl_push (fun (acc : Array Nat) (o : Oper) => o.after.foldl (fun s e => if Region.binds .any e then s ||| 2 ^ e.on ||| acc.getD e.on 0 else s) 0) ops.toList #[]
  obtain ⟨A', g1, g2, g3⟩ := h3 j o (by simpa using hj)
  simp at g1
  refine ⟨A', g1, fun i hi => by rw [hb]; exact g2 i (by omega), fun i => ?_⟩
  have e : (Region.before ops).getD j 0 = o.after.foldl (fun s e => if Region.binds .any e then s ||| 2 ^ e.on ||| A'.getD e.on 0 else s) 0 := by
    rw [Array.getD_eq_getD_getElem?, hb]
    simp only [List.size_toArray, List.length_nil, Nat.zero_add] at g3
    rw [g3]; rfl
  rw [e, ← Array.foldl_toList, foldl_bits A' o.after.toList 0 i]
  simp

theorem before_edge {ops : Array Oper} {j : Nat} {o : Oper} (hj : ops[j]? = some o) {e : Edge} (he : e ∈ o.after) (hb : Region.binds .any e = true) : ((Region.before ops).getD j 0).testBit e.on = true := by
  obtain ⟨A', _, _, h⟩ := before_bit hj
  exact (h e.on).2 ⟨e, he, hb, .inl rfl⟩

theorem before_of {ops : Array Oper} {j : Nat} {o : Oper} (hj : ops[j]? = some o) {i : Nat} (hi : ((Region.before ops).getD j 0).testBit i = true) :
    ∃ e ∈ o.after, Region.binds .any e = true ∧ (e.on = i ∨ (e.on < j ∧ ((Region.before ops).getD e.on 0).testBit i = true)) := by
  obtain ⟨A', h1, h2, h⟩ := before_bit hj
  obtain ⟨e, he, hb, hi⟩ := (h i).1 hi
  refine ⟨e, he, hb, ?_⟩
  rcases hi with hi | hi
  · exact .inl hi
  · right
    by_cases hl : e.on < j
    · refine ⟨hl, ?_⟩
      rw [Array.getD_eq_getD_getElem?, h2 _ hl]
      rw [Array.getD_eq_getD_getElem?] at hi; exact hi
    · rw [Array.getD_eq_getD_getElem?, Array.getElem?_eq_none_iff.2 (by omega)] at hi
      simp at hi

theorem withB_get {b : Array Nat} : ∀ {l : List AOper} {i j : Nat}, (withB b i l)[j]? = (l[j]?).map fun o => { o with bef := b.getD (i + j) 0 }
  | [], i, j => by simp [withB]
  | o :: l, i, 0 => by simp [withB]
  | o :: l, i, j + 1 => by
    simp only [withB, List.getElem?_cons_succ]
    rw [withB_get (l := l)]
    rw [show i + 1 + j = i + (j + 1) by omega]

theorem withB_length {b : Array Nat} : ∀ {l : List AOper} {i : Nat}, (withB b i l).length = l.length
  | [], _ => rfl
  | o :: l, i => by simp [withB, withB_length (l := l)]

structure Wired (os : List AOper) : Prop where
  lt : ∀ (j : Nat) (o : AOper), os[j]? = some o → ∀ i, o.bef.testBit i = true → i < j
  reads : ∀ (j : Nat) (o : AOper), os[j]? = some o → ∀ t ∈ o.reads, ∀ (i : Nat) (o' : AOper), os[i]? = some o' → o'.dst = some t → i = j ∨ o.bef.testBit i = true ∨ o'.bef.testBit j = true
  dst : ∀ (j : Nat) (o : AOper), os[j]? = some o → ∀ (i : Nat) (o' : AOper), os[i]? = some o' → i ≠ j → ∀ d, o.dst = some d → o'.dst ≠ some d
  acts : ∀ (i j : Nat) (oi oj : AOper), i < j → os[i]? = some oi → os[j]? = some oj → oi.op.acts = true → oj.op.acts = true → oj.bef.testBit i = true
  calm : ∀ (j : Nat) (o : AOper), os[j]? = some o → o.op.calm = true

theorem chained_spec : ∀ {os : List AOper} {i : Nat} {es : List Nat}, chained i os es = true → (∀ (j : Nat) (o : AOper), os[j]? = some o → o.op.calm = true) ∧ (∀ (j : Nat) (o : AOper), os[j]? = some o → o.op.acts = true → ∀ e ∈ es, o.bef.testBit e = true) ∧
    ∀ (k j : Nat) (ok oj : AOper), k < j → os[k]? = some ok → os[j]? = some oj → ok.op.acts = true → oj.op.acts = true → oj.bef.testBit (i + k) = true
  | [], i, es, _ => ⟨fun j o hj => by simp at hj, fun j o hj => by simp at hj, fun k j ok oj _ hk => by simp at hk⟩
  | o :: os, i, es, hc => by
    simp only [chained, Bool.and_eq_true] at hc
    obtain ⟨c1, c2⟩ := hc
    by_cases ha : o.op.acts = true
    · rw [if_pos ha] at c2
      simp only [Bool.and_eq_true] at c2
      obtain ⟨c2, c3⟩ := c2
      obtain ⟨g1, g2, g3⟩ := chained_spec c3
      refine ⟨fun j o' hj => ?_, fun j o' hj ha' e he => ?_, fun k j ok oj hkj hk hj hka hja => ?_⟩
      · cases j with
        | zero => simp at hj; subst hj; exact c1
        | succ j => exact g1 j o' (by simpa using hj)
      · cases j with
        | zero => simp at hj; subst hj; exact List.all_eq_true.1 c2 e he
        | succ j => exact g2 j o' (by simpa using hj) ha' e (List.mem_cons_of_mem _ he)
      · cases j with
        | zero => omega
        | succ j =>
          cases k with
          | zero => exact g2 j oj (by simpa using hj) hja i (List.mem_cons_self ..)
          | succ k =>
            have := g3 k j ok oj (by omega) (by simpa using hk) (by simpa using hj) hka hja
            rw [show i + 1 + k = i + (k + 1) by omega] at this; exact this
    · rw [if_neg ha] at c2
      obtain ⟨g1, g2, g3⟩ := chained_spec c2
      refine ⟨fun j o' hj => ?_, fun j o' hj ha' e he => ?_, fun k j ok oj hkj hk hj hka hja => ?_⟩
      · cases j with
        | zero => simp at hj; subst hj; exact c1
        | succ j => exact g1 j o' (by simpa using hj)
      · cases j with
        | zero => simp at hj; subst hj; exact absurd ha' ha
        | succ j => exact g2 j o' (by simpa using hj) ha' e he
      · cases j with
        | zero => omega
        | succ j =>
          cases k with
          | zero => simp at hk; subst hk; exact absurd hka ha
          | succ k =>
            have := g3 k j ok oj (by omega) (by simpa using hk) (by simpa using hj) hka hja
            rw [show i + 1 + k = i + (k + 1) by omega] at this; exact this

theorem orderOK_spec {os : List AOper} (h : orderOK os = true) : Wired os := by
  unfold orderOK at h
  simp only [Bool.and_eq_true] at h
  obtain ⟨h1, h2⟩ := h
  obtain ⟨g1, g2, g3⟩ := chained_spec h1
  have key : ∀ (j : Nat) (o : AOper), os[j]? = some o → (decide (o.bef < 2 ^ j) = true ∧ (∀ t ∈ o.reads, ∀ (i : Nat) (o' : AOper), os[i]? = some o' → o'.dst = some t → i = j ∨ o.bef.testBit i = true ∨ o'.bef.testBit j = true) ∧ (∀ (i : Nat) (o' : AOper), os[i]? = some o' → i ≠ j → ∀ d, o.dst = some d → o'.dst ≠ some d)) := by
    intro j o hj
    have hjl := (List.getElem?_eq_some_iff.1 hj).1
    have := List.all_eq_true.1 h2 j (List.mem_range.2 hjl)
    rw [hj] at this
    simp only [Bool.and_eq_true] at this
    obtain ⟨⟨w1, w2⟩, w3⟩ := this
    refine ⟨w1, fun t ht i o' hi hd => ?_, fun i o' hi hne d hd => ?_⟩
    · have hil := (List.getElem?_eq_some_iff.1 hi).1
      have := List.all_eq_true.1 (List.all_eq_true.1 w2 t ht) i (List.mem_range.2 hil)
      rw [hi] at this
      simp [hd] at this
      rcases this with (h | h) | h
      · exact .inl h
      · exact .inr (.inl h)
      · exact .inr (.inr h)
    · have hil := (List.getElem?_eq_some_iff.1 hi).1
      have := List.all_eq_true.1 w3 i (List.mem_range.2 hil)
      rw [hi, hd] at this
      simp [hne] at this
      exact this
  exact {
    lt := fun j o hj i hi => by
      obtain ⟨w1, _, _⟩ := key j o hj
      simp only [decide_eq_true_eq] at w1
      rcases Nat.lt_or_ge i j with hlt | hge
      · exact hlt
      · have : o.bef < 2 ^ i := Nat.lt_of_lt_of_le w1 (Nat.pow_le_pow_right (by omega) hge)
        rw [Nat.testBit_lt_two_pow this] at hi; simp at hi
    reads := fun j o hj => (key j o hj).2.1
    dst := fun j o hj => (key j o hj).2.2
    acts := fun i j oi oj hij hi hj hia hja => by
      have := g3 i j oi oj hij hi hj hia hja
      simpa using this
    calm := g1 }
end Go.Eng

/- The engine, part H5: any order of a region. -/
namespace Go.Eng
set_option linter.unusedSectionVars false
set_option linter.unusedSimpArgs false

/-! plain facts on a trace -/
section
variable {r : Nat → List AV → Heap → Option (AV × Heap × List Nat)} {m : Nat} {os : List AOper} {st : Nat → DSt}

theorem DStep.tm {o : AOper} {s s' : DSt} (h : DStep r m o s s') : ∃ x, s'.tm = putT s.tm o.dst x := by
  cases h <;> exact ⟨_, rfl⟩

theorem putT_len (tm : Tm) (d : Option Nat) (v : AV) : (putT tm d v).length = tm.length := by cases d <;> simp [putT]

theorem putT_ne {tm : Tm} {d : Option Nat} {v : AV} {t : Nat} (h : d ≠ some t) : (putT tm d v)[t]? = tm[t]? := by
  cases d with
  | none => rfl
  | some d => exact List.getElem?_set_ne (by intro e; exact h (by rw [e]))

theorem tm_len (hT : ∀ j o, os[j]? = some o → DStep r m o (st j) (st (j + 1))) : ∀ j, j ≤ os.length → (st j).tm.length = (st 0).tm.length := by
  intro j
  induction j with
  | zero => intro _; rfl
  | succ j ih =>
    intro hj
    obtain ⟨x, hx⟩ := (hT j _ (List.getElem?_eq_getElem (by omega))).tm
    rw [hx, putT_len]; exact ih (by omega)

/-- a slot that is not written -/
theorem tm_keep (hT : ∀ j o, os[j]? = some o → DStep r m o (st j) (st (j + 1))) {t p : Nat} : ∀ d, p + d ≤ os.length → (∀ k (o : AOper), p ≤ k → k < p + d → os[k]? = some o → o.dst ≠ some t) → (st (p + d)).tm[t]? = (st p).tm[t]? := by
  intro d
  induction d with
  | zero => intro _ _; rfl
  | succ d ih =>
    intro hl hk
    have hg := List.getElem?_eq_getElem (l := os) (i := p + d) (by omega)
    obtain ⟨x, hx⟩ := (hT (p + d) _ hg).tm
    rw [show p + (d + 1) = p + d + 1 by omega, hx, putT_ne (hk (p + d) _ (by omega) (by omega) hg)]
    exact ih (by omega) fun k o h1 h2 h3 => hk k o h1 (by omega) h3

theorem aop_call_acts {h : Heap} {ρ : Opd → AV} {c : AOp} {g : Nat} {as : List AV} (ha : aop h ρ c = some (.call g as)) : c.acts = true := by
  cases hc : c.acts with
  | true => rfl
  | false =>
    exfalso
    by_cases hn : laidB c = none
    · obtain ⟨v, hv⟩ := aop_calm_val hc hn ha
      simp at hv
    · cases c <;> simp [laidB] at hn <;> simp [aop] at ha

/-- what does not act leaves the heap -/
theorem DStep.quiet {o : AOper} {s s' : DSt} (h : DStep r m o s s') (ha : o.op.acts = false) : s'.h = s.h ∧ s'.wr = s.wr := by
  cases h with
  | eff hw hl hact => rw [ha] at hact; simp at hact
  | call hw hl f args hc => have := aop_call_acts hc; rw [ha] at this; simp at this
  | _ => exact ⟨rfl, rfl⟩

theorem quiet_range (hT : ∀ j o, os[j]? = some o → DStep r m o (st j) (st (j + 1))) {p : Nat} : ∀ d, p + d ≤ os.length → (∀ k (o : AOper), p ≤ k → k < p + d → os[k]? = some o → o.op.acts = false) → (st (p + d)).h = (st p).h ∧ (st (p + d)).wr = (st p).wr := by
  intro d
  induction d with
  | zero => intro _ _; exact ⟨rfl, rfl⟩
  | succ d ih =>
    intro hl hk
    have hg := List.getElem?_eq_getElem (l := os) (i := p + d) (by omega)
    obtain ⟨h1, h2⟩ := (hT (p + d) _ hg).quiet (hk (p + d) _ (by omega) (by omega) hg)
    obtain ⟨g1, g2⟩ := ih (by omega) fun k o h1 h2 h3 => hk k o h1 (by omega) h3
    rw [show p + (d + 1) = p + d + 1 by omega]
    exact ⟨h1.trans g1, h2.trans g2⟩

theorem laid_eq : ∀ os : List AOper, laid os = os.filterMap fun o => laidB o.op
  | [] => rfl
  | o :: os => by
    unfold laid
    cases hop : o.op <;> simp [laidB, hop, laid_eq os]

/-- the numbers of the blocks laid ahead -/
theorem na_eq (hT : ∀ j o, os[j]? = some o → DStep r m o (st j) (st (j + 1))) : ∀ j, j ≤ os.length → (st j).na = (st 0).na + (laid (os.take j)).length := by
  have step : ∀ {o : AOper} {s s' : DSt}, DStep r m o s s' → s'.na = s.na + (laid [o]).length := by
    intro o s s' h
    have hl : (laid [o]).length = if (laidB o.op).isSome then 1 else 0 := by
      rw [laid_eq]
      cases hb : laidB o.op <;> simp [hb]
    rw [hl]
    cases h with
    | skip => dsimp only; split <;> rfl
    | laid hw hl => simp [hl]
    | val hw hl => simp [hl]
    | eff hw hl => simp [hl]
    | call hw hl => simp [hl]
    | callQ hw hl => simp [hl]
  have happ : ∀ (l : List AOper) (o : AOper), (laid (l ++ [o])).length = (laid l).length + (laid [o]).length := by
    intro l o
    rw [laid_eq, laid_eq, laid_eq, List.filterMap_append, List.length_append]
  intro j
  induction j with
  | zero => intro _; simp [laid]
  | succ j ih =>
    intro hj
    have hlt : j < os.length := by omega
    have hg := List.getElem?_eq_getElem hlt
    rw [step (hT j _ hg), ih (by omega), Nat.add_assoc]
    congr 1
    rw [List.take_succ_eq_append_getElem hlt, happ]

theorem laid_get : ∀ {os : List AOper} {j : Nat} {o : AOper} {B : Blk}, os[j]? = some o → laidB o.op = some B → (laid os)[(laid (os.take j)).length]? = some B
  | a :: os, 0, o, B, hj, hB => by
    simp at hj; subst hj
    simp [laid_eq, hB]
  | a :: os, j + 1, o, B, hj, hB => by
    have ih := laid_get (os := os) (j := j) (by simpa using hj) hB
    rw [laid_eq, laid_eq] at ih
    rw [laid_eq, laid_eq, List.take_succ_cons]
    cases hb : laidB a.op <;> simp [hb, ih]
  | [], j, o, B, hj, _ => by simp at hj
end
end Go.Eng

/- The engine, part H6: any order of a region, what is kept. -/
namespace Go.Eng
set_option linter.unusedSectionVars false
set_option linter.unusedSimpArgs false

def lst? (listed : Array Bool) (j : Nat) : Prop := listed.getD j false = true

/-- the slots, when these operations are done -/
def tmS (os : List AOper) (tm0 tmN : Tm) (listed : Array Bool) : Tm :=
  (List.range tm0.length).map fun t => if (List.range os.length).any (fun i => listed.getD i false && ((os[i]?).bind (·.dst) == some t)) then tmN.getD t undefA else tm0.getD t undefA

section
variable {os : List AOper} {tm0 tmN : Tm} {listed : Array Bool}

theorem tmS_len : (tmS os tm0 tmN listed).length = tm0.length := by simp [tmS]

theorem tmS_in {t i : Nat} {o : AOper} (ht : t < tm0.length) (hi : os[i]? = some o) (hl : lst? listed i) (hd : o.dst = some t) : (tmS os tm0 tmN listed)[t]? = some (tmN.getD t undefA) := by
  have hil := (List.getElem?_eq_some_iff.1 hi).1
  have : (List.range os.length).any (fun i => listed.getD i false && ((os[i]?).bind (·.dst) == some t)) = true := by
    rw [List.any_eq_true]
    refine ⟨i, List.mem_range.2 hil, ?_⟩
    unfold lst? at hl
    simp [hl, hi, hd]
  simp only [tmS, List.getElem?_map, List.getElem?_range ht, Option.map_some, this, if_true]

theorem tmS_out {t : Nat} (ht : t < tm0.length) (h : ∀ i o, os[i]? = some o → lst? listed i → o.dst ≠ some t) : (tmS os tm0 tmN listed)[t]? = some (tm0.getD t undefA) := by
  have : (List.range os.length).any (fun i => listed.getD i false && ((os[i]?).bind (·.dst) == some t)) = false := by
    rw [List.any_eq_false]
    intro i hi
    have hil := List.mem_range.1 hi
    simp only [Bool.and_eq_true, beq_iff_eq, not_and]
    intro hl
    rw [List.getElem?_eq_getElem hil]
    exact h i _ (List.getElem?_eq_getElem hil) hl
  simp only [tmS, List.getElem?_map, List.getElem?_range ht, Option.map_some, this, Bool.false_eq_true, if_false]
end

theorem getD_set {listed : Array Bool} {j i : Nat} (hj : j < listed.size) : (listed.setIfInBounds j true).getD i false = if i = j then true else listed.getD i false := by
  by_cases h : i = j
  · subst h; simp [hj]
  · rw [if_neg h, Array.getD_eq_getD_getElem?, Array.getD_eq_getD_getElem?, Array.getElem?_setIfInBounds_ne (Ne.symm h)]

theorem lst_set {listed : Array Bool} {j i : Nat} (hj : j < listed.size) : lst? (listed.setIfInBounds j true) i ↔ i = j ∨ lst? listed i := by
  unfold lst?
  rw [getD_set hj]
  by_cases h : i = j <;> simp [h]

section
variable {RP : RPred} {P : Program} {C : Cfg}
variable (RP C) (os : List AOper) (st : Nat → DSt) (β0 : Beta) (F0 : Frz) (h0 : Heap) (w0 : World)

/-- where the machine is when these operations are done -/
structure DI (listed : Array Bool) (a : Act) (w : World) : Prop where
  size : listed.size = os.length
  closed : ∀ (j : Nat) (o : AOper), lst? listed j → os[j]? = some o → ∀ i, o.bef.testBit i = true → lst? listed i
  here : ∃ c β F, c ≤ os.length ∧ (∀ (j : Nat) (o : AOper), os[j]? = some o → o.op.acts = true → (lst? listed j ↔ j < c)) ∧ Inv RP C β0 F0 h0 w0 (st c).wr β F (st c).h w ∧
    TmRel β (st c).h F w (tmS os (st 0).tm (st os.length).tm listed) a.tmps ∧
    ∀ (j : Nat) (o : AOper) (B : Blk), os[j]? = some o → laidB o.op = some B → ¬ lst? listed j → β (st j).na = none ∧ (st c).h[(st j).na]? = some B ∧ h0.length ≤ (st j).na
variable {RP C os st β0 F0 h0 w0}
variable {r : Nat → List AV → Heap → Option (AV × Heap × List Nat)} {m : Nat}

/-- what an operation reads is what it reads in the text's order -/
theorem agree (hW : Wired os) (hT : ∀ j o, os[j]? = some o → DStep r m o (st j) (st (j + 1))) {listed : Array Bool} (hcl : ∀ (j : Nat) (o : AOper), lst? listed j → os[j]? = some o → ∀ i, o.bef.testBit i = true → lst? listed i)
    {j : Nat} {o : AOper} (hj : os[j]? = some o) (hnl : ¬ lst? listed j) (hbef : ∀ i, o.bef.testBit i = true → lst? listed i) : ∀ t ∈ o.reads, (tmS os (st 0).tm (st os.length).tm listed).getD t undefA = (st j).tm.getD t undefA := by
  intro t ht
  have hjl := (List.getElem?_eq_some_iff.1 hj).1
  by_cases htl : t < (st 0).tm.length
  · rw [List.getD_eq_getElem?_getD, List.getD_eq_getElem?_getD]
    by_cases hex : ∃ i o', os[i]? = some o' ∧ lst? listed i ∧ o'.dst = some t
    · obtain ⟨i, o', hi, hil, hd⟩ := hex
      have hilt := (List.getElem?_eq_some_iff.1 hi).1
      rw [tmS_in htl hi hil hd]
      have hij : o.bef.testBit i = true := by
        rcases hW.reads j o hj t ht i o' hi hd with h | h | h
        · subst h; exact absurd hil hnl
        · exact h
        · exact absurd (hcl i o' hil hi j h) hnl
      have hlt := hW.lt j o hj i hij
      have nowrite : ∀ k (ok : AOper), i + 1 ≤ k → os[k]? = some ok → ok.dst ≠ some t := fun k ok hk hok => hW.dst i o' hi k ok hok (by omega) t hd
      have e1 := tm_keep hT (t := t) (p := i + 1) (os.length - (i + 1)) (by omega) fun k ok h1 _ h3 => nowrite k ok h1 h3
      have e2 := tm_keep hT (t := t) (p := i + 1) (j - (i + 1)) (by omega) fun k ok h1 _ h3 => nowrite k ok h1 h3
      rw [show i + 1 + (os.length - (i + 1)) = os.length by omega] at e1
      rw [show i + 1 + (j - (i + 1)) = j by omega] at e2
      rw [List.getD_eq_getElem?_getD, e1, ← e2]; rfl
    · rw [tmS_out htl fun i o' hi hil hd => hex ⟨i, o', hi, hil, hd⟩]
      have e := tm_keep hT (t := t) (p := 0) j (by omega) fun k ok _ h2 h3 hd => by
        rw [Nat.zero_add] at h2
        rcases hW.reads j o hj t ht k ok h3 hd with h | h | h
        · omega
        · exact hex ⟨k, ok, h3, hbef k h, hd⟩
        · have := hW.lt k ok h3 j h; omega
      rw [Nat.zero_add] at e
      rw [e, List.getD_eq_getElem?_getD]; rfl
  · have h1 : (tmS os (st 0).tm (st os.length).tm listed).getD t undefA = undefA := by
      rw [List.getD_eq_getElem?_getD, List.getElem?_eq_none_iff.2 (by rw [tmS_len]; omega)]; rfl
    have h2 : (st j).tm.getD t undefA = undefA := by
      rw [List.getD_eq_getElem?_getD, List.getElem?_eq_none_iff.2 (by rw [tm_len hT j (by omega)]; omega)]; rfl
    rw [h1, h2]

/-- the slots behind one more operation -/
theorem tmS_put (hW : Wired os) (hT : ∀ j o, os[j]? = some o → DStep r m o (st j) (st (j + 1))) {listed : Array Bool} (hsz : listed.size = os.length) {j : Nat} {o : AOper} (hj : os[j]? = some o) {v : AV} (hv : (st (j + 1)).tm = putT (st j).tm o.dst v) :
    tmS os (st 0).tm (st os.length).tm (listed.setIfInBounds j true) = putT (tmS os (st 0).tm (st os.length).tm listed) o.dst v := by
  have hjl := (List.getElem?_eq_some_iff.1 hj).1
  apply List.ext_getElem?
  intro t
  by_cases htl : t < (st 0).tm.length
  · by_cases hd : o.dst = some t
    · have hl' : lst? (listed.setIfInBounds j true) j := (lst_set (by omega)).2 (.inl rfl)
      rw [tmS_in htl hj hl' hd, hd]
      simp only [putT]
      rw [List.getElem?_set_self (by rw [tmS_len]; exact htl)]
      have e1 := tm_keep hT (t := t) (p := j + 1) (os.length - (j + 1)) (by omega) fun k ok h1 _ h3 => hW.dst j o hj k ok h3 (by omega) t hd
      rw [show j + 1 + (os.length - (j + 1)) = os.length by omega, hv, hd] at e1
      simp only [putT] at e1
      rw [List.getElem?_set_self (by rw [tm_len hT j (by omega)]; exact htl)] at e1
      rw [List.getD_eq_getElem?_getD, e1]; rfl
    · rw [putT_ne hd]
      by_cases hex : ∃ i o', os[i]? = some o' ∧ lst? listed i ∧ o'.dst = some t
      · obtain ⟨i, o', hi, hil, hd'⟩ := hex
        rw [tmS_in htl hi hil hd', tmS_in htl hi ((lst_set (by omega)).2 (.inr hil)) hd']
      · rw [tmS_out htl fun i o' hi hil hd' => hex ⟨i, o', hi, hil, hd'⟩, tmS_out htl fun i o' hi hil hd' => ?_]
        rcases (lst_set (by omega)).1 hil with rfl | h
        · rw [hj] at hi; simp at hi; subst hi; exact hd hd'
        · exact hex ⟨i, o', hi, h, hd'⟩
  · rw [List.getElem?_eq_none_iff.2 (by rw [tmS_len]; omega), List.getElem?_eq_none_iff.2 (by rw [putT_len, tmS_len]; omega)]

theorem evo_agree {tm tm' : Tm} {l : List Opd} (h : ∀ t ∈ tmpsOf l, tm.getD t undefA = tm'.getD t undefA) : ∀ y ∈ l, evo tm y = evo tm' y := by
  intro y hy
  cases y with
  | const v => rfl
  | tmp t => exact h t (by simp only [tmpsOf, List.mem_filterMap]; exact ⟨_, hy, rfl⟩)

theorem wants_agree {tm tm' : Tm} {g : Option (Nat × Bool)} (h : ∀ t ∈ (g.map (·.1)).toList, tm.getD t undefA = tm'.getD t undefA) : wants tm g = wants tm' g := by
  cases g with
  | none => rfl
  | some q =>
    obtain ⟨t, b⟩ := q
    simp only [wants]
    rw [h t (by simp)]

/-- the heap in which an acting operation finds itself -/
theorem heap_acts (hW : Wired os) (hT : ∀ j o, os[j]? = some o → DStep r m o (st j) (st (j + 1))) {listed : Array Bool} (hcl : ∀ (j : Nat) (o : AOper), lst? listed j → os[j]? = some o → ∀ i, o.bef.testBit i = true → lst? listed i)
    {c : Nat} (hcl' : c ≤ os.length) (hc : ∀ (j : Nat) (o : AOper), os[j]? = some o → o.op.acts = true → (lst? listed j ↔ j < c)) {j : Nat} {o : AOper} (hj : os[j]? = some o) (hnl : ¬ lst? listed j) (hbef : ∀ i, o.bef.testBit i = true → lst? listed i) (ha : o.op.acts = true) :
    (st j).h = (st c).h ∧ (st j).wr = (st c).wr ∧ (∀ (k : Nat) (o' : AOper), os[k]? = some o' → o'.op.acts = true → (lst? (listed.setIfInBounds j true) k ↔ k < j + 1) ∨ ¬ j < listed.size) := by
  have hjl := (List.getElem?_eq_some_iff.1 hj).1
  have hlow : ∀ k (ok : AOper), k < j → os[k]? = some ok → ok.op.acts = true → lst? listed k := fun k ok hk hok hak => hbef k (hW.acts k j ok o hk hok hj hak ha)
  have hhigh : ∀ k (ok : AOper), j < k → os[k]? = some ok → ok.op.acts = true → ¬ lst? listed k := fun k ok hk hok hak hl => hnl (hcl k ok hl hok j (hW.acts j k o ok hk hj hok ha hak))
  refine ⟨?_, ?_, ?_⟩
  · rcases Nat.le_total c j with h | h
    · have := (quiet_range hT (p := c) (j - c) (by omega) fun k ok h1 h2 h3 => by
        cases hak : ok.op.acts with
        | false => rfl
        | true => have := (hc k ok h3 hak).1 (hlow k ok (by omega) h3 hak); omega).1
      rwa [show c + (j - c) = j by omega] at this
    · have := (quiet_range hT (p := j) (c - j) (by omega) fun k ok h1 h2 h3 => by
        cases hak : ok.op.acts with
        | false => rfl
        | true =>
          have hl := (hc k ok h3 hak).2 (by omega)
          rcases Nat.lt_or_ge j k with h4 | h4
          · exact absurd hl (hhigh k ok h4 h3 hak)
          · have : k = j := by omega
            subst this; exact absurd hl hnl).1
      rw [show j + (c - j) = c by omega] at this
      exact this.symm
  · rcases Nat.le_total c j with h | h
    · have := (quiet_range hT (p := c) (j - c) (by omega) fun k ok h1 h2 h3 => by
        cases hak : ok.op.acts with
        | false => rfl
        | true => have := (hc k ok h3 hak).1 (hlow k ok (by omega) h3 hak); omega).2
      rwa [show c + (j - c) = j by omega] at this
    · have := (quiet_range hT (p := j) (c - j) (by omega) fun k ok h1 h2 h3 => by
        cases hak : ok.op.acts with
        | false => rfl
        | true =>
          have hl := (hc k ok h3 hak).2 (by omega)
          rcases Nat.lt_or_ge j k with h4 | h4
          · exact absurd hl (hhigh k ok h4 h3 hak)
          · have : k = j := by omega
            subst this; exact absurd hl hnl).2
      rw [show j + (c - j) = c by omega] at this
      exact this.symm
  · intro k ok hok hak
    by_cases hs : j < listed.size
    · left
      rw [lst_set hs]
      constructor
      · rintro (rfl | hl)
        · omega
        · rcases Nat.lt_or_ge j k with h4 | h4
          · exact absurd hl (hhigh k ok h4 hok hak)
          · omega
      · intro hk
        rcases Nat.lt_or_ge k j with h4 | h4
        · exact .inr (hlow k ok h4 hok hak)
        · exact .inl (by omega)
    · exact .inr hs
end
end Go.Eng

/- The engine, part H7: any order of a region, one operation. -/
namespace Go.Eng
set_option linter.unusedSectionVars false
set_option linter.unusedSimpArgs false

section
variable {RP : RPred} {P : Program} {C : Cfg} {E : Env}
variable {β β0 : Beta} {h h0 : Heap} {F F0 : Frz} {w w0 w' : World} {f : Nat}

/-- what the compiled operation is: it makes memory; it looks; or neither -/
inductive Sort4 (P : Program) (C : Cfg) (q : Oper) (c : AOp) : Prop
  | plain (h1 : laidB c = none) (h2 : c.looks = false)
  | alloc (t : TypeId) (e : Nat) (z : AV) (h1 : q.op = .alloc t) (h2 : szOf P t = some e) (h3 : zeroOf P t = some z) (h4 : c = .alloc e z)
  | mkmap (t : TypeId) (h1 : q.op = .makeMap t none) (h4 : c = .mkmap) (h2 : ∃ k v, P.underlying t = some (.map k v))
  | looks (h1 : laidB c = none) (h2 : c.looks = true) (x : Operand) (y : Opd) (h3 : opd C x = some y) (h4 : y ∈ c.opds) (h5 : ∀ tm m, (c.fixed tm).ltC m = (evo tm y).lt m)

theorem cop_sort (q : Oper) (f : Nat) : Sort4 P C q (cop P C f q) := by
  obtain ⟨dst, op, type, pos, after, guard⟩ := q
  have bad : ∀ y, Sort4 P C ⟨dst, op, type, pos, after, guard⟩ (.bad y) := fun y => .plain rfl rfl
  have key : ∀ r : Option AOp, (∀ c, r = some c → Sort4 P C ⟨dst, op, type, pos, after, guard⟩ c) → Sort4 P C ⟨dst, op, type, pos, after, guard⟩ (r.getD (.bad pos)) := fun r hr => by
    cases r with
    | none => exact bad _
    | some c => exact hr c rfl
  unfold cop
  cases op <;> dsimp only <;> refine key _ fun c hc => ?_ <;> try simp only [Option.bind_eq_bind, Option.pure_def, Option.bind_eq_some_iff, Option.some.injEq, reduceCtorEq, Option.map_eq_some_iff] at hc
  case alloc t => obtain ⟨e, he, z, hz, rfl⟩ := hc; exact .alloc t e z rfl he hz rfl
  case makeMap t r =>
    cases r with
    | some x => simp at hc
    | none =>
      simp only [Option.bind_eq_some_iff] at hc
      obtain ⟨d, hd, hc⟩ := hc
      cases d <;> simp only [reduceCtorEq] at hc
      split at hc
      · simp at hc; subst hc; exact .mkmap t rfl rfl ⟨_, _, hd⟩
      · simp at hc
  case load t x => obtain ⟨n, _, y, hy, rfl⟩ := hc; exact .looks rfl rfl x y hy (by simp [AOp.opds]) fun _ _ => rfl
  case lookup t x k ok =>
    obtain ⟨d, hd, hc⟩ := hc
    cases d <;> simp only [reduceCtorEq, Option.bind_eq_some_iff, Option.some.injEq] at hc
    obtain ⟨sh, _, z, _, y, hy, _, _, rfl⟩ := hc
    exact .looks rfl rfl x y hy (by simp [AOp.opds]) fun _ _ => rfl
  case convert s d x =>
    unfold cconv at hc
    (repeat' (split at hc)) <;> simp only [Option.map_eq_some_iff, reduceCtorEq] at hc <;> obtain ⟨y, hy, rfl⟩ := hc <;> first | exact .plain rfl rfl | exact .looks rfl rfl x y hy (by simp [AOp.opds]) fun _ _ => rfl
  case indexAddr t x i =>
    obtain ⟨d, _, hc⟩ := hc
    cases d <;> simp only [reduceCtorEq, Option.bind_eq_some_iff, Option.some.injEq] at hc <;> obtain ⟨_, _, y, hy, _, _, rfl⟩ := hc <;> exact .looks rfl rfl x y hy (by simp [AOp.opds]) fun _ _ => rfl
  case slice t x lo hi mx =>
    obtain ⟨_, _, _, _, _, _, d, _, hc⟩ := hc
    cases d <;> simp only [reduceCtorEq, Option.bind_eq_some_iff, Option.some.injEq] at hc
    · obtain ⟨y, hy, rfl⟩ := hc; exact .looks rfl rfl x y hy (by simp [AOp.opds]) fun _ _ => rfl
    · obtain ⟨_, _, y, hy, rfl⟩ := hc; exact .looks rfl rfl x y hy (by simp [AOp.opds]) fun _ _ => rfl
    · obtain ⟨_, _, y, hy, rfl⟩ := hc; exact .looks rfl rfl x y hy (by simp [AOp.opds]) fun _ _ => rfl
  case binOp bop t x y n =>
    unfold cbin ceq at hc
    cases bop <;> dsimp only at hc <;> (repeat' (split at hc)) <;> simp [Option.bind_eq_some_iff] at hc <;> (try (obtain ⟨_, _, _, _, rfl⟩ := hc; exact .plain rfl rfl)) <;> (try (obtain ⟨_, _, _, _, _, _, rfl⟩ := hc; exact .plain rfl rfl))
  case makeFunc fn fi ca => unfold cmkf at hc; (repeat' (split at hc)) <;> simp at hc; obtain ⟨_, _, rfl⟩ := hc; exact .plain rfl rfl
  case call c' =>
    unfold ccall at hc
    split at hc
    · simp at hc
    · split at hc
      · simp at hc; subst hc; exact .plain rfl rfl
      · simp at hc; subst hc; exact .plain rfl rfl
      · unfold cbuiltin at hc
        (repeat' (split at hc)) <;> simp at hc <;> subst hc <;> exact .plain rfl rfl
      · simp at hc
  case build t ps =>
    obtain ⟨z, _, hc⟩ := hc
    cases z <;> (try (simp at hc; done))
    simp only [Option.bind_eq_some_iff] at hc
    obtain ⟨d, _, hc⟩ := hc
    cases d <;> simp only [reduceCtorEq, Option.bind_eq_some_iff, Option.some.injEq] at hc
    · obtain ⟨_, _, _, _, rfl⟩ := hc; exact .plain rfl rfl
    · obtain ⟨_, _, rfl⟩ := hc; exact .plain rfl rfl
  case buildSlice t l ps =>
    obtain ⟨d, _, hc⟩ := hc
    cases d <;> (try (simp at hc; done))
    simp only [Option.bind_eq_some_iff] at hc
    obtain ⟨_, _, _, _, hc⟩ := hc
    split at hc
    · simp at hc
    · simp [Option.bind_eq_some_iff] at hc; obtain ⟨_, _, rfl⟩ := hc; exact .plain rfl rfl
  case move x => obtain ⟨_, _, rfl⟩ := hc; exact .plain rfl rfl
  case assign x => obtain ⟨_, _, rfl⟩ := hc; exact .plain rfl rfl
  case pick a b d => obtain ⟨_, _, _, _, _, _, rfl⟩ := hc; exact .plain rfl rfl
  case box t x => obtain ⟨_, _, _, _, rfl⟩ := hc; exact .plain rfl rfl
  case store t x v => obtain ⟨_, _, _, _, _, _, rfl⟩ := hc; exact .plain rfl rfl
  case nilCheck x => obtain ⟨_, _, rfl⟩ := hc; exact .plain rfl rfl
  case unOp o t x => obtain ⟨_, _, rfl⟩ := hc; exact .plain rfl rfl
  case extract x i => obtain ⟨_, _, rfl⟩ := hc; exact .plain rfl rfl
  case insert t m k v =>
    obtain ⟨d, _, hc⟩ := hc
    cases d <;> simp only [reduceCtorEq, Option.bind_eq_some_iff, Option.some.injEq] at hc
    obtain ⟨_, _, _, _, _, _, _, _, rfl⟩ := hc; exact .plain rfl rfl
  case mapUpdate t m k v =>
    obtain ⟨d, _, hc⟩ := hc
    cases d <;> simp only [reduceCtorEq, Option.bind_eq_some_iff, Option.some.injEq] at hc
    obtain ⟨_, _, _, _, _, _, _, _, rfl⟩ := hc; exact .plain rfl rfl
  case makeSlice t l c' =>
    obtain ⟨d, _, hc⟩ := hc
    cases d <;> simp only [reduceCtorEq, Option.bind_eq_some_iff, Option.some.injEq] at hc
    obtain ⟨_, _, hc⟩ := hc
    split at hc
    · simp at hc
    · simp only [Option.bind_eq_some_iff, Option.some.injEq] at hc
      obtain ⟨_, _, _, _, _, _, rfl⟩ := hc; exact .plain rfl rfl
  case fieldAddr t x i =>
    obtain ⟨d, _, hc⟩ := hc
    cases d <;> simp only [reduceCtorEq, Option.bind_eq_some_iff, Option.some.injEq] at hc
    obtain ⟨_, _, _, _, hc⟩ := hc
    split at hc
    · simp at hc
    · simp only [Option.bind_eq_some_iff, Option.some.injEq] at hc
      obtain ⟨_, _, rfl⟩ := hc; exact .plain rfl rfl
  case field t x i =>
    obtain ⟨d, _, hc⟩ := hc
    cases d <;> simp only [reduceCtorEq, Option.bind_eq_some_iff, Option.some.injEq] at hc
    obtain ⟨_, _, _, _, _, _, rfl⟩ := hc; exact .plain rfl rfl
  case index t x i =>
    obtain ⟨d, _, hc⟩ := hc
    cases d <;> simp only [reduceCtorEq, Option.bind_eq_some_iff, Option.some.injEq] at hc
    · obtain ⟨_, _, _, _, rfl⟩ := hc; exact .plain rfl rfl
    · obtain ⟨_, _, _, _, _, _, rfl⟩ := hc; exact .plain rfl rfl
  all_goals (exact hc.elim)
end
end Go.Eng

/- The engine, part H8: any order of a region, one operation. -/
namespace Go.Eng
set_option linter.unusedSectionVars false
set_option linter.unusedSimpArgs false

section
variable {RP : RPred} {P : Program} {C : Cfg} {E : Env}
variable {β β0 : Beta} {h h0 : Heap} {F F0 : Frz} {w w0 w' : World} {f : Nat}
variable {r : Nat → List AV → Heap → Option (AV × Heap × List Nat)} {m : Nat} {os : List AOper} {st : Nat → DSt}

theorem first_change {p : Nat} : ∀ d, (st (p + d)).h = (st p).h ∨ ∃ k, p ≤ k ∧ k < p + d ∧ (st k).h = (st p).h ∧ (st (k + 1)).h ≠ (st k).h := by
  intro d
  induction d with
  | zero => exact .inl rfl
  | succ d ih =>
    rcases ih with ih | ⟨k, h1, h2, h3, h4⟩
    · by_cases he : (st (p + d + 1)).h = (st (p + d)).h
      · exact .inl (he.trans ih)
      · exact .inr ⟨p + d, by omega, by omega, ih, he⟩
    · exact .inr ⟨k, h1, by omega, h3, h4⟩

theorem last_change {p : Nat} : ∀ d, (st (p + d)).h = (st p).h ∨ ∃ k, p ≤ k ∧ k < p + d ∧ (st (k + 1)).h = (st (p + d)).h ∧ (st (k + 1)).h ≠ (st k).h := by
  intro d
  induction d with
  | zero => exact .inl rfl
  | succ d ih =>
    by_cases he : (st (p + d + 1)).h = (st (p + d)).h
    · rcases ih with ih | ⟨k, h1, h2, h3, h4⟩
      · exact .inl (he.trans ih)
      · exact .inr ⟨k, h1, by omega, h3.trans he.symm, h4⟩
    · exact .inr ⟨p + d, by omega, by omega, rfl, he⟩

theorem again_eq {h : Heap} {c : AOp} {tm : Tm} {v : AV} (hl : c.looks = true) (ha : again h (c.fixed tm) v = true) (hlt : (c.fixed tm).ltC h.length = true) : aop h (evo tm) c = some (.val v) := by
  unfold again at ha
  rw [hlt] at ha
  simp only [Bool.not_true, Bool.false_or] at ha
  have he := aop_fixed (h := h) (tm := tm) (tm' := []) hl
  rw [he] at ha
  split at ha
  · rename_i v' hv'
    rw [hv', AV.beq_eq ha]
  · simp at ha

/-- what looks finds what it found -/
theorem look_here (_hW : Wired os) (hTr : Tr r m os 0 [] [] st) {listed : Array Bool} (hcl : ∀ (j : Nat) (o : AOper), lst? listed j → os[j]? = some o → ∀ i, o.bef.testBit i = true → lst? listed i)
    {c : Nat} (hcl' : c ≤ os.length) (hc : ∀ (j : Nat) (o : AOper), os[j]? = some o → o.op.acts = true → (lst? listed j ↔ j < c)) {j : Nat} {o : AOper} (hj : os[j]? = some o) (hnl : ¬ lst? listed j) (hbef : ∀ i, o.bef.testBit i = true → lst? listed i)
    (hw : wants (st j).tm o.guard = true) (hlo : o.op.looks = true) {v : AV} (ha : aop (st j).h (evo (st j).tm) o.op = some (.val v)) (hlt : (o.op.fixed (st j).tm).ltC (st c).h.length = true) : aop (st c).h (evo (st j).tm) o.op = some (.val v) := by
  have hjl := (List.getElem?_eq_some_iff.1 hj).1
  obtain ⟨_, t2, t3⟩ := hTr.look j o v hj hw hlo ha
  have acts_of : ∀ {k : Nat}, k < os.length → (st (k + 1)).h ≠ (st k).h → ∃ ok, os[k]? = some ok ∧ ok.op.acts = true := fun {k} hk hne => by
    have hg := List.getElem?_eq_getElem hk
    refine ⟨_, hg, ?_⟩
    cases hak : (os[k]).op.acts with
    | true => rfl
    | false => exact absurd ((hTr.step k _ hg).quiet hak).1 hne
  rcases Nat.le_total c j with hle | hle
  · rcases first_change (st := st) (p := c) (j - c) with h1 | ⟨k, k1, k2, k3, k4⟩
    · rw [show c + (j - c) = j by omega] at h1
      rw [← h1]; exact ha
    · obtain ⟨ok, hok, hak⟩ := acts_of (by omega) k4
      rcases t2 k (by omega) with h1 | h1 | h1
      · exact absurd h1 k4
      · rw [Nat.zero_add] at h1
        have := (hc k ok hok hak).1 (hbef k h1)
        omega
      · rw [k3] at h1
        exact again_eq hlo h1 hlt
  · rcases last_change (st := st) (p := j) (c - j) with h1 | ⟨k, k1, k2, k3, k4⟩
    · rw [show j + (c - j) = c by omega] at h1
      rw [h1]; exact ha
    · rw [show j + (c - j) = c by omega] at k3 k2
      obtain ⟨ok, hok, hak⟩ := acts_of (by omega) k4
      have hkl := (hc k ok hok hak).2 (by omega)
      have hkj : j < k := by
        rcases Nat.lt_or_ge j k with h | h
        · exact h
        · have : k = j := by omega
          subst this; exact absurd hkl hnl
      rcases t3 k ok hkj hok with h1 | h1 | h1
      · exact absurd h1 k4
      · rw [Nat.zero_add] at h1
        exact absurd (hcl k ok hkl hok j h1) hnl
      · rw [k3] at h1
        exact again_eq hlo h1 hlt

theorem na_mono (hT : ∀ j o, os[j]? = some o → DStep r m o (st j) (st (j + 1))) {p : Nat} : ∀ d, p + d ≤ os.length → (st p).na ≤ (st (p + d)).na := by
  intro d
  induction d with
  | zero => intro _; exact Nat.le_refl _
  | succ d ih =>
    intro hl
    have h1 := ih (by omega)
    have hs := hT (p + d) _ (List.getElem?_eq_getElem (by omega))
    have : (st (p + d)).na ≤ (st (p + d + 1)).na := by
      generalize st (p + d + 1) = s' at hs
      cases hs <;> dsimp only <;> (try split) <;> omega
    rw [show p + (d + 1) = p + d + 1 by omega]; omega

theorem na_laid (hT : ∀ j o, os[j]? = some o → DStep r m o (st j) (st (j + 1))) {k : Nat} {o : AOper} (hk : os[k]? = some o) (hb : (laidB o.op).isSome = true) : (st (k + 1)).na = (st k).na + 1 := by
  have hs := hT k o hk
  generalize st (k + 1) = s' at hs
  cases hs with
  | skip hw => simp [hb]
  | laid hw hl => rfl
  | val hw hl => rw [hl] at hb; simp at hb
  | eff hw hl => rw [hl] at hb; simp at hb
  | call hw hl => rw [hl] at hb; simp at hb
  | callQ hw hl => rw [hl] at hb; simp at hb

theorem na_ne (hT : ∀ j o, os[j]? = some o → DStep r m o (st j) (st (j + 1))) {j k : Nat} {o o' : AOper} (hj : os[j]? = some o) (hk : os[k]? = some o') (hb : (laidB o.op).isSome = true) (hb' : (laidB o'.op).isSome = true) (hne : k ≠ j) : (st k).na ≠ (st j).na := by
  have hjl := (List.getElem?_eq_some_iff.1 hj).1
  have hkl := (List.getElem?_eq_some_iff.1 hk).1
  rcases Nat.lt_or_ge k j with h | h
  · have h1 := na_laid hT hk hb'
    have h2 := na_mono hT (p := k + 1) (j - (k + 1)) (by omega)
    rw [show k + 1 + (j - (k + 1)) = j by omega] at h2; omega
  · have h1 := na_laid hT hj hb
    have h2 := na_mono hT (p := j + 1) (k - (j + 1)) (by omega)
    rw [show j + 1 + (k - (j + 1)) = k by omega] at h2; omega

/-- a state of the region, its parts at hand -/
structure At (RP : RPred) (C : Cfg) (os : List AOper) (st : Nat → DSt) (β0 : Beta) (F0 : Frz) (h0 : Heap) (w0 : World) (listed : Array Bool) (a : Act) (w : World) (c : Nat) (β : Beta) (F : Frz) : Prop where
  size : listed.size = os.length
  closed : ∀ (j : Nat) (o : AOper), lst? listed j → os[j]? = some o → ∀ i, o.bef.testBit i = true → lst? listed i
  le : c ≤ os.length
  acts : ∀ (j : Nat) (o : AOper), os[j]? = some o → o.op.acts = true → (lst? listed j ↔ j < c)
  inv : Inv RP C β0 F0 h0 w0 (st c).wr β F (st c).h w
  tms : TmRel β (st c).h F w (tmS os (st 0).tm (st os.length).tm listed) a.tmps
  laid : ∀ (j : Nat) (o : AOper) (B : Blk), os[j]? = some o → laidB o.op = some B → ¬ lst? listed j → β (st j).na = none ∧ (st c).h[(st j).na]? = some B ∧ h0.length ≤ (st j).na

theorem DI.at {listed : Array Bool} {a : Act} (h : DI RP C os st β0 F0 h0 w0 listed a w) : ∃ c β F, At RP C os st β0 F0 h0 w0 listed a w c β F := by
  obtain ⟨h1, h2, c, β, F, h3, h4, h5, h6, h7⟩ := h
  exact ⟨c, β, F, h1, h2, h3, h4, h5, h6, h7⟩

theorem At.di {listed : Array Bool} {a : Act} {c : Nat} (h : At RP C os st β0 F0 h0 w0 listed a w c β F) : DI RP C os st β0 F0 h0 w0 listed a w :=
  ⟨h.size, h.closed, c, β, F, h.le, h.acts, h.inv, h.tms, h.laid⟩

theorem closed_set {listed : Array Bool} (hsz : listed.size = os.length) (hcl : ∀ (j : Nat) (o : AOper), lst? listed j → os[j]? = some o → ∀ i, o.bef.testBit i = true → lst? listed i)
    {j : Nat} {o : AOper} (hj : os[j]? = some o) (hbef : ∀ i, o.bef.testBit i = true → lst? listed i) :
    ∀ (k : Nat) (o' : AOper), lst? (listed.setIfInBounds j true) k → os[k]? = some o' → ∀ i, o'.bef.testBit i = true → lst? (listed.setIfInBounds j true) i := by
  have hjl : j < listed.size := by rw [hsz]; exact (List.getElem?_eq_some_iff.1 hj).1
  intro k o' hk hok i hi
  rw [lst_set hjl] at hk ⊢
  rcases hk with rfl | hk
  · rw [hj] at hok; simp at hok; subst hok; exact .inr (hbef i hi)
  · exact .inr (hcl k o' hk hok i hi)

/-- the next state, behind an operation that does not act -/
theorem At.nextQ (hW : Wired os) (hT : ∀ j o, os[j]? = some o → DStep r m o (st j) (st (j + 1))) {listed : Array Bool} {a : Act} {c : Nat} (hA : At RP C os st β0 F0 h0 w0 listed a w c β F)
    {j : Nat} {o : AOper} (hj : os[j]? = some o) (hbef : ∀ i, o.bef.testBit i = true → lst? listed i) (hna : o.op.acts = false) {β' : Beta} {F' : Frz} {a' : Act} {v : AV} (hv : (st (j + 1)).tm = putT (st j).tm o.dst v)
    (hI : Inv RP C β0 F0 h0 w0 (st c).wr β' F' (st c).h w') (hTm : TmRel β' (st c).h F' w' (putT (tmS os (st 0).tm (st os.length).tm listed) o.dst v) a'.tmps)
    (hkeep : ∀ (k : Nat) (o' : AOper) (B : Blk), os[k]? = some o' → laidB o'.op = some B → ¬ lst? listed k → k ≠ j → β (st k).na = none → (st k).na < (st c).h.length → β' (st k).na = none) :
    At RP C os st β0 F0 h0 w0 (listed.setIfInBounds j true) a' w' c β' F' where
  size := by simp [hA.size]
  closed := closed_set hA.size hA.closed hj hbef
  le := hA.le
  acts := fun k o' hk hak => by
    have hjl : j < listed.size := by rw [hA.size]; exact (List.getElem?_eq_some_iff.1 hj).1
    rw [lst_set hjl, ← hA.acts k o' hk hak]
    constructor
    · rintro (rfl | h)
      · rw [hj] at hk; simp at hk; subst hk; rw [hna] at hak; simp at hak
      · exact h
    · exact .inr
  inv := hI
  tms := by rw [tmS_put hW hT hA.size hj hv]; exact hTm
  laid := fun k o' B hk hB hnk => by
    have hjl : j < listed.size := by rw [hA.size]; exact (List.getElem?_eq_some_iff.1 hj).1
    rw [lst_set hjl] at hnk
    have hkj : k ≠ j := fun e => hnk (.inl e)
    have hnk' : ¬ lst? listed k := fun h => hnk (.inr h)
    obtain ⟨g1, g2, g3⟩ := hA.laid k o' B hk hB hnk'
    exact ⟨hkeep k o' B hk hB hnk' hkj g1 (List.getElem?_eq_some_iff.1 g2).1, g2, g3⟩

/-- the next state, behind an operation that acts -/
theorem At.nextA (hW : Wired os) (hT : ∀ j o, os[j]? = some o → DStep r m o (st j) (st (j + 1))) {listed : Array Bool} {a : Act} {c : Nat} (hA : At RP C os st β0 F0 h0 w0 listed a w c β F)
    {j : Nat} {o : AOper} (hj : os[j]? = some o) (hnl : ¬ lst? listed j) (hbef : ∀ i, o.bef.testBit i = true → lst? listed i) (hact : o.op.acts = true) {β' : Beta} {F' : Frz} {a' : Act} {v : AV} (hv : (st (j + 1)).tm = putT (st j).tm o.dst v)
    (hI : Inv RP C β0 F0 h0 w0 (st (j + 1)).wr β' F' (st (j + 1)).h w') (hTm : TmRel β' (st (j + 1)).h F' w' (putT (tmS os (st 0).tm (st os.length).tm listed) o.dst v) a'.tmps)
    (hkeep : ∀ n, n < (st c).h.length → β n = none → β' n = none ∧ (st (j + 1)).h[n]? = (st c).h[n]?) :
    At RP C os st β0 F0 h0 w0 (listed.setIfInBounds j true) a' w' (j + 1) β' F' := by
  have hjl : j < listed.size := by rw [hA.size]; exact (List.getElem?_eq_some_iff.1 hj).1
  obtain ⟨_, _, e3⟩ := heap_acts hW hT hA.closed hA.le hA.acts hj hnl hbef hact
  exact {
    size := by simp [hA.size]
    closed := closed_set hA.size hA.closed hj hbef
    le := by rw [← hA.size]; omega
    acts := fun k o' hk hak => (e3 k o' hk hak).resolve_right fun h => h hjl
    inv := hI
    tms := by rw [tmS_put hW hT hA.size hj hv]; exact hTm
    laid := fun k o' B hk hB hnk => by
      rw [lst_set hjl] at hnk
      have hnk' : ¬ lst? listed k := fun h => hnk (.inr h)
      obtain ⟨g1, g2, g3⟩ := hA.laid k o' B hk hB hnk'
      obtain ⟨k1, k2⟩ := hkeep _ (List.getElem?_eq_some_iff.1 g2).1 g1
      exact ⟨k1, k2.trans g2, g3⟩ }
end
end Go.Eng

/- The engine, part H9: regions with an open order are sound. -/
namespace Go.Eng
set_option linter.unusedSectionVars false
set_option linter.unusedSimpArgs false

section
variable {RP : RPred} {P : Program} {C : Cfg} {E : Env}
variable {β β0 : Beta} {h h0 : Heap} {F F0 : Frz} {w w0 w' : World} {f : Nat}

/-- the operations of a region, with what stands before each -/
def osOf (P : Program) (C : Cfg) (f : Nat) (ops : Array Oper) : List AOper := withB (Region.before ops) 0 (cregion P C f ops)

theorem osOf_get {ops : Array Oper} {j : Nat} {q : Oper} (hq : ops[j]? = some q) : (osOf P C f ops)[j]? = some { coper P C f ops q with bef := (Region.before ops).getD j 0 } := by
  unfold osOf
  rw [withB_get, Nat.zero_add]
  simp [cregion, hq]

theorem osOf_len (ops : Array Oper) : (osOf P C f ops).length = ops.size := by
  unfold osOf
  rw [withB_length]; simp [cregion]

/-- memory that is made ahead -/
theorem laid_run (hP : ProgOK P) {q : Oper} {a : Act} {B : Blk} (hB : laidB (cop P C f q) = some B) (w : World) : ∃ o u, (execOp a.eval q).run P w = .ok (.value u) { w with heap := w.heap.push o } ∧
    (∀ (β : Beta) (h : Heap) (F : Frz) (w' : World), w'.heap[w.heap.size]? = some o → BlkRel RP β h F w' w.heap.size B) ∧
    (∀ (β : Beta) (h : Heap) (F : Frz) (w' : World) (n : Nat), β n = some w.heap.size → h[n]? = some B → V β h F w' (laidV n (cop P C f q)) u) := by
  obtain ⟨dst, op, type, pos, after, guard⟩ := q
  cases cop_sort (P := P) (C := C) ⟨dst, op, type, pos, after, guard⟩ f with
  | plain h1 => rw [h1] at hB; simp at hB
  | looks h1 => rw [h1] at hB; simp at hB
  | alloc t e z h1 h2 h3 h4 =>
    rw [h4] at hB ⊢
    simp only [laidB, Option.some.injEq] at hB; subst hB
    obtain ⟨zv, hzr, hzo, hzs⟩ := zeroOf_cells (w := w) hP h3 h2
    dsimp only at h1; subst h1
    refine ⟨.cells zv.cells t (0, 0), .pointer (some ⟨w.heap.size, 0, none⟩), ?_, fun β h F w' hw => ?_, fun β h F w' n hb hh => ?_⟩
    · simp [execOp, Instr.alloc, hzr, newVar, newRow]
    · have hzV : V β h F w' z zv := ofValue_V zv z hzo
      have hc := hzV.cells
      exact ⟨zv.cells, t, (0, 0), hw, free0 _, by simp [hc.len, hzs], fun _ => by simp [hzs], by simp [hzs], by rw [flatC_one]; exact hc.get⟩
    · have := V.ptr (β := β) (h := h) (F := F) (w := w') n 0 0 0 w.heap.size e false [z] hb hh
      simpa [laidV] using this
  | mkmap t h1 h4 h2 =>
    rw [h4] at hB ⊢
    simp only [laidB, Option.some.injEq] at hB; subst hB
    dsimp only at h1; subst h1
    refine ⟨.map #[] 0, .map (some w.heap.size), ?_, fun β h F w' hw => ?_, fun β h F w' n hb hh => ?_⟩
    · simp [execOp, Instr.makeMap]
    · exact ⟨#[], 0, hw, rfl, by simp⟩
    · exact .mapr n _ [] hb hh

theorem aop_val_noacts_len {h h' : Heap} (h1 : h'.length = h.length) (h2 : ∀ n, n < h.length → h'[n]? = h[n]?) : h' = h := by
  apply List.ext_getElem?
  intro n
  rcases Nat.lt_or_ge n h.length with hn | hn
  · exact h2 n hn
  · rw [List.getElem?_eq_none_iff.2 hn, List.getElem?_eq_none_iff.2 (by omega)]

theorem draw_step (hP : ProgOK P) {n : Nat} (hrun : RunOK RP P C E n) {ops : Array Oper} {st : Nat → DSt} (hW : Wired (osOf P C f ops)) (hTr : Tr (run E n) h0.length (osOf P C f ops) 0 [] [] st) {listed : Array Bool} {a : Act}
    (hDI : DI RP C (osOf P C f ops) st β0 F0 h0 w0 listed a w) {j : Nat} {q : Oper} (hq : ops[j]? = some q) (hnl : ¬ lst? listed j) (hbef : ∀ i, ((Region.before ops).getD j 0).testBit i = true → lst? listed i)
    (b : Frame) (k : List Item) (cs : List Frame) (rest : List Nat) :
    ∃ a' w', Steps P (lone (b.at a (.inRegion ops (j :: rest) :: k)) cs w) (lone (b.at a' (.inRegion ops rest :: k)) cs w') ∧ DI RP C (osOf P C f ops) st β0 F0 h0 w0 (listed.setIfInBounds j true) a' w' ∧ a'.defers = a.defers := by
  obtain ⟨c, β, F, hA⟩ := hDI.at
  have hj := osOf_get (P := P) (C := C) (f := f) hq
  generalize ho : ({ coper P C f ops q with bef := (Region.before ops).getD j 0 } : AOper) = o at hj
  have hbef' : ∀ i, o.bef.testBit i = true → lst? listed i := by subst ho; exact hbef
  have hdst : o.dst = q.dst := by subst ho; exact coper_dst ops q
  have hcalm := hW.calm j o hj
  have hT := hTr.step
  have hTm := hA.tms
  obtain ⟨hop, hwant⟩ : o.op = cop P C f q ∧ wants (tmS (osOf P C f ops) (st 0).tm (st (osOf P C f ops).length).tm listed) o.guard = Region.wanted q (yielded ops a.tmps) := by
    rcases wants_ok (C := C) (f := f) (ops := ops) (o := q) hTm with ⟨y, hbad, _⟩ | hgood
    · have : o.op = .bad y := by subst ho; exact hbad
      rw [this] at hcalm; simp [AOp.calm] at hcalm
    · subst ho; exact hgood
  have hag := agree hW hT hA.closed hj hnl hbef'
  have hwag : wants (tmS (osOf P C f ops) (st 0).tm (st (osOf P C f ops).length).tm listed) o.guard = wants (st j).tm o.guard := wants_agree fun t ht => hag t (by unfold AOper.reads; exact List.mem_append_right _ ht)
  have hev : ∀ y ∈ o.op.opds, evo (tmS (osOf P C f ops) (st 0).tm (st (osOf P C f ops).length).tm listed) y = evo (st j).tm y := evo_agree fun t ht => hag t (by unfold AOper.reads; exact List.mem_append_left _ ht)
  generalize htmL : tmS (osOf P C f ops) (st 0).tm (st (osOf P C f ops).length).tm listed = tmL at *
  have hcong : ∀ h, aop h (evo tmL) o.op = aop h (evo (st j).tm) o.op := fun h => aop_congr hev
  have hwq : Region.wanted q (yielded ops a.tmps) = wants (st j).tm o.guard := hwant.symm.trans hwag
  have hSt : St RP C β (st c).h F w tmL a := ⟨hA.inv.rel, hA.inv.glob, hTm⟩
  have hstep := hT j o hj
  have hfr : ∀ {W : Nat → Prop} {β' : Beta} {F' : Frz} {h' : Heap} {w' : World}, Ext W β F (st c).h w β' F' h' w' → ∀ n, n < (st c).h.length → β n = none → β' n = none ∧ h'[n]? = (st c).h[n]? := fun hE n hn hb => hE.none_ n hn hb
  generalize hs' : st (j + 1) = s' at hstep
  cases hstep with
  | skip hw =>
    rw [hw] at hwq
    have hs := step_op_skip (P := P) (b := b) (a := a) (k := k) (cs := cs) (w := w) (ops := ops) (i := j) (rest := rest) (by simp [hq]; exact hwq)
    simp only [hq, Option.bind_some] at hs
    refine ⟨_, w, .one hs, ?_, put_defers' _ _ _⟩
    have hTm' : TmRel β (st c).h F w (putT (tmS (osOf P C f ops) (st 0).tm (st (osOf P C f ops).length).tm listed) o.dst undefA) (a.put q.dst undef).tmps := by
      rw [htmL, hdst]; exact hTm.put V.undef q.dst
    cases hact : o.op.acts with
    | false => exact (hA.nextQ hW hT hj hbef' hact (v := undefA) (by rw [hs']) hA.inv hTm' (fun _ _ _ _ _ _ _ h _ => h)).di
    | true =>
      obtain ⟨e1, e2, _⟩ := heap_acts hW hT hA.closed hA.le hA.acts hj hnl hbef' hact
      have e3 : (st (j + 1)).h = (st c).h := by rw [hs']; exact e1
      have e4 : (st (j + 1)).wr = (st c).wr := by rw [hs']; exact e2
      exact (hA.nextA hW hT hj hnl hbef' hact (v := undefA) (by rw [hs']) (by rw [e3, e4]; exact hA.inv) (by rw [e3]; exact hTm') (fun n _ h => ⟨h, by rw [e3]⟩)).di
  | laid hw hl =>
    rw [hw] at hwq
    obtain ⟨B, hB⟩ := Option.isSome_iff_exists.1 hl
    obtain ⟨o', u, hr, hbl, hV⟩ := laid_run (RP := RP) (a := a) hP (by rw [← hop]; exact hB) w
    obtain ⟨g1, g2, g3⟩ := hA.laid j o B hj hB hnl
    have hact : o.op.acts = false := by cases hoo : o.op <;> rw [hoo] at hl <;> simp [laidB] at hl <;> rfl
    have hb : BlkRel RP (upd β (st j).na w.heap.size) (st c).h F { w with heap := w.heap.push o' } w.heap.size B := hbl _ _ _ _ push_last
    have hI' := Inv.mat hA.inv g1 g3 g2 (w' := { w with heap := w.heap.push o' }) (o := o') rfl ⟨rfl, rfl, rfl⟩ hb
    have hold : ∀ b, b < w.heap.size → ({ w with heap := w.heap.push o' } : World).heap[b]? = w.heap[b]? := fun b hb => push_get hb
    refine ⟨_, _, .one (step_op hq hwq hr (.inl rfl)), ?_, put_defers' _ _ _⟩
    refine (hA.nextQ hW hT hj hbef' hact (v := laidV (st j).na o.op) (by rw [hs']) hI' ?_ ?_).di
    · rw [htmL, hdst]
      exact (hTm.mat g1 hold hA.inv.rel.cell _).put (by rw [hop]; exact hV _ _ _ _ _ (upd_same _ _ _) g2) q.dst
    · intro k' ok B' hk' hB' hnk' hkj h1 h2
      rw [upd_ne β _ (na_ne hT hj hk' (by rw [hB]; rfl) (by rw [hB']; rfl) hkj)]
      exact h1
  | val hw hl v ha =>
    rw [hw] at hwq
    have hhere : aop (st c).h (evo tmL) o.op = some (.val v) := by
      rw [hcong]
      cases hact : o.op.acts with
      | true =>
        obtain ⟨e1, _, _⟩ := heap_acts hW hT hA.closed hA.le hA.acts hj hnl hbef' hact
        rw [← e1]; exact ha
      | false =>
        cases hlo : o.op.looks with
        | false => rw [aop_noheap (h' := (st j).h) hlo hact hl]; exact ha
        | true =>
          refine look_here hW hTr hA.closed hA.le hA.acts hj hnl hbef' hw hlo ha ?_
          cases cop_sort (P := P) (C := C) q f with
          | plain h1 h2 => rw [hop] at hlo; rw [h2] at hlo; simp at hlo
          | alloc t e z h1 h2 h3 h4 => rw [hop, h4] at hlo; simp [AOp.looks] at hlo
          | mkmap t h1 h4 h2 => rw [hop, h4] at hlo; simp [AOp.looks] at hlo
          | looks h1 h2 x y h3 h4 h5 =>
            rw [hop, h5, ← hev y (by rw [hop]; exact h4)]
            exact (evo_V hA.inv.glob hTm h3).lt
    rw [hop] at hhere
    obtain ⟨x, u, w', β', F', h1, h2, h3, h4, h5⟩ := op_eff hP hSt hhere (v := v) (h' := (st c).h) (wr := none) rfl
    have hI' : Inv RP C β0 F0 h0 w0 (st c).wr β' F' (st c).h w' := hA.inv.step h3 h5 (fun _ _ _ => rfl) (fun _ hn => hn) (fun n hn _ => by simp at hn)
    refine ⟨_, w', .one (step_op hq hwq h1 h2), ?_, put_defers' _ _ _⟩
    have hTm' : TmRel β' (st c).h F' w' (putT (tmS (osOf P C f ops) (st 0).tm (st (osOf P C f ops).length).tm listed) o.dst v) (a.put q.dst u).tmps := by
      rw [htmL, hdst]; exact (hTm.ext h5 hA.inv.rel).put h4 q.dst
    cases hact : o.op.acts with
    | false => exact (hA.nextQ hW hT hj hbef' hact (v := v) (by rw [hs']) hI' hTm' (fun _ _ _ _ _ _ _ h h' => (hfr h5 _ h' h).1)).di
    | true =>
      obtain ⟨e1, e2, _⟩ := heap_acts hW hT hA.closed hA.le hA.acts hj hnl hbef' hact
      have e3 : (st (j + 1)).h = (st c).h := by rw [hs']; exact e1
      have e4 : (st (j + 1)).wr = (st c).wr := by rw [hs']; exact e2
      exact (hA.nextA hW hT hj hnl hbef' hact (v := v) (by rw [hs']) (by rw [e3, e4]; exact hI') (by rw [e3]; exact hTm') (fun n hn h => by rw [e3]; exact hfr h5 n hn h)).di
  | eff hw hl hact v h' wo ha =>
    rw [hw] at hwq
    obtain ⟨e1, e2, _⟩ := heap_acts hW hT hA.closed hA.le hA.acts hj hnl hbef' hact
    have hhere : aop (st c).h (evo tmL) (cop P C f q) = some (.eff v h' wo) := by rw [← hop, hcong, ← e1]; exact ha
    obtain ⟨x, u, w', β', F', h1, h2, h3, h4, h5⟩ := op_eff hP hSt hhere (v := v) (h' := h') (wr := wo) rfl
    have hI' : Inv RP C β0 F0 h0 w0 (wrA h0.length (st c).wr wo) β' F' h' w' := hA.inv.step h3 h5 (fun k hk hnk => aop_same hhere k hk hnk) (fun _ hn => mem_wrA hn) (fun k hk hlt => by subst hk; exact mem_wrA_new hlt)
    have e3 : (st (j + 1)).h = h' := by rw [hs']
    have e4 : (st (j + 1)).wr = wrA h0.length (st c).wr wo := by rw [hs', ← e2]
    refine ⟨_, w', .one (step_op hq hwq h1 h2), ?_, put_defers' _ _ _⟩
    refine (hA.nextA hW hT hj hnl hbef' hact (v := v) (by rw [hs']) (by rw [e3, e4]; exact hI') ?_ (fun n hn h => by rw [e3]; exact hfr h5 n hn h)).di
    rw [e3, htmL, hdst]; exact (hTm.ext h5 hA.inv.rel).put h4 q.dst
  | call hw hl g args ha v h' ws hr =>
    rw [hw] at hwq
    have hact := aop_call_acts ha
    obtain ⟨e1, e2, _⟩ := heap_acts hW hT hA.closed hA.le hA.acts hj hnl hbef' hact
    have hhere : aop (st c).h (evo tmL) (cop P C f q) = some (.call g args) := by rw [← hop, hcong, ← e1]; exact ha
    obtain ⟨us, c1, c2⟩ := op_call hA.inv.glob hTm hhere
    have hc := hrun g args (st c).h v h' ws (by rw [← e1]; exact hr) β F w us hA.inv.rel hA.inv.glob c2
    obtain ⟨u, w', ⟨β', F', g1, g2⟩, hsteps⟩ := steps_call (b := b) (k := k) (cs := cs) (rest := rest) hq hwq c1 hc
    have hI' : Inv RP C β0 F0 h0 w0 (addW h0.length (st c).wr ws) β' F' h' w' := hA.inv.step g1.rel g1.ext (fun k hk hnk => g1.same k hk hnk) (fun _ hn => mem_addW hn) (fun k hk hlt => mem_addW_new hlt hk)
    have e3 : (st (j + 1)).h = h' := by rw [hs']
    have e4 : (st (j + 1)).wr = addW h0.length (st c).wr ws := by rw [hs', ← e2]
    refine ⟨_, w', hsteps, ?_, put_defers' _ _ _⟩
    refine (hA.nextA hW hT hj hnl hbef' hact (v := v) (by rw [hs']) (by rw [e3, e4]; exact hI') ?_ (fun n hn h => by rw [e3]; exact hfr g1.ext n hn h)).di
    rw [e3, htmL, hdst]; exact (hTm.ext g1.ext hA.inv.rel).put g2 q.dst
  | callQ hw hl g args ha v h' hr hlen =>
    rw [hw] at hwq
    have hact := aop_call_acts ha
    obtain ⟨e1, e2, _⟩ := heap_acts hW hT hA.closed hA.le hA.acts hj hnl hbef' hact
    have hhere : aop (st c).h (evo tmL) (cop P C f q) = some (.call g args) := by rw [← hop, hcong, ← e1]; exact ha
    obtain ⟨us, c1, c2⟩ := op_call hA.inv.glob hTm hhere
    have hc := hrun g args (st c).h v h' [] (by rw [← e1]; exact hr) β F w us hA.inv.rel hA.inv.glob c2
    obtain ⟨u, w', ⟨β', F', g1, g2⟩, hsteps⟩ := steps_call (b := b) (k := k) (cs := cs) (rest := rest) hq hwq c1 hc
    have hh : h' = (st c).h := aop_val_noacts_len (by rw [← e1]; exact hlen) fun n hn => g1.same n hn (by simp)
    subst hh
    have hI' : Inv RP C β0 F0 h0 w0 (st c).wr β' F' (st c).h w' := hA.inv.step g1.rel g1.ext (fun _ _ _ => rfl) (fun _ hn => hn) (fun k hk hlt => by simp at hk)
    have e3 : (st (j + 1)).h = (st c).h := by rw [hs']; exact e1
    have e4 : (st (j + 1)).wr = (st c).wr := by rw [hs']; exact e2
    refine ⟨_, w', hsteps, ?_, put_defers' _ _ _⟩
    refine (hA.nextA hW hT hj hnl hbef' hact (v := v) (by rw [hs']) (by rw [e3, e4]; exact hI') ?_ (fun n hn h => by rw [e3]; exact hfr g1.ext n hn h)).di
    rw [e3, htmL, hdst]; exact (hTm.ext g1.ext hA.inv.rel).put g2 q.dst

/-- what is not done, counted -/
def left (listed : Array Bool) : Nat := (listed.toList.filter fun b => !b).length

theorem left_set {listed : Array Bool} {j : Nat} (hj : j < listed.size) (hnl : ¬ lst? listed j) : left (listed.setIfInBounds j true) + 1 = left listed := by
  unfold left
  rw [Array.toList_setIfInBounds]
  have : ∀ (l : List Bool) (j : Nat), l[j]? = some false → ((l.set j true).filter fun b => !b).length + 1 = (l.filter fun b => !b).length := by
    intro l
    induction l with
    | nil => intro j h; simp at h
    | cons x l ih =>
      intro j h
      cases j with
      | zero => simp at h; subst h; simp
      | succ j =>
        have := ih j (by simpa using h)
        cases x <;> simp at this ⊢ <;> omega
  apply this
  unfold lst? at hnl
  rw [Array.getD_eq_getD_getElem?] at hnl
  rw [Array.getElem?_toList]
  rw [Array.getElem?_eq_getElem hj] at hnl ⊢
  simp at hnl; simp [hnl]

/-- nothing is ready just if all is done -/
theorem ready_all {ops : Array Oper} {listed : Array Bool} (hsz : listed.size = ops.size) (hlt : ∀ j, j < ops.size → ∀ i, ((Region.before ops).getD j 0).testBit i = true → i < j) (hr : Region.ready .any ops listed = []) : ∀ j, j < ops.size → lst? listed j := by
  intro j
  induction j using Nat.strongRecOn with
  | _ j ih =>
    intro hj
    rcases Classical.em (lst? listed j) with h | h
    · exact h
    · exfalso
      have hq := Array.getElem?_eq_getElem hj
      have : j ∈ Region.ready .any ops listed := by
        rw [mem_ready]
        refine ⟨?_, _, hq, fun e he hb => ?_⟩
        · unfold lst? at h
          rw [Array.getD_eq_getD_getElem?, Array.getElem?_eq_getElem (by omega)] at h ⊢
          simpa using h
        · have h1 := before_edge hq he hb
          have h2 := hlt j hj _ h1
          exact ih e.on h2 (by omega)
      rw [hr] at this; simp at this

theorem draw_go (hP : ProgOK P) {n : Nat} (hrun : RunOK RP P C E n) {ops : Array Oper} {st : Nat → DSt} (hW : Wired (osOf P C f ops)) (hTr : Tr (run E n) h0.length (osOf P C f ops) 0 [] [] st) (b : Frame) (k : List Item) (cs : List Frame) :
    ∀ (fuel t : Nat) (listed : Array Bool) (a : Act) (w : World), DI RP C (osOf P C f ops) st β0 F0 h0 w0 listed a w → left listed ≤ fuel →
    ∃ a' w' listed', Steps P (lone (b.at a (.inRegion ops (Region.linearise.go .any ops fuel t listed []) :: k)) cs w) (lone (b.at a' (.inRegion ops [] :: k)) cs w') ∧ DI RP C (osOf P C f ops) st β0 F0 h0 w0 listed' a' w' ∧ (∀ j, j < ops.size → lst? listed' j) ∧ a'.defers = a.defers := by
  have hlt : ∀ j, j < ops.size → ∀ i, ((Region.before ops).getD j 0).testBit i = true → i < j := fun j hj i hi => by
    have := hW.lt j _ (osOf_get (P := P) (C := C) (f := f) (Array.getElem?_eq_getElem hj)) i hi
    exact this
  intro fuel
  induction fuel with
  | zero =>
    intro t listed a w hDI hl
    refine ⟨a, w, listed, .refl _ _, hDI, fun j hj => ?_, rfl⟩
    rcases Classical.em (lst? listed j) with h | h
    · exact h
    · have := left_set (j := j) (by rw [hDI.size, osOf_len]; exact hj) h
      omega
  | succ fuel ih =>
    intro t listed a w hDI hl
    have hsz : listed.size = ops.size := by rw [hDI.size, osOf_len]
    simp only [Region.linearise.go]
    change ∃ a' w' listed', Steps P (lone (b.at a (.inRegion ops (match (Region.ready .any ops listed)[t % (Region.ready .any ops listed).length]? with
      | some i => Region.linearise.go .any ops fuel (t / (Region.ready .any ops listed).length) (listed.setIfInBounds i true) [i]
      | none => [].reverse) :: k)) cs w) _ ∧ _
    cases hi : (Region.ready .any ops listed)[t % (Region.ready .any ops listed).length]? with
    | none =>
      have hnil : Region.ready .any ops listed = [] := by
        cases hr : Region.ready .any ops listed with
        | nil => rfl
        | cons x xs =>
          rw [hr] at hi
          have hlt : t % (x :: xs).length < (x :: xs).length := Nat.mod_lt _ (by simp)
          simp at hi
          simp at hlt
          omega
      exact ⟨a, w, listed, .refl _ _, hDI, ready_all hsz hlt hnil, rfl⟩
    | some i =>
      simp only []
      rw [linearise_go_acc, List.reverse_singleton, List.singleton_append]
      have hmem := List.mem_of_getElem? hi
      obtain ⟨hun, q, hq, hall⟩ := mem_ready.1 hmem
      have hil : i < ops.size := (Array.getElem?_eq_some_iff.1 hq).1
      have hnl : ¬ lst? listed i := by
        unfold lst?
        rw [Array.getD_eq_getD_getElem?, Array.getElem?_eq_getElem (by omega)] at hun ⊢
        simpa using hun
      have hbef : ∀ i', ((Region.before ops).getD i 0).testBit i' = true → lst? listed i' := fun i' hi' => by
        obtain ⟨e, he, hb, hcase⟩ := before_of hq hi'
        have hon := hall e he hb
        rcases hcase with rfl | ⟨h1, h2⟩
        · exact hon
        · have hel : e.on < ops.size := by omega
          exact hDI.closed e.on _ hon (osOf_get (P := P) (C := C) (f := f) (Array.getElem?_eq_getElem hel)) i' h2
      obtain ⟨a1, w1, s1, d1, f1⟩ := draw_step hP hrun hW hTr hDI hq hnl hbef b k cs (Region.linearise.go .any ops fuel (t / (Region.ready .any ops listed).length) (listed.setIfInBounds i true) [])
      have hl' := left_set (by omega) hnl
      obtain ⟨a2, w2, l2, s2, d2, all2, f2⟩ := ih (t / (Region.ready .any ops listed).length) _ a1 w1 d1 (by omega)
      exact ⟨a2, w2, l2, s1.trans s2, d2, all2, f2.trans f1⟩

/-- REGIONS WITH AN OPEN ORDER ARE SOUND -/
theorem draw_ok (hP : ProgOK P) (hm : P.follows .mixedOrders = true) : DrawOK RP P C E := by
  intro f n hrun ops hord β0 F0 h0 w0 wr β F h w tm a hI hT tm' h' wr' hd b id k cs
  have hW : Wired (osOf P C f ops) := orderOK_spec hord
  obtain ⟨st, e0, e1, e2, e3, hTr⟩ := dgo_trace hd
  change Tr (run E n) h0.length (osOf P C f ops) 0 [] [] st at hTr
  have hlen := osOf_len (P := P) (C := C) (f := f) ops
  change (st (osOf P C f ops).length).tm = tm' at e1
  change (st (osOf P C f ops).length).h = h' at e2
  change (st (osOf P C f ops).length).wr = wr' at e3
  change st 0 = ⟨h.length, tm, h ++ laid (osOf P C f ops), wr⟩ at e0
  have hTS : tmS (osOf P C f ops) (st 0).tm (st (osOf P C f ops).length).tm (Array.replicate ops.size false) = tm := by
    apply List.ext_getElem?
    intro t
    rw [e0]
    by_cases htl : t < tm.length
    · rw [tmS_out htl fun i o hi hl => by
        exfalso
        unfold lst? at hl
        rw [Array.getD_eq_getD_getElem?, Array.getElem?_replicate] at hl
        split at hl <;> simp at hl]
      rw [List.getElem?_eq_getElem htl, List.getD_eq_getElem?_getD, List.getElem?_eq_getElem htl]; rfl
    · rw [List.getElem?_eq_none_iff.2 (by rw [tmS_len]; dsimp only; omega), List.getElem?_eq_none_iff.2 (by omega)]
  have hnone : ∀ i, ¬ lst? (Array.replicate ops.size false) i := fun i hl => by
    unfold lst? at hl
    rw [Array.getD_eq_getD_getElem?, Array.getElem?_replicate] at hl
    split at hl <;> simp at hl
  have hI0 : Inv RP C β0 F0 h0 w0 wr β F (h ++ laid (osOf P C f ops)) w := hI.laid _
  have hbn : ∀ n, h.length ≤ n → β n = none := fun n hn => by
    cases hb : β n with
    | none => rfl
    | some b' => have := hI.rel.out n b' hb; omega
  -- one more question
  generalize hw1 : ({ w with drawn := w.drawn + 1 } : World) = w1
  have hw1h : w1.heap = w.heap := by rw [← hw1]
  have hRel1 : Rel RP β F (h ++ laid (osOf P C f ops)) w1 ∧ Ext (fun _ => False) β F (h ++ laid (osOf P C f ops)) w β F (h ++ laid (osOf P C f ops)) w1 := grown_after hI0.rel (fun b _ => by rw [hw1h]) (by rw [hw1h]; exact Nat.le_refl _) (by rw [← hw1]; exact ⟨rfl, rfl, rfl⟩)
  have hI1 : Inv RP C β0 F0 h0 w0 wr β F (h ++ laid (osOf P C f ops)) w1 := hI0.step hRel1.1 hRel1.2 (fun _ _ _ => rfl) (fun _ hn => hn) (fun _ hf _ => hf.elim)
  have hExt0 : TmRel β (h ++ laid (osOf P C f ops)) F w tm a.tmps := by
    refine ⟨hT.len, fun j c u hc hu => ?_⟩
    have hE : Ext (fun _ => False) β F h w β F (h ++ laid (osOf P C f ops)) w := {
      len := by simp
      blk := fun n B hB => ⟨B, by rw [List.getElem?_append_left (List.getElem?_eq_some_iff.1 hB).1]; exact hB, .inl ⟨Kept.refl _, rfl, fun _ _ => rfl⟩⟩
      frz := fun _ _ hf => hf
      old := fun _ _ _ => rfl
      size := Nat.le_refl _
      news := fun n b hn => .inl ⟨hn, hI.rel.out n b hn⟩
      newF := fun _ _ hf => .inl hf
      none_ := fun n hl hn => ⟨hn, List.getElem?_append_left hl⟩
      os := rfl
      output := rfl
      tape := rfl }
    exact (hT.val j c u hc hu).ext hE hI.rel
  have hTm1 : TmRel β (h ++ laid (osOf P C f ops)) F w1 tm a.tmps := hExt0.ext hRel1.2 hI0.rel
  have hDI : DI RP C (osOf P C f ops) st β0 F0 h0 w0 (Array.replicate ops.size false) a w1 := by
    refine ⟨by simp [hlen], fun j o hl => absurd hl (hnone j), 0, β, F, Nat.zero_le _, fun j o _ _ => ⟨fun hl => absurd hl (hnone j), fun h => absurd h (by omega)⟩, by rw [e0]; exact hI1, by rw [hTS, e0]; exact hTm1, fun j o B hj hB _ => ?_⟩
    have hjl := (List.getElem?_eq_some_iff.1 hj).1
    have hna := na_eq hTr.step j (by omega)
    rw [e0] at hna
    dsimp only at hna
    refine ⟨hbn _ (by omega), ?_, by rw [hna]; have := hI.ext.len; omega⟩
    rw [e0, hna]
    dsimp only
    rw [List.getElem?_append_right (by omega), Nat.add_sub_cancel_left]
    exact laid_get hj hB
  obtain ⟨a', w', listed', s1, d1, all1, f1⟩ := draw_go hP hrun hW hTr b k cs ops.size (w.tape w.drawn (.order b.fn id)) _ a w1 hDI (by simp [left])
  obtain ⟨c, β', F', hA⟩ := d1.at
  have hhN := quiet_range hTr.step (p := c) ((osOf P C f ops).length - c) (by have := hA.le; omega) fun k o h1 h2 h3 => by
    cases hak : o.op.acts with
    | false => rfl
    | true =>
      have := (hA.acts k o h3 hak).1 (all1 k (by rw [← hlen]; exact (List.getElem?_eq_some_iff.1 h3).1))
      omega
  rw [show c + ((osOf P C f ops).length - c) = (osOf P C f ops).length by have := hA.le; omega, e2, e3] at hhN
  obtain ⟨hh, hwr⟩ := hhN
  have hTN : tmS (osOf P C f ops) (st 0).tm (st (osOf P C f ops).length).tm listed' = tm' := by
    have hl0 := tm_len hTr.step (osOf P C f ops).length (Nat.le_refl _)
    rw [← e1]
    apply List.ext_getElem?
    intro t
    by_cases htl : t < (st 0).tm.length
    · have hget : (st (osOf P C f ops).length).tm[t]? = some ((st (osOf P C f ops).length).tm.getD t undefA) := by
        rw [List.getD_eq_getElem?_getD, List.getElem?_eq_getElem (by omega)]; rfl
      rw [hget]
      by_cases hex : ∃ (i : Nat) (o' : AOper), (osOf P C f ops)[i]? = some o' ∧ o'.dst = some t
      · obtain ⟨i, o', hi, hd'⟩ := hex
        exact tmS_in htl hi (all1 i (by rw [← hlen]; exact (List.getElem?_eq_some_iff.1 hi).1)) hd'
      · rw [tmS_out htl fun i o' hi _ hd' => hex ⟨i, o', hi, hd'⟩]
        have := tm_keep hTr.step (t := t) (p := 0) (osOf P C f ops).length (by omega) fun k o _ _ h3 hd' => hex ⟨k, o, h3, hd'⟩
        rw [Nat.zero_add] at this
        rw [List.getD_eq_getElem?_getD, List.getD_eq_getElem?_getD, this]
    · rw [List.getElem?_eq_none_iff.2 (by rw [tmS_len]; omega), List.getElem?_eq_none_iff.2 (by omega)]
  have hIA := hA.inv
  have hTA := hA.tms
  rw [← hh, ← hwr] at hIA
  rw [hTN, ← hh] at hTA
  refine ⟨a', w', β', F', ?_, hIA, hTA, f1⟩
  refine .head step_region_draw ?_
  rw [hw1]
  have hsch : Region.schedule (P.follows .mixedOrders) ops (w.tape w.drawn (.order b.fn id)) = Region.linearise.go .any ops ops.size (w.tape w.drawn (.order b.fn id)) (Array.replicate ops.size false) [] := by
    simp only [Region.schedule, hm, Bool.true_or, if_true]; rfl
  rw [hsch]
  exact s1.trans (.one step_region_end)
end
end Go.Eng

