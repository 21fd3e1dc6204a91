import Derived.Test.YtghmlonankhcgaaGreatDoorEngF
import Derived.Carry
import Derived.Calls
import Derived.Tactics
/- The engine, part G1: every operation that is no call. -/
namespace Go.Eng
set_option linter.unusedSectionVars false
set_option linter.unusedSimpArgs false

section
variable {RP : RPred} {β : Beta} {h : Heap} {F : Frz} {w w' : World} {P : Program} {C : Cfg} {f : Nat}

/-- what an operation yields -/
def Yields (RP : RPred) (β : Beta) (h : Heap) (F : Frz) (w : World) (s : Result Next) (v : AV) (h' : Heap) (wr : Option Nat) : Prop :=
  ∃ x u w' β' F', s = .ok x w' ∧ (x = .value u ∨ (x = .skip ∧ u = undef)) ∧ Rel RP β' F' h' w' ∧ V β' h' F' w' v u ∧ Ext (fun n => wr = some n) β F h w β' F' h' w'

theorem Yields.of_eff {P : Program} {s : Sem Value} {v : AV} {h' : Heap} {wr : Option Nat} (hE : EffPost RP β h F w (s.run P w) v h' wr) : Yields RP β h F w ((do pure (.value (← s)) : Sem Next).run P w) v h' wr := by
  obtain ⟨u, w', β', F', h1, h2, h3, h4⟩ := hE
  exact ⟨.value u, u, w', β', F', by simp [h1], .inl rfl, h2, h3, h4⟩

theorem Yields.of_val {P : Program} (hR : Rel RP β F h w) {s : Sem Next} {v : AV} {u : Value} (h1 : s.run P w = .ok (.value u) w) (h2 : V β h F w v u) : Yields RP β h F w (s.run P w) v h none :=
  ⟨.value u, u, w, β, F, h1, .inl rfl, hR, h2, Ext.refl _ _ _ _ _ hR.out⟩

theorem lit_sound (hP : ProgOK P) (hR : Rel RP β F h w) {t e : TypeId} {sz len : Nat} (ht : P.underlying t = some (.slice e)) (hs : szOf P e = some sz) (hsz : sz ≠ 0) (hsm : ¬ len * sz > 2 ^ 24) {z : AV} (hz : zeroOf P e = some z)
    {parts : Array (Nat × Value)} {ps : List (Nat × AV)} (hp : PartsV β h F w (fun i => some (i * sz, sz)) parts.toList (ps.map fun (i, v) => (i * sz, sz, v))) (live : Bool) {r : ORes}
    (hr : (if len = 0 then (if ps.isEmpty then some (ORes.val .nils) else none) else
      match fillE (List.replicate len z) sz ps with
      | some es => if live then some (.eff (.slc h.length 0 sz 0 0 len (some len)) (h ++ [.cells 0 sz false es]) none) else some (.val (.lst es))
      | none => none) = some r) :
    ∃ v h' wr, resH h r = some (v, h', wr) ∧ EffPost RP β h F w ((Instr.buildSlice t len parts).run P w) v h' wr := by
  obtain ⟨zv, hzr, hzo, hzs⟩ := zeroOf_cells (w := w) hP hz hs
  have hzV : V β h F w z zv := ofValue_V zv z hzo
  obtain ⟨ie, hie, hies⟩ := szOf_underlying hs
  obtain ⟨zv', hz1, hz2⟩ : ∃ zv', ie.zero = some zv' ∧ zv' = zv := by
    obtain ⟨_, i, hi, zv', hz1, _⟩ := zeroOf_inv hz
    rw [hie] at hi; simp at hi; subst hi
    have : (zeroValue e).run P w = .ok zv' w := by simp [zeroValue, typeInfo, hie, hz1]
    rw [this] at hzr; simp at hzr
    exact ⟨zv', hz1, hzr⟩
  subst hz2
  by_cases hl0 : len = 0
  · rw [if_pos hl0] at hr
    split at hr
    · rename_i hpe
      simp at hr; subst hr
      refine ⟨_, _, _, rfl, ?_⟩
      have hps : ps = [] := by simpa using hpe
      subst hps
      have hpl : parts.toList = [] := by cases hp' : parts.toList with | nil => rfl | cons q l => rw [hp'] at hp; cases hp
      have hpn : parts = #[] := by simpa using hpl
      subst hpn; subst hl0
      obtain ⟨hR', hE'⟩ := frozen_after (w' := { w with heap := w.heap.push (.cells #[] e (0, 0)) }) hR _ rfl ⟨rfl, rfl, rfl⟩
      refine ⟨.slice (some ⟨w.heap.size, 0, none⟩) 0 0, _, _, _, ?_, hR', .nils _, hE'.weaken (fun _ h => h.elim)⟩
      simp [Instr.buildSlice, run_underlying ht, szOf_run hs, Instr.fill, newRow]
      rw [show (Array.range 0 : Array Nat) = #[] from rfl, Array.map_empty]
    · simp at hr
  · rw [if_neg hl0] at hr
    cases hfe : fillE (List.replicate len z) sz ps with
    | none => rw [hfe] at hr; simp at hr
    | some es =>
      rw [hfe] at hr; dsimp only at hr
      have hzl : z.cells.length = sz := by rw [hzV.cells.len, hzs]
      obtain ⟨g1, g2, g3⟩ := fillE_flat hfe (fun x hx => by rw [List.eq_of_mem_replicate hx]; exact hzl)
      have g3' : es.length = len := by simpa using g3
      obtain ⟨us, hf1, hf2⟩ := fill_sound hp (replicate_cells hzV.cells hzs (Nat.pos_of_ne_zero hsz) len) g1
      have hrun := run_buildSlice (P := P) w t e len parts us ie zv' ht hie hz1 (by rw [hies]; exact hsm) (by rw [hies]; exact Nat.mul_ne_zero hl0 hsz) (by rw [hies]; exact hf1)
      have hfl : (flatC es).length = len * sz := by rw [flatC_length g2, g3']
      have hus : us.size = len * sz := by rw [← hf2.len, hfl]
      cases live with
      | true =>
        simp at hr; subst hr
        refine ⟨_, _, _, rfl, ?_⟩
        obtain ⟨hR', hE'⟩ := alloc_after (w' := w.alloc (.cells us e)) (e := sz) (g := false) (es := es) hR rfl ⟨rfl, rfl, rfl⟩ (free0 _) g2 (fun _ => by rw [hus, g3']) (by rw [hus, g3']; exact Nat.le_refl _) hf2.get
        refine ⟨_, _, _, F, hrun, hR', ?_, hE'.weaken (fun _ h => h.elim)⟩
        have := V.slcX (β := upd β h.length w.heap.size) (h := h ++ [.cells 0 sz false es]) (F := F) (w := w.alloc (.cells us e))
          h.length 0 sz 0 0 len len w.heap.size sz false es (upd_same _ _ _) (by simp) (Nat.le_refl _) (by simp [g3'])
        simpa using this
      | false =>
        simp at hr; subst hr
        refine ⟨_, _, _, rfl, ?_⟩
        obtain ⟨hR', hE'⟩ := frozen_after (w' := w.alloc (.cells us e)) hR _ rfl ⟨rfl, rfl, rfl⟩
        refine ⟨_, _, _, _, hrun, hR', ?_, hE'.weaken (fun _ h => h.elim)⟩
        have := V.lst (β := β) (h := h) (F := fun b o => F b o ∨ b = w.heap.size) (w := w.alloc (.cells us e)) es ⟨w.heap.size, 0, none⟩ len sz (by rw [g3']; exact Nat.le_refl _) rfl g2 (fun j => us.getD j undef)
          (fun j c hj => by
            obtain ⟨u, hu, _⟩ := hf2.get j c hj
            refine ⟨?_, .inr rfl⟩
            have h1 : (w.alloc (.cells us e)).heap[w.heap.size]? = some (.cells us e (0, 0)) := push_last
            simp only [World.cell?, h1, Nat.zero_add, hu, Array.getD_eq_getD_getElem?, Option.getD_some, Option.isSome_none, Bool.false_eq_true, if_false])
          (fun j c hj => by
            obtain ⟨u, hu, hv⟩ := hf2.get j c hj
            have : us.getD j undef = u := by simp [hu, Array.getD_eq_getD_getElem?]
            show V _ _ _ _ c (us.getD j undef)
            rw [this]
            exact hv.ext hE' hR)
        rw [g3'] at this
        exact this

theorem partsE_V {tm : Tm} {a : Act} (hG : GlobOK C β h F w) (hT : TmRel β h F w tm a.tmps) {sz : Nat} : ∀ {l : List (Nat × Operand)} {l' : List (Nat × Opd)}, (l.mapM fun (i, x) => do pure (i, ← opd C x)) = some l' →
    PartsV β h F w (fun i => some (i * sz, sz)) (l.map fun (i, x) => (i, a.eval x)) ((l'.map fun (i, x) => (i, evo tm x)).map fun (i, v) => (i * sz, sz, v)) := by
  intro l
  induction l with
  | nil => intro l' e; simp at e; subst e; exact .nil
  | cons p l ih =>
    intro l' e
    obtain ⟨i, x⟩ := p
    simp only [List.mapM_cons, Option.bind_eq_bind, Option.bind_eq_some_iff, Option.pure_def, Option.some.injEq] at e
    obtain ⟨q, ⟨y, hy, rfl⟩, l'', hl'', rfl⟩ := e
    exact .cons i _ _ _ _ _ _ rfl (evo_V hG hT hy) (ih hl'')
end
end Go.Eng

/- The engine, part G2: every operation that is no call, together. -/
namespace Go.Eng
set_option linter.unusedSectionVars false
set_option linter.unusedSimpArgs false

section
variable {RP : RPred} {β : Beta} {h : Heap} {F : Frz} {w w' : World} {P : Program} {C : Cfg} {f : Nat}

/-- operations that turn nothing -/
def AOp.quiet : AOp → Bool
  | .alloc .. | .box .. | .lit .. | .store .. | .s2b .. | .append .. | .copy .. | .mkslice .. | .mkmap | .lookup .. | .mapset .. => false
  | _ => true

theorem AOp.quiet_plain {c : AOp} (hq : c.quiet = true) : c.plain = true := by cases c <;> simp [AOp.quiet] at hq <;> rfl

theorem AOp.quiet_val {c : AOp} (hq : c.quiet = true) {ρ : Opd → AV} {r : ORes} (ha : aop h ρ c = some r) {v : AV} {h' : Heap} {wr : Option Nat} (hr : resH h r = some (v, h', wr)) : r = .val v ∧ h' = h ∧ wr = none := by
  cases r with
  | val v' => simp [resH] at hr; obtain ⟨rfl, rfl, rfl⟩ := hr; exact ⟨rfl, rfl, rfl⟩
  | call f as => simp [resH] at hr
  | eff v' h'' wr' =>
    exfalso
    cases c <;> simp [AOp.quiet] at hq
    case iaddr sz arr x i => cases arr <;> simp [aop, Option.bind_eq_some_iff] at ha
    case len b x => cases b <;> simp [aop] at ha
    all_goals
      unfold aop at ha
      dsimp only at ha
      (repeat' (split at ha)) <;> first | (simp at ha; done) | (simp [Option.bind_eq_some_iff] at ha; done)

theorem plainT_und {kt : TypeId} {sh : List Leaf} (hsh : plainT P kt = some sh) : ∃ dk, P.underlying kt = some dk := by
  cases hu : P.underlying kt with
  | some d => exact ⟨d, rfl⟩
  | none =>
    unfold plainT at hsh
    split at hsh
    · simp at hsh
    · simp [shapeT, hu] at hsh

theorem sliceOf_some {t : Option TypeId} {e : TypeId} {s : Nat} (hs : sliceOf P t = some (e, s)) : ∃ t0, t = some t0 ∧ P.underlying t0 = some (.slice e) ∧ szOf P e = some s := by
  unfold sliceOf at hs
  split at hs
  · rename_i t0
    split at hs
    · rename_i e' ht
      simp only [Option.map_eq_some_iff, Prod.mk.injEq] at hs
      obtain ⟨s', h1, rfl, rfl⟩ := hs
      exact ⟨t0, rfl, ht, h1⟩
    · simp at hs
  · simp at hs

theorem ceq_quiet {neg : Bool} {t : TypeId} {x y : Operand} {cc : AOp} (hc : ceq P C neg t x y = some cc) : ¬ cc.quiet = true → False := by
  intro hq
  unfold ceq at hc
  split at hc
  · simp only [Option.bind_eq_bind, Option.pure_def, Option.bind_eq_some_iff, Option.some.injEq] at hc
    obtain ⟨_, _, _, _, rfl⟩ := hc; simp [AOp.quiet] at hq
  · simp only [Option.bind_eq_bind, Option.pure_def, Option.bind_eq_some_iff, Option.some.injEq] at hc
    obtain ⟨_, _, _, _, _, _, rfl⟩ := hc; simp [AOp.quiet] at hq

theorem op_eff (hP : ProgOK P) {tm : Tm} {a : Act} (hS : St RP C β h F w tm a) {o : Oper} {r : ORes} (ha : aop h (evo tm) (cop P C f o) = some r) {v : AV} {h' : Heap} {wr : Option Nat} (hr : resH h r = some (v, h', wr)) :
    Yields RP β h F w ((execOp a.eval o).run P w) v h' wr := by
  by_cases hq : (cop P C f o).quiet = true
  · obtain ⟨rfl, rfl, rfl⟩ := AOp.quiet_val hq ha hr
    obtain ⟨u, h1, h2⟩ := op_val hP.types hP.fields hS (AOp.quiet_plain hq) ha
    exact Yields.of_val hS.rel h1 h2
  obtain ⟨hR, hG, hT⟩ := hS
  obtain ⟨dst, op, type, pos, after, guard⟩ := o
  unfold cop at ha hq
  cases op <;> dsimp only at ha hq <;> (have hx0 := getD_bad ha; clear ha; obtain ⟨cc, hc, ha⟩ := hx0) <;> rw [hc] at hq <;> simp only [Option.getD_some] at hq <;>
    (try simp only [Option.bind_eq_bind, Option.pure_def, Option.bind_eq_some_iff, Option.some.injEq, reduceCtorEq] at hc)
  case alloc t =>
    obtain ⟨e, he, z, hz, rfl⟩ := hc
    simp [aop] at ha; subst ha
    simp [resH] at hr; obtain ⟨rfl, rfl, rfl⟩ := hr
    obtain ⟨zv, hzr, hzo, hzs⟩ := zeroOf_cells (w := w) hP hz he
    have hzV : V β h F w z zv := ofValue_V zv z hzo
    obtain ⟨w', β', F', h1, h2, h3, h4⟩ := var_sound (P := P) (t := t) hR hzV (e := e) (by rw [hzV.cells.len, hzs])
    refine ⟨.value (.pointer (some ⟨w.heap.size, 0, none⟩)), _, w', β', F', ?_, .inl rfl, h2, h3, h4.weaken (fun _ h => h.elim)⟩
    simp [execOp, Instr.alloc, hzr, h1]
  case box t x =>
    obtain ⟨e, he, y, hy, rfl⟩ := hc
    simp only [aop] at ha
    split at ha
    · rename_i hlen
      simp at ha; subst ha
      simp [resH] at hr; obtain ⟨rfl, rfl, rfl⟩ := hr
      obtain ⟨w', β', F', h1, h2, h3, h4⟩ := var_sound (P := P) (t := t) hR (evo_V hG hT hy) (e := e) hlen
      refine ⟨.value (.pointer (some ⟨w.heap.size, 0, none⟩)), _, w', β', F', ?_, .inl rfl, h2, h3, h4.weaken (fun _ h => h.elim)⟩
      simp [execOp, Instr.box, h1]
    · simp at ha
  case buildSlice t len ps =>
    obtain ⟨d, hd, hc⟩ := hc
    cases d <;> simp only [reduceCtorEq] at hc
    rename_i e
    simp only [Option.bind_eq_some_iff] at hc
    obtain ⟨ps', hps, s, hs, hc⟩ := hc
    split at hc
    · simp at hc
    · rename_i hns
      simp only [not_or] at hns
      simp only [Option.bind_eq_some_iff, Option.some.injEq] at hc
      obtain ⟨z, hz, rfl⟩ := hc
      simp only [aop] at ha
      have hpv := partsE_V (sz := s) hG hT hps
      obtain ⟨v', h'', wr', g1, g2⟩ := lit_sound (parts := ps.map fun (i, x) => (i, a.eval x)) (len := len) (t := t) hP hR hd hs hns.1 hns.2 hz (by simpa using hpv) (C.live f (dst.getD 0)) (ps := ps'.map fun (i, x) => (i, evo tm x)) (r := r) (by rw [← ha, List.isEmpty_map]; rfl)
      rw [hr] at g1; simp at g1; obtain ⟨rfl, rfl, rfl⟩ := g1
      exact Yields.of_eff g2
  case store t x y =>
    obtain ⟨s, hs, x', hx, y', hy, rfl⟩ := hc
    simp only [aop, Option.map_eq_some_iff] at ha
    obtain ⟨⟨n, h1⟩, hst, rfl⟩ := ha
    simp [resH] at hr; obtain ⟨rfl, rfl, rfl⟩ := hr
    obtain ⟨w', g1, g2, g3⟩ := storeA_sound hR hs (evo_V hG hT hx) (evo_V hG hT hy) hst
    exact ⟨.skip, undef, w', β, F, by simp [execOp, g1], .inr ⟨rfl, rfl⟩, g2, V.undef, g3.weaken (fun m hm => by simp [hm])⟩
  case convert s d x =>
    unfold cconv at hc
    split at hc
    · simp at hc; obtain ⟨_, _, rfl⟩ := hc; simp [AOp.quiet] at hq
    · simp at hc; obtain ⟨_, _, rfl⟩ := hc; simp [AOp.quiet] at hq
    · rename_i e hds hdd
      split at hc
      · rename_i hu8
        simp only [Option.map_eq_some_iff] at hc
        obtain ⟨y, hy, rfl⟩ := hc
        have hV := evo_V hG hT hy
        simp only [aop] at ha
        split at ha
        · rename_i s0 hs0
          simp at ha; subst ha
          simp [resH] at hr; obtain ⟨rfl, rfl, rfl⟩ := hr
          rw [hs0] at hV
          have he : a.eval x = .string ⟨s0.toArray⟩ := by
            generalize a.eval x = u at hV
            cases hV; rfl
          have := s2b_sound (P := P) (e := e) hR s0
          have hde : P.underlying e = some (.int .u8) := by
            unfold isU8 at hu8
            split at hu8
            · assumption
            · simp at hu8
          obtain ⟨u, w', β', F', h1, h2, h3, h4⟩ := this
          refine ⟨.value u, u, w', β', F', ?_, .inl rfl, h2, h3, h4⟩
          simp only [execOp, he, Go.convert, Sem.run_bind, run_underlying hds, run_underlying hdd, Result.andThen_ok, run_underlying hde, h1, Sem.run_pure]
        · simp at ha
      · simp at hc
    · split at hc
      · simp at hc; obtain ⟨_, _, rfl⟩ := hc; simp [AOp.quiet] at hq
      · simp at hc
    · simp at hc
  case makeSlice t l c =>
    obtain ⟨d, hd, hc⟩ := hc
    cases d <;> simp only [reduceCtorEq, Option.bind_eq_some_iff, Option.some.injEq] at hc
    rename_i e
    obtain ⟨s, hs, hc⟩ := hc
    split at hc
    · simp at hc
    rename_i hs0
    simp only [Option.bind_eq_some_iff, Option.some.injEq] at hc
    obtain ⟨z, hz, l', hl, c', hc', rfl⟩ := hc
    have hVl := evo_V hG hT hl
    have hVc := evo_V hG hT hc'
    simp only [aop] at ha
    split at ha
    · rename_i x y hx hy
      split at ha
      · rename_i hcond
        obtain ⟨c0, c1, c2, c3⟩ := hcond
        obtain ⟨ka, ea⟩ : ∃ k, a.eval l = .int k x := by
          cases hel : evo tm l' <;> rw [hel] at hx hVl <;> simp [asN] at hx
          subst hx
          generalize a.eval l = u at hVl
          cases hVl; exact ⟨_, rfl⟩
        obtain ⟨kb, eb⟩ : ∃ k, a.eval c = .int k y := by
          cases hel : evo tm c' <;> rw [hel] at hy hVc <;> simp [asN] at hy
          subst hy
          generalize a.eval c = u at hVc
          cases hVc; exact ⟨_, rfl⟩
        · obtain ⟨v', h'', g1, g2⟩ := mkslice_sound (RP := RP) (w := w) (ka := ka) (kb := kb) hP hR hd hs hz c0 c1 c2 c3
          have hg := g2 (.inr hs0)
          have : v' = v ∧ h'' = h' ∧ none = wr := by
            by_cases hb0 : y = 0
            · rw [if_pos hb0] at ha g1
              simp at ha g1; subst ha
              simp [resH] at hr
              obtain ⟨rfl, rfl⟩ := g1; obtain ⟨rfl, rfl, rfl⟩ := hr; exact ⟨rfl, rfl, rfl⟩
            · rw [if_neg hb0] at ha g1
              simp at ha g1; subst ha
              simp [resH] at hr
              obtain ⟨rfl, rfl⟩ := g1; obtain ⟨rfl, rfl, rfl⟩ := hr; exact ⟨rfl, rfl, rfl⟩
          obtain ⟨rfl, rfl, rfl⟩ := this
          have := Yields.of_eff hg
          simpa only [execOp, ea, eb] using this
      · simp at ha
    · simp at ha
  case makeMap t rsv =>
    cases rsv with
    | some x => simp at hc
    | none =>
      simp only [Option.bind_eq_some_iff] at hc
      obtain ⟨d, hd, hc⟩ := hc
      cases d <;> simp only [reduceCtorEq] at hc
      split at hc
      · simp at hc; subst hc
        simp [aop] at ha; subst ha
        simp [resH] at hr; obtain ⟨rfl, rfl, rfl⟩ := hr
        obtain ⟨hR', hE'⟩ := allocm_after (w' := w.alloc (.map #[] 0)) hR rfl ⟨rfl, rfl, rfl⟩
        refine ⟨.value (.map (some w.heap.size)), _, _, _, F, by simp [execOp, Instr.makeMap], .inl rfl, hR', ?_, hE'.weaken (fun _ h => h.elim)⟩
        exact .mapr h.length w.heap.size [] (upd_same _ _ _) (by simp)
      · simp at hc
  case lookup t x k ok =>
    obtain ⟨d, hd, hc⟩ := hc
    cases d <;> simp only [reduceCtorEq] at hc
    rename_i kt e
    simp only [Option.bind_eq_some_iff, Option.some.injEq] at hc
    obtain ⟨sh, hsh, z, hz, x', hx, k', hk, rfl⟩ := hc
    obtain ⟨dk, hdk⟩ := plainT_und hsh
    simp only [aop] at ha
    split at ha
    · simp at ha
    · rename_i b heq
      have main : ∀ (es : List (AV × AV)) (rr : Option AV), (evo tm x' = .nilm ∧ es = [] ∨ ∃ n, evo tm x' = .mapr n ∧ h[n]? = some (.map es)) → findA (aggT P kt) sh (evo tm k') es = some rr →
          Yields RP β h F w ((execOp a.eval { dst, op := .lookup t x k ok, type, pos, after, guard }).run P w) (lkRes ok z rr) h none := by
        intro es rr hes hrr
        obtain ⟨u, g1, g2⟩ := lookup_sound (ok := ok) hP hR hd hsh hz (evo_V hG hT hx) (evo_V hG hT hk) hdk hes heq hrr rfl
        exact Yields.of_val hR (by simp only [execOp, Sem.run_bind, g1, Result.andThen_ok, Sem.run_pure]) g2
      split at ha
      · rename_i hm
        simp at ha; subst ha
        simp [resH] at hr; obtain ⟨rfl, rfl, rfl⟩ := hr
        exact main [] none (.inl ⟨hm, rfl⟩) rfl
      · rename_i n hm
        split at ha
        · rename_i es hes
          split at ha
          · rename_i v0 hf
            simp at ha; subst ha
            simp [resH] at hr; obtain ⟨rfl, rfl, rfl⟩ := hr
            exact main es (some v0) (.inr ⟨n, hm, hes⟩) hf
          · rename_i hf
            simp at ha; subst ha
            simp [resH] at hr; obtain ⟨rfl, rfl, rfl⟩ := hr
            exact main es none (.inr ⟨n, hm, hes⟩) hf
          · simp at ha
        · simp at ha
      · simp at ha
  case mapUpdate t m k x =>
    obtain ⟨d, hd, hc⟩ := hc
    cases d <;> simp only [reduceCtorEq] at hc
    rename_i kt e
    simp only [Option.bind_eq_some_iff, Option.some.injEq] at hc
    obtain ⟨sh, hsh, m', hm, k', hk, x', hx, rfl⟩ := hc
    obtain ⟨dk, hdk⟩ := plainT_und hsh
    simp only [aop] at ha
    split at ha
    · simp at ha
    · rename_i b heq
      split at ha
      · rename_i n hmr
        split at ha
        · rename_i es hes
          split at ha
          · rename_i es' hput
            simp at ha; subst ha
            simp [resH] at hr; obtain ⟨rfl, rfl, rfl⟩ := hr
            have hVm := evo_V hG hT hm
            rw [hmr] at hVm
            obtain ⟨w', g1, g2, g3⟩ := mapset_sound hP hR hd hsh hVm (evo_V hG hT hk) (evo_V hG hT hx) hdk hes heq hput
            exact ⟨.skip, undef, w', β, F, by simp [execOp, g1], .inr ⟨rfl, rfl⟩, g2, V.undef, g3.weaken (fun m hm => by simp [hm])⟩
          · simp at ha
        · simp at ha
      · simp at ha
  case insert t m k x =>
    obtain ⟨d, hd, hc⟩ := hc
    cases d <;> simp only [reduceCtorEq] at hc
    rename_i kt e
    simp only [Option.bind_eq_some_iff, Option.some.injEq] at hc
    obtain ⟨sh, hsh, m', hm, k', hk, x', hx, rfl⟩ := hc
    obtain ⟨dk, hdk⟩ := plainT_und hsh
    simp only [aop] at ha
    split at ha
    · simp at ha
    · rename_i b heq
      split at ha
      · rename_i n hmr
        split at ha
        · rename_i es hes
          split at ha
          · rename_i es' hput
            simp at ha; subst ha
            simp [resH] at hr; obtain ⟨rfl, rfl, rfl⟩ := hr
            have hVm := evo_V hG hT hm
            rw [hmr] at hVm
            obtain ⟨w', g1, g2, g3⟩ := mapset_sound hP hR hd hsh hVm (evo_V hG hT hk) (evo_V hG hT hx) hdk hes heq hput
            exact ⟨.skip, undef, w', β, F, by simp [execOp, g1], .inr ⟨rfl, rfl⟩, g2, V.undef, g3.weaken (fun m hm => by simp [hm])⟩
          · simp at ha
        · simp at ha
      · simp at ha
  case call c =>
    unfold ccall at hc
    split at hc
    · simp at hc
    · rename_i as has
      obtain ⟨h1, h2⟩ := opds_V hG hT has
      split at hc
      · simp at hc; subst hc; simp [AOp.quiet] at hq
      · simp at hc; subst hc; simp [AOp.quiet] at hq
      · rename_i b hb
        have hres : ∀ {v h' wr}, Yields RP β h F w ((builtin b c.argTypes type (c.args.map fun | .const _ => true | _ => false) (c.args.map a.eval)).run P w) v h' wr →
            Yields RP β h F w ((execOp a.eval { dst, op := .call c, type, pos, after, guard }).run P w) v h' wr := fun hy => by
          simp only [execOp, Sem.run_bind, resolve, hb, Sem.run_pure, Result.andThen_ok, invoke]
          exact hy
        unfold cbuiltin at hc
        have two : ∀ {x y : Opd}, as = [x, y] → c.args.map a.eval = #[(c.args.map a.eval).getD 0 undef, (c.args.map a.eval).getD 1 undef] ∧ V β h F w (evo tm x) ((c.args.map a.eval).getD 0 undef) ∧ V β h F w (evo tm y) ((c.args.map a.eval).getD 1 undef) := by
          intro x y hxy
          subst hxy
          have hl : c.args.size = 2 := by simpa using h1.symm
          refine ⟨?_, h2 0 _ _ rfl (by simp [hl]), h2 1 _ _ rfl (by simp [hl])⟩
          apply Array.ext
          · simp [hl]
          · intro i hi _
            simp at hi
            have : i = 0 ∨ i = 1 := by omega
            rcases this with rfl | rfl <;> simp [hl]
        split at hc
        · repeat' (split at hc)
          · simp at hc; subst hc; simp [AOp.quiet] at hq
          · simp at hc; subst hc; simp [AOp.quiet] at hq
          · simp at hc
        · -- append
          split at hc
          · rename_i e s hsl
            split at hc
            · simp at hc
            · rename_i hcond
              simp only [Bool.or_eq_true, not_or, Bool.not_eq_true, beq_eq_false_iff_ne, ne_eq] at hcond
              obtain ⟨⟨⟨c1, c2⟩, c3⟩, c4⟩ := hcond
              simp at hc; subst hc
              simp only [aop] at ha
              obtain ⟨g0, g1, g2⟩ := two rfl
              obtain ⟨t0, ht0, ht, hs⟩ := sliceOf_some hsl
              obtain ⟨z, hz⟩ : ∃ z, zeroOf P e = some z := by
                cases hz : zeroOf P e with
                | some z => exact ⟨z, rfl⟩
                | none => simp [hz] at c4
              obtain ⟨v', h'', wr', k1, k2⟩ := append_sound (ty := type) hP hR ht0 ht hs c1 c3 c2 hz g1 g2 ha
              rw [hr] at k1; simp at k1; obtain ⟨rfl, rfl, rfl⟩ := k1
              refine hres ?_
              rw [g0]
              exact Yields.of_eff k2
          · simp at hc
        · -- copy
          split at hc
          · rename_i e s hsl
            simp at hc; subst hc
            simp only [aop] at ha
            obtain ⟨g0, g1, g2⟩ := two rfl
            obtain ⟨t0, ht0, ht, hs⟩ := sliceOf_some hsl
            obtain ⟨v', h'', wr', k1, k2⟩ := copy_sound (ty := type) hR ht0 ht hs g1 g2 ha
            rw [hr] at k1; simp at k1; obtain ⟨rfl, rfl, rfl⟩ := k1
            refine hres ?_
            rw [g0]
            exact Yields.of_eff k2
          · simp at hc
        · simp at hc; subst hc; simp [AOp.quiet] at hq
        · simp at hc; subst hc; simp [AOp.quiet] at hq
        · simp at hc
      · simp at hc
  all_goals (try (exact hc.elim))
  all_goals (try (simp at hc; done))
  case move x => obtain ⟨_, _, rfl⟩ := hc; simp [AOp.quiet] at hq
  case assign x => obtain ⟨_, _, rfl⟩ := hc; simp [AOp.quiet] at hq
  case pick x y z => obtain ⟨_, _, _, _, _, _, rfl⟩ := hc; simp [AOp.quiet] at hq
  case load t x => obtain ⟨_, _, _, _, rfl⟩ := hc; simp [AOp.quiet] at hq
  case nilCheck x => obtain ⟨_, _, rfl⟩ := hc; simp [AOp.quiet] at hq
  case unOp op t x => obtain ⟨_, _, rfl⟩ := hc; simp [AOp.quiet] at hq
  case extract x i => obtain ⟨_, _, rfl⟩ := hc; simp [AOp.quiet] at hq
  case build t ps =>
    obtain ⟨z, _, hc⟩ := hc
    cases z <;> simp only [reduceCtorEq, Option.bind_eq_some_iff] at hc
    obtain ⟨d, _, hc⟩ := hc
    cases d <;> simp only [reduceCtorEq, Option.bind_eq_some_iff, Option.some.injEq] at hc
    · obtain ⟨_, _, _, _, rfl⟩ := hc; simp [AOp.quiet] at hq
    · obtain ⟨_, _, rfl⟩ := hc; simp [AOp.quiet] at hq
  case binOp op t x y n =>
    exfalso
    unfold cbin at hc
    cases op <;> dsimp only at hc
    case eql => exact ceq_quiet hc hq
    case neq => exact ceq_quiet hc hq
    all_goals
      split at hc
      · simp only [Option.bind_eq_bind, Option.pure_def, Option.bind_eq_some_iff, Option.some.injEq] at hc
        obtain ⟨_, _, _, _, rfl⟩ := hc; simp [AOp.quiet] at hq
      · simp at hc
  case makeFunc fn first captured =>
    unfold cmkf at hc
    split at hc
    · split at hc
      · simp only [Option.map_eq_some_iff] at hc
        obtain ⟨_, _, rfl⟩ := hc; simp [AOp.quiet] at hq
      · simp at hc
    · simp at hc
  case slice t x lo hi mx =>
    obtain ⟨_, _, _, _, _, _, d, _, hc⟩ := hc
    cases d <;> simp only [reduceCtorEq, Option.bind_eq_some_iff, Option.some.injEq] at hc
    · obtain ⟨_, _, rfl⟩ := hc; simp [AOp.quiet] at hq
    · obtain ⟨_, _, _, _, rfl⟩ := hc; simp [AOp.quiet] at hq
    · obtain ⟨_, _, _, _, rfl⟩ := hc; simp [AOp.quiet] at hq
  case fieldAddr s x i =>
    obtain ⟨d, _, hc⟩ := hc
    cases d <;> simp only [reduceCtorEq, Option.bind_eq_some_iff, Option.some.injEq] at hc
    obtain ⟨_, _, _, _, hc⟩ := hc
    split at hc
    · simp at hc
    · simp only [Option.bind_eq_some_iff, Option.some.injEq] at hc
      obtain ⟨_, _, rfl⟩ := hc; simp [AOp.quiet] at hq
  case field s x i =>
    obtain ⟨d, _, hc⟩ := hc
    cases d <;> simp only [reduceCtorEq, Option.bind_eq_some_iff, Option.some.injEq] at hc
    obtain ⟨_, _, _, _, _, _, rfl⟩ := hc; simp [AOp.quiet] at hq
  case indexAddr t x i =>
    obtain ⟨d, _, hc⟩ := hc
    cases d <;> simp only [reduceCtorEq, Option.bind_eq_some_iff, Option.some.injEq] at hc
    · obtain ⟨_, _, _, _, _, _, rfl⟩ := hc; simp [AOp.quiet] at hq
    · obtain ⟨_, _, _, _, _, _, rfl⟩ := hc; simp [AOp.quiet] at hq
  case index t x i =>
    obtain ⟨d, _, hc⟩ := hc
    cases d <;> simp only [reduceCtorEq, Option.bind_eq_some_iff, Option.some.injEq] at hc
    · obtain ⟨_, _, _, _, rfl⟩ := hc; simp [AOp.quiet] at hq
    · obtain ⟨_, _, _, _, _, _, rfl⟩ := hc; simp [AOp.quiet] at hq
end
end Go.Eng

/- The engine, part G3: what is kept from step to step. -/
namespace Go.Eng
set_option linter.unusedSectionVars false
set_option linter.unusedSimpArgs false

section
variable {RP : RPred} {β β0 : Beta} {h h0 : Heap} {F F0 : Frz} {w w0 w' : World} {P : Program} {C : Cfg} {f : Nat}

def Same (ws : List Nat) (h h' : Heap) : Prop := ∀ n, n < h.length → n ∉ ws → h'[n]? = h[n]?

structure Inv (RP : RPred) (C : Cfg) (β0 : Beta) (F0 : Frz) (h0 : Heap) (w0 : World) (wr : List Nat) (β : Beta) (F : Frz) (h : Heap) (w : World) : Prop where
  rel : Rel RP β F h w
  glob : GlobOK C β h F w
  ext : Ext (· ∈ wr) β0 F0 h0 w0 β F h w
  same : Same wr h0 h

theorem TmRel.ext {W : Nat → Prop} {β' : Beta} {F' : Frz} {h' : Heap} {tm : Tm} {ts : Array Value} (hT : TmRel β h F w tm ts) (hE : Ext W β F h w β' F' h' w') (hR : Rel RP β F h w) : TmRel β' h' F' w' tm ts :=
  ⟨hT.len, fun j c u hc hu => (hT.val j c u hc hu).ext hE hR⟩

theorem GlobOK.ext {W : Nat → Prop} {β' : Beta} {F' : Frz} {h' : Heap} (hG : GlobOK C β h F w) (hE : Ext W β F h w β' F' h' w') (hR : Rel RP β F h w) : GlobOK C β' h' F' w' :=
  fun g c hg => (hG g c hg).ext hE hR

theorem TmRel.put {tm : Tm} {a : Act} (hT : TmRel β h F w tm a.tmps) {v : AV} {u : Value} (hv : V β h F w v u) (d : Option Nat) : TmRel β h F w (putT tm d v) (a.put d u).tmps := by
  cases d with
  | none => exact hT
  | some d =>
    refine ⟨by simp [putT, Act.put, hT.len], fun j c x hc hx => ?_⟩
    simp only [putT, Act.put] at hc hx
    by_cases hj : d = j
    · subst hj
      have hlt : d < tm.length := by have := (List.getElem?_eq_some_iff.1 hc).1; simpa using this
      rw [List.getElem?_set_self hlt] at hc
      rw [Array.getElem?_setIfInBounds_self_of_lt (by rw [← hT.len]; exact hlt)] at hx
      simp at hc hx; subst hc; subst hx; exact hv
    · rw [List.getElem?_set_ne hj] at hc
      rw [Array.getElem?_setIfInBounds_ne hj] at hx
      exact hT.val j c x hc hx

theorem put_defers' (a : Act) (d : Option Nat) (u : Value) : (a.put d u).defers = a.defers := by cases d <;> rfl

theorem mem_wrA {m : Nat} {wr : List Nat} {x : Option Nat} {n : Nat} (hn : n ∈ wr) : n ∈ wrA m wr x := by
  unfold wrA
  split
  · split
    · split
      · exact hn
      · exact List.mem_cons_of_mem _ hn
    · exact hn
  · exact hn

theorem mem_wrA_new {m : Nat} {wr : List Nat} {n : Nat} (hn : n < m) : n ∈ wrA m wr (some n) := by
  simp only [wrA, if_pos hn]
  split
  · rename_i hc; simpa using hc
  · exact List.mem_cons_self ..

theorem mem_addW {m : Nat} {n : Nat} : ∀ {ws wr : List Nat}, n ∈ wr → n ∈ addW m wr ws
  | [], _, hn => hn
  | x :: ws, wr, hn => by
    show n ∈ addW m (wrA m wr (some x)) ws
    exact mem_addW (mem_wrA hn)

theorem mem_addW_new {m : Nat} {n : Nat} (hn : n < m) : ∀ {ws wr : List Nat}, n ∈ ws → n ∈ addW m wr ws
  | x :: ws, wr, hx => by
    show n ∈ addW m (wrA m wr (some x)) ws
    rcases List.mem_cons.1 hx with rfl | hx
    · exact mem_addW (mem_wrA_new hn)
    · exact mem_addW_new hn hx

/-- one more step -/
theorem Inv.step {wr wr' : List Nat} {β' : Beta} {F' : Frz} {h' : Heap} (hI : Inv RP C β0 F0 h0 w0 wr β F h w) (hR' : Rel RP β' F' h' w') {W : Nat → Prop} (hE : Ext W β F h w β' F' h' w')
    (hs : ∀ n, n < h.length → ¬ W n → h'[n]? = h[n]?) (h1 : ∀ n, n ∈ wr → n ∈ wr') (h2 : ∀ n, W n → n < h0.length → n ∈ wr') : Inv RP C β0 F0 h0 w0 wr' β' F' h' w' where
  rel := hR'
  glob := hI.glob.ext hE hI.rel
  ext := hI.ext.trans hE _ (fun n hn _ => h1 n hn) h2
  same := fun n hn hnw => by
    rw [hs n (Nat.lt_of_lt_of_le hn hI.ext.len) (fun hW => hnw (h2 n hW hn))]
    exact hI.same n hn fun hw => hnw (h1 n hw)

theorem Inv.start (hR : Rel RP β F h w) (hG : GlobOK C β h F w) : Inv RP C β F h w [] β F h w :=
  ⟨hR, hG, Ext.refl _ _ _ _ _ hR.out, fun _ _ _ => rfl⟩

/-- an operation turns the one block that it says -/
theorem aop_same {ρ : Opd → AV} {c : AOp} {v : AV} {h' : Heap} {wr : Option Nat} (ha : aop h ρ c = some (.eff v h' wr)) : ∀ n, n < h.length → wr ≠ some n → h'[n]? = h[n]? := by
  intro n hn hw
  have happ : ∀ B, (h ++ [B])[n]? = h[n]? := fun B => List.getElem?_append_left hn
  have hset : ∀ k B, some k ≠ some n → (h.set k B)[n]? = h[n]? := fun k B hk => List.getElem?_set_ne (by intro e; exact hk (by rw [e]))
  cases c
  case iaddr sz arr x i => cases arr <;> simp [aop, Option.bind_eq_some_iff] at ha
  case len b x => cases b <;> simp [aop] at ha
  case append sz bytes x y =>
    simp only [aop, appendA, Option.bind_eq_some_iff] at ha
    obtain ⟨ys, _, ha⟩ := ha
    unfold appendL at ha
    (repeat' (split at ha)) <;> simp at ha <;> obtain ⟨rfl, rfl, rfl⟩ := ha <;> first | exact happ _ | exact hset _ _ hw
  case copy sz x y =>
    simp only [aop, copyA, Option.bind_eq_some_iff] at ha
    obtain ⟨ys, _, ha⟩ := ha
    (repeat' (split at ha)) <;> simp at ha <;> obtain ⟨rfl, rfl, rfl⟩ := ha <;> exact hset _ _ hw
  case store sz x y =>
    simp only [aop, Option.map_eq_some_iff] at ha
    obtain ⟨⟨k, h1⟩, hst, ha⟩ := ha
    simp at ha
    obtain ⟨rfl, rfl, rfl⟩ := ha
    unfold storeA at hst
    (repeat' (split at hst)) <;> simp at hst <;> obtain ⟨rfl, rfl⟩ := hst <;> exact hset _ _ hw
  all_goals
    unfold aop at ha
    dsimp only at ha
    (repeat' (split at ha)) <;> first | (simp at ha; done) | (simp [Option.bind_eq_some_iff] at ha; done) | (simp at ha; obtain ⟨rfl, rfl, rfl⟩ := ha; first | exact happ _ | exact hset _ _ hw)
end
end Go.Eng

/- The engine, part G4: single steps of the machine. -/
namespace Go.Eng
set_option linter.unusedSectionVars false
set_option linter.unusedSimpArgs false

section
variable {RP : RPred} {β β0 : Beta} {h h0 : Heap} {F F0 : Frz} {w w0 w' : World} {P : Program} {C : Cfg} {f : Nat}

theorem coper_dst (ops : Array Oper) (o : Oper) : (coper P C f ops o).dst = o.dst := by
  unfold coper
  split
  · rfl
  · split <;> rfl

theorem V.bool_iff {v : AV} {u : Value} (hv : V β h F w v u) (b : Bool) : v = .bool b ↔ u = .bool b := by
  constructor
  · rintro rfl; cases hv; rfl
  · rintro rfl; cases hv; rfl

/-- an operation's guard -/
theorem wants_ok {ops : Array Oper} {o : Oper} {tm : Tm} {a : Act} (hT : TmRel β h F w tm a.tmps) :
    (∃ y, (coper P C f ops o).op = .bad y ∧ (coper P C f ops o).guard = none) ∨ ((coper P C f ops o).op = cop P C f o ∧ wants tm (coper P C f ops o).guard = Region.wanted o (yielded ops a.tmps)) := by
  unfold coper Region.wanted
  cases hg : o.guard with
  | none => exact .inr ⟨rfl, rfl⟩
  | some q =>
    obtain ⟨j, want⟩ := q
    dsimp only
    cases ht : (ops[j]?).bind (·.dst) with
    | none => exact .inl ⟨_, rfl, rfl⟩
    | some t =>
      refine .inr ⟨rfl, ?_⟩
      simp only [wants, yielded, ht, Option.bind_some, List.getD_eq_getElem?_getD]
      by_cases hlt : t < tm.length
      · have hlt' : t < a.tmps.size := by rw [← hT.len]; exact hlt
        have hV := hT.val t _ _ (List.getElem?_eq_getElem hlt) (Array.getElem?_eq_getElem hlt')
        rw [List.getElem?_eq_getElem hlt, Array.getElem?_eq_getElem hlt', Option.getD_some]
        generalize tm[t] = x at hV
        generalize a.tmps[t] = u at hV
        split
        · rename_i b
          have := (hV.bool_iff b).1 rfl
          subst this; rfl
        · rename_i hx
          split
          · rename_i b hb
            simp at hb; subst hb
            exact absurd ((hV.bool_iff b).2 rfl) (hx b)
          · rfl
      · have hlt' : ¬ t < a.tmps.size := by rw [← hT.len]; exact hlt
        rw [List.getElem?_eq_none_iff.2 (Nat.le_of_not_lt hlt), Array.getElem?_eq_none_iff.2 (Nat.le_of_not_lt hlt')]
        rfl

/-- what the operands of a call are -/
def VL (β : Beta) (h : Heap) (F : Frz) (w : World) (l : List AV) (us : Array Value) : Prop := l.length = us.size ∧ ∀ (j : Nat) (c : AV) (u : Value), l[j]? = some c → us[j]? = some u → V β h F w c u

theorem VL.append {l l' : List AV} {us us' : Array Value} (h1 : VL β h F w l us) (h2 : VL β h F w l' us') : VL β h F w (l ++ l') (us ++ us') := by
  refine ⟨by simp [h1.1, h2.1], fun j c u hc hu => ?_⟩
  by_cases hj : j < l.length
  · rw [List.getElem?_append_left hj] at hc
    rw [Array.getElem?_append_left (by rw [← h1.1]; exact hj)] at hu
    exact h1.2 j c u hc hu
  · rw [List.getElem?_append_right (by omega)] at hc
    rw [Array.getElem?_append_right (by rw [← h1.1]; omega)] at hu
    exact h2.2 _ c u hc (by rw [h1.1]; exact hu)

theorem op_call (hG : GlobOK C β h F w) {tm : Tm} {a : Act} (hT : TmRel β h F w tm a.tmps) {o : Oper} {g : Nat} {as : List AV} (ha : aop h (evo tm) (cop P C f o) = some (.call g as)) :
    ∃ us, (execOp a.eval o).run P w = (callFunc g us).run P w ∧ VL β h F w as us := by
  obtain ⟨dst, op, type, pos, after, guard⟩ := o
  by_cases hcall : ∃ c, op = .call c
  · obtain ⟨c, rfl⟩ := hcall
    unfold cop at ha
    dsimp only at ha
    obtain ⟨cc, hc, ha⟩ := getD_bad ha
    unfold ccall at hc
    split at hc
    · simp at hc
    · rename_i ys hys
      obtain ⟨h1, h2⟩ := opds_V hG hT hys
      have hVL : VL β h F w (ys.map (evo tm)) (c.args.map a.eval) := ⟨by simpa using h1, fun j x u hx hu => h2 j x u hx (by simpa using hu)⟩
      split at hc
      · rename_i g' hcal
        simp at hc; subst hc
        simp [aop] at ha
        obtain ⟨rfl, rfl⟩ := ha
        refine ⟨c.args.map a.eval, ?_, hVL⟩
        simp [execOp, resolve, hcal, Act.eval, Deferred.ofValue, invoke]
      · rename_i t hcal
        simp at hc; subst hc
        simp only [aop] at ha
        split at ha
        · rename_i g' caps hcl
          simp at ha
          obtain ⟨rfl, rfl⟩ := ha
          have hV : V β h F w (evo tm (.tmp t)) (a.eval (.tmp t)) := evo_V (C := C) hG hT rfl
          rw [hcl] at hV
          generalize hu : a.eval (.tmp t) = u at hV
          cases hV with
          | clo _ _ us hl hv =>
            refine ⟨c.args.map a.eval ++ us, ?_, hVL.append ⟨hl, hv⟩⟩
            simp [execOp, resolve, hcal, hu, Deferred.ofValue, invoke]
        · simp at ha
      · rename_i b hcal
        exfalso
        unfold cbuiltin at hc
        (repeat' (split at hc)) <;> simp at hc <;> subst hc <;> simp only [aop, appendA, copyA, Option.map_eq_some_iff, Option.bind_eq_some_iff] at ha
        · obtain ⟨_, _, ha⟩ := ha; simp at ha
        · obtain ⟨_, _, ha⟩ := ha; simp at ha
        · obtain ⟨_, _, ha⟩ := ha
          unfold appendL at ha
          (repeat' (split at ha)) <;> simp at ha
        · obtain ⟨_, _, ha⟩ := ha
          (repeat' (split at ha)) <;> simp at ha
        · (repeat' (split at ha)) <;> simp at ha
        · (repeat' (split at ha)) <;> simp at ha
      · simp at hc
  · exfalso
    have key : ∀ cc : AOp, (∀ g as, cc ≠ .call g as) → (∀ x as, cc ≠ .callv x as) → aop h (evo tm) cc = some (.call g as) → False := by
      intro cc h1 h2 ha
      cases cc
      case call g as => exact h1 _ _ rfl
      case callv x as => exact h2 _ _ rfl
      case iaddr sz arr x i => cases arr <;> simp [aop, Option.bind_eq_some_iff] at ha
      case len b x => cases b <;> simp [aop] at ha
      case append sz bytes x y =>
        simp only [aop, appendA, Option.bind_eq_some_iff] at ha
        obtain ⟨ys, _, ha⟩ := ha
        unfold appendL at ha
        (repeat' (split at ha)) <;> simp at ha
      case copy sz x y =>
        simp only [aop, copyA, Option.bind_eq_some_iff] at ha
        obtain ⟨ys, _, ha⟩ := ha
        (repeat' (split at ha)) <;> simp at ha
      all_goals
        unfold aop at ha
        dsimp only at ha
        (repeat' (split at ha)) <;> first | (simp at ha; done) | (simp [Option.bind_eq_some_iff] at ha; done)
    refine key _ ?_ ?_ ha
    all_goals
      intro y ys hcc
      unfold cop at hcc
      rw [Option.getD_eq_iff] at hcc
      rcases hcc with hcc | ⟨_, hcc⟩
      · cases op <;> dsimp only at hcc
        case call c => exact hcall ⟨c, rfl⟩
        case binOp bop t x y n =>
          unfold cbin ceq at hcc
          cases bop <;> dsimp only at hcc <;> (repeat' (split at hcc)) <;> simp [Option.bind_eq_some_iff] at hcc
        case convert s d x => unfold cconv at hcc; (repeat' (split at hcc)) <;> simp at hcc
        case makeFunc fn fi ca => unfold cmkf at hcc; (repeat' (split at hcc)) <;> simp at hcc
        case makeMap t r => cases r <;> (try (simp at hcc; done)); simp only [Option.bind_eq_bind, Option.bind_eq_some_iff] at hcc; obtain ⟨d, _, hcc⟩ := hcc; cases d <;> simp at hcc
        all_goals (try simp only [Option.bind_eq_bind, Option.pure_def, Option.bind_eq_some_iff, Option.some.injEq, reduceCtorEq, and_false, exists_false, exists_const] at hcc)
        case build t ps => obtain ⟨z, _, hcc⟩ := hcc; cases z <;> (try (simp at hcc; done)); simp only [Option.bind_eq_some_iff] at hcc; obtain ⟨d, _, hcc⟩ := hcc; cases d <;> simp [Option.bind_eq_some_iff] at hcc
        case buildSlice t l ps => obtain ⟨d, _, hcc⟩ := hcc; cases d <;> (try (simp at hcc; done)); simp only [Option.bind_eq_some_iff] at hcc; obtain ⟨_, _, _, _, hcc⟩ := hcc; split at hcc <;> simp [Option.bind_eq_some_iff] at hcc
        all_goals (try (exact hcc.elim))
        all_goals (try (obtain ⟨d, _, hcc⟩ := hcc; cases d <;> (try (simp at hcc; done)) <;> simp [Option.bind_eq_some_iff] at hcc; done))
        case slice t x lo hi mx =>
          obtain ⟨_, _, _, _, _, _, d, _, hcc⟩ := hcc
          cases d <;> (try (simp at hcc; done)) <;> simp [Option.bind_eq_some_iff] at hcc
      · simp at hcc

theorem step_op {b : Frame} {a : Act} {k : List Item} {cs : List Frame} {ops : Array Oper} {i : Nat} {rest : List Nat} {o : Oper} (ho : ops[i]? = some o) (hw : Region.wanted o (yielded ops a.tmps) = true)
    {x : Next} {u : Value} (hr : (execOp a.eval o).run P w = .ok x w') (hx : x = .value u ∨ (x = .skip ∧ u = undef)) :
    step P (lone (b.at a (.inRegion ops (i :: rest) :: k)) cs w) = .next (lone (b.at (a.put o.dst u) (.inRegion ops rest :: k)) cs w') := by
  have hg := stepG_op (P := P) (b := b) (k := k) (cs := cs) (w := w) (rest := rest) ho hw
  have hfin : ∀ v, (b.at a (.inRegion ops (i :: rest) :: k)).finish v = b.at (a.put o.dst v) (.inRegion ops rest :: k) := by
    intro v; rw [Frame.finish_at, ho]; rfl
  rcases hx with rfl | ⟨rfl, rfl⟩
  · refine step_lone_go ?_
    rw [hg, ← hfin]; simp [stepG.apply, hr]
  · refine step_lone_go ?_
    rw [hg, ← hfin]; simp [stepG.apply, hr]

/-- how a call goes: it enters a body, or answers at once -/
def CallsTo (P : Program) (g : Nat) (us : Array Value) (w : World) (K : Value → World → Prop) : Prop :=
  (∃ w1, (callFunc g us).run P w = .ok (.enter g us) w1 ∧ Calls P g us w1 fun e w' => ∃ u, e = .returned u ∧ K u w') ∨ (∃ u w', (callFunc g us).run P w = .ok (.value u) w' ∧ K u w')

theorem CallsTo.mono {g : Nat} {us : Array Value} {K K' : Value → World → Prop} (hc : CallsTo P g us w K) (hk : ∀ u w', K u w' → K' u w') : CallsTo P g us w K' := by
  rcases hc with ⟨w1, h1, h2⟩ | ⟨u, w', h1, h2⟩
  · exact .inl ⟨w1, h1, h2.mono fun e w' ⟨u, he, hK⟩ => ⟨u, he, hk u w' hK⟩⟩
  · exact .inr ⟨u, w', h1, hk u w' h2⟩

theorem steps_call {b : Frame} {a : Act} {k : List Item} {cs : List Frame} {ops : Array Oper} {i : Nat} {rest : List Nat} {o : Oper} (ho : ops[i]? = some o) (hw : Region.wanted o (yielded ops a.tmps) = true)
    {g : Nat} {us : Array Value} (hr : (execOp a.eval o).run P w = (callFunc g us).run P w) {K : Value → World → Prop} (hc : CallsTo P g us w K) :
    ∃ u w', K u w' ∧ Steps P (lone (b.at a (.inRegion ops (i :: rest) :: k)) cs w) (lone (b.at (a.put o.dst u) (.inRegion ops rest :: k)) cs w') := by
  have hg := stepG_op (P := P) (b := b) (k := k) (cs := cs) (w := w) (rest := rest) ho hw
  have hfin : ∀ v, (b.at a (.inRegion ops (i :: rest) :: k)).finish v = b.at (a.put o.dst v) (.inRegion ops rest :: k) := by
    intro v; rw [Frame.finish_at, ho]; rfl
  rcases hc with ⟨w1, h1, h2⟩ | ⟨u, w', h1, h2⟩
  · obtain ⟨e, w'', fr, ⟨u, rfl, hK⟩, hsteps, _, hleave⟩ := h2 (b.at a (.inRegion ops (i :: rest) :: k) :: cs)
    have henter : step P (lone (b.at a (.inRegion ops (i :: rest) :: k)) cs w) =
        .next (lone (Frame.enter P g us .normal) (b.at a (.inRegion ops (i :: rest) :: k) :: cs) w1) :=
      step_lone_go (by rw [hg]; simp [stepG.apply, hr, h1, Frame.at])
    refine ⟨u, w'', hK, .head henter (Steps.trans hsteps (.one ?_))⟩
    rw [← hfin]; exact step_leave_returned hleave
  · exact ⟨u, w', h2, .one (step_op ho hw (hr.trans h1) (.inl rfl))⟩
end
end Go.Eng

/- The engine, part G5: the end of a call: its own blocks are frozen and forgotten. -/
namespace Go.Eng
set_option linter.unusedSectionVars false
set_option linter.unusedSimpArgs false

section
variable {RP : RPred} {β β0 : Beta} {h h0 : Heap} {F F0 : Frz} {w w0 w' : World} {P : Program} {C : Cfg} {f : Nat}

theorem lts_iff {m : Nat} : ∀ {l : List AV}, AV.lts m l = true ↔ ∀ x ∈ l, x.lt m = true
  | [] => by simp [AV.lts]
  | v :: l => by simp [AV.lts, lts_iff (l := l)]

theorem lts_get {m : Nat} {l : List AV} : AV.lts m l = true ↔ ∀ (j : Nat) (x : AV), l[j]? = some x → x.lt m = true := by
  rw [lts_iff]
  constructor
  · intro hh j x hj; exact hh x (List.mem_of_getElem? hj)
  · intro hh x hx; obtain ⟨j, hj⟩ := List.mem_iff_getElem?.1 hx; exact hh j x hj

theorem lt_cells {m : Nat} {x : AV} : x.lt m = true ↔ ∀ c ∈ x.cells, c.lt m = true := by
  cases x <;> simp [AV.cells, AV.lt, lts_iff]

theorem lts_flat {m : Nat} {l : List AV} : AV.lts m l = true ↔ ∀ c ∈ flatC l, c.lt m = true := by
  rw [lts_iff]
  simp only [flatC, List.mem_flatten, List.mem_map]
  constructor
  · rintro hh c ⟨_, ⟨x, hx, rfl⟩, hc⟩; exact lt_cells.1 (hh x hx) c hc
  · intro hh x hx; exact lt_cells.2 fun c hc => hh c ⟨_, ⟨x, hx, rfl⟩, hc⟩

theorem Stale.lt {n ver : Nat} (hs : Stale h n ver) : n < h.length := by
  rcases hs with hd | ⟨v, e, g, es, hv, _⟩
  · exact (List.getElem?_eq_some_iff.1 hd).1
  · exact (List.getElem?_eq_some_iff.1 hv).1

/-- what is told of leads into the heap that there is -/
theorem V.lt {v : AV} {u : Value} (hv : V β h F w v u) : v.lt h.length = true := by
  induction hv with
  | agg cs us hl hv ih | tup cs us hl hv ih | clo f cs us hl hv ih =>
    simp only [AV.lt]
    rw [lts_get]
    intro j x hj
    have hlt : j < us.size := by rw [← hl]; exact (List.getElem?_eq_some_iff.1 hj).1
    exact ih j x _ hj (Array.getElem?_eq_getElem hlt)
  | lst xs a cap sz hc hs hz us hu hv ih =>
    simp only [AV.lt]
    rw [lts_flat]
    intro c hc
    obtain ⟨j, hj⟩ := List.mem_iff_getElem?.1 hc
    exact ih j c hj
  | cref cs a hs us hu hv ih =>
    simp only [AV.lt]
    rw [lts_get]
    intro j x hj; exact ih j x hj
  | lst0 a cap => simp [AV.lt, AV.lts]
  | ptr n ver i o b e g es hb hh => simp only [AV.lt, decide_eq_true_eq]; exact (List.getElem?_eq_some_iff.1 hh).1
  | repl n o b ps hb hh => simp only [AV.lt, decide_eq_true_eq]; exact (List.getElem?_eq_some_iff.1 hh).1
  | ptrS n ver i o a hs => simp only [AV.lt, decide_eq_true_eq]; exact hs.lt
  | slcX n ver sz i o len c b e g es hb hh hl hf => simp only [AV.lt, decide_eq_true_eq]; exact (List.getElem?_eq_some_iff.1 hh).1
  | slcG n ver sz i len c b a es us el fr hb hh => simp only [AV.lt, decide_eq_true_eq]; exact (List.getElem?_eq_some_iff.1 hh).1
  | slcS n ver sz i o len cap a c hs => simp only [AV.lt, decide_eq_true_eq]; exact hs.lt
  | mapr n b es hb hh => simp only [AV.lt, decide_eq_true_eq]; exact (List.getElem?_eq_some_iff.1 hh).1
  | mapS n b hs => simp only [AV.lt, decide_eq_true_eq]; exact (List.getElem?_eq_some_iff.1 hs).1
  | _ => rfl

/-- the blocks that were there before -/
def cutB (β : Beta) (m : Nat) : Beta := fun n => if n < m then β n else none
/-- the cells of the others are frozen -/
def cutF (β : Beta) (F : Frz) (m : Nat) : Frz := fun b o => F b o ∨ ∃ n, m ≤ n ∧ β n = some b

theorem cutB_lt {m n : Nat} (hn : n < m) : cutB β m n = β n := by simp [cutB, hn]
theorem take_get {m n : Nat} (hn : n < m) : (h.take m)[n]? = h[n]? := by rw [List.getElem?_take, if_pos hn]

theorem stale_cut {m n ver : Nat} (hn : n < m) (hs : Stale h n ver) : Stale (h.take m) n ver := by
  unfold Stale; rw [take_get hn]; exact hs

theorem V.cut {m : Nat} {v : AV} {u : Value} (hv : V β h F w v u) : v.lt m = true → V (cutB β m) (h.take m) (cutF β F m) w v u := by
  induction hv with
  | bool b => exact fun _ => .bool b
  | int k n => exact fun _ => .int k n
  | str s => exact fun _ => .str s
  | nilp => exact fun _ => .nilp
  | nils a => exact fun _ => .nils a
  | nilm => exact fun _ => .nilm
  | nilf => exact fun _ => .nilf
  | nili => exact fun _ => .nili
  | agg cs us hl hv ih => intro hm; exact .agg cs us hl fun j c u hc hu => ih j c u hc hu (lts_get.1 (by simpa [AV.lt] using hm) j c hc)
  | tup cs us hl hv ih => intro hm; exact .tup cs us hl fun j c u hc hu => ih j c u hc hu (lts_get.1 (by simpa [AV.lt] using hm) j c hc)
  | clo f cs us hl hv ih => intro hm; exact .clo f cs us hl fun j c u hc hu => ih j c u hc hu (lts_get.1 (by simpa [AV.lt] using hm) j c hc)
  | lst0 a cap => exact fun _ => .lst0 a cap
  | lst xs a cap sz hc hs hz us hu hv ih =>
    intro hm
    exact .lst xs a cap sz hc hs hz us (fun j c hj => ⟨(hu j c hj).1, .inl (hu j c hj).2⟩) fun j c hj => ih j c hj (lts_flat.1 (by simpa [AV.lt] using hm) c (List.mem_of_getElem? hj))
  | cref cs a hs us hu hv ih =>
    intro hm
    exact .cref cs a hs us (fun j c hj => ⟨(hu j c hj).1, .inl (hu j c hj).2⟩) fun j c hj => ih j c hj (lts_get.1 (by simpa [AV.lt] using hm) j c hj)
  | ptr n ver i o b e g es hb hh =>
    intro hm; simp only [AV.lt, decide_eq_true_eq] at hm
    exact .ptr n ver i o b e g es (by rw [cutB_lt hm]; exact hb) (by rw [take_get hm]; exact hh)
  | repl n o b ps hb hh =>
    intro hm; simp only [AV.lt, decide_eq_true_eq] at hm
    exact .repl n o b ps (by rw [cutB_lt hm]; exact hb) (by rw [take_get hm]; exact hh)
  | ptrS n ver i o a hs =>
    intro hm; simp only [AV.lt, decide_eq_true_eq] at hm
    exact .ptrS n ver i o a (stale_cut hm hs)
  | slcX n ver sz i o len c b e g es hb hh hl hf =>
    intro hm; simp only [AV.lt, decide_eq_true_eq] at hm
    exact .slcX n ver sz i o len c b e g es (by rw [cutB_lt hm]; exact hb) (by rw [take_get hm]; exact hh) hl hf
  | slcG n ver sz i len c b a es us el fr hb hh hl hw hf hk ha =>
    intro hm; simp only [AV.lt, decide_eq_true_eq] at hm
    exact .slcG n ver sz i len c b a es us el fr (by rw [cutB_lt hm]; exact hb) (by rw [take_get hm]; exact hh) hl hw hf hk ha
  | slcS n ver sz i o len cap a c hs =>
    intro hm; simp only [AV.lt, decide_eq_true_eq] at hm
    exact .slcS n ver sz i o len cap a c (stale_cut hm hs)
  | mapr n b es hb hh =>
    intro hm; simp only [AV.lt, decide_eq_true_eq] at hm
    exact .mapr n b es (by rw [cutB_lt hm]; exact hb) (by rw [take_get hm]; exact hh)
  | mapS n b hs =>
    intro hm; simp only [AV.lt, decide_eq_true_eq] at hm
    exact .mapS n b (by rw [take_get hm]; exact hs)

/-- a block whose contents lead to what was there before -/
def ltBlk (m : Nat) : Blk → Bool
  | .cells _ _ _ es => AV.lts m es
  | .map es => es.all fun e => e.1.lt m && e.2.lt m
  | _ => true

theorem BlkRel.cut {m b : Nat} {B : Blk} (hB : BlkRel RP β h F w b B) (hm : ltBlk m B = true) : BlkRel RP (cutB β m) (h.take m) (cutF β F m) w b B := by
  cases B with
  | cells v e g es =>
    obtain ⟨us, el, fr, h1, h2, h3, h4, h5, h6⟩ := hB
    refine ⟨us, el, fr, h1, h2, h3, h4, h5, fun j c hj => ?_⟩
    obtain ⟨u, hu, hv⟩ := h6 j c hj
    exact ⟨u, hu, hv.cut (lts_flat.1 (by simpa [ltBlk] using hm) c (List.mem_of_getElem? hj))⟩
  | map es =>
    obtain ⟨ms, clock, h1, h2, h3⟩ := hB
    refine ⟨ms, clock, h1, h2, fun j k v mm hj hmm => ?_⟩
    obtain ⟨ha, hb⟩ := h3 j k v mm hj hmm
    simp only [ltBlk] at hm
    have := List.all_eq_true.1 hm _ (List.mem_of_getElem? hj)
    simp only [Bool.and_eq_true] at this
    exact ⟨ha.cut this.1, hb.cut this.2⟩
  | repl ps => exact RP.mono hB (fun b o hf => .inl hf) (fun _ _ _ => rfl) rfl
  | dead => trivial

theorem BlkRel.lt {b : Nat} {B : Blk} (hB : BlkRel RP β h F w b B) : ltBlk h.length B = true := by
  cases B with
  | cells v e g es =>
    obtain ⟨us, el, fr, h1, h2, h3, h4, h5, h6⟩ := hB
    simp only [ltBlk]
    rw [lts_flat]
    intro c hc
    obtain ⟨j, hj⟩ := List.mem_iff_getElem?.1 hc
    obtain ⟨u, _, hv⟩ := h6 j c hj
    exact hv.lt
  | map es =>
    obtain ⟨ms, clock, h1, h2, h3⟩ := hB
    simp only [ltBlk, List.all_eq_true, Bool.and_eq_true]
    intro e he
    obtain ⟨j, hj⟩ := List.mem_iff_getElem?.1 he
    have hlt : j < ms.size := by rw [h2]; exact (List.getElem?_eq_some_iff.1 hj).1
    obtain ⟨ha, hb⟩ := h3 j e.1 e.2 _ hj (Array.getElem?_eq_getElem hlt)
    exact ⟨ha.lt, hb.lt⟩
  | repl ps => rfl
  | dead => rfl

/-- THE CUT: the state behind a call, its own blocks forgotten -/
theorem Inv.cut {wr : List Nat} (hR0 : Rel RP β0 F0 h0 w0) (hI : Inv RP C β0 F0 h0 w0 wr β F h w)
    (hw : ∀ n ∈ wr, ∀ B, h[n]? = some B → ltBlk h0.length B = true) (hG0 : GlobOK C β0 h0 F0 w0) :
    Inv RP C β0 F0 h0 w0 wr (cutB β h0.length) (cutF β F h0.length) (h.take h0.length) w := by
  have hle := hI.ext.len
  have hlen : (h.take h0.length).length = h0.length := by simp; omega
  have hE : Ext (· ∈ wr) β0 F0 h0 w0 (cutB β h0.length) (cutF β F h0.length) (h.take h0.length) w := {
    len := by rw [hlen]; exact Nat.le_refl _
    blk := fun n B hB => by
      have hn : n < h0.length := (List.getElem?_eq_some_iff.1 hB).1
      obtain ⟨B', hB', hk⟩ := hI.ext.blk n B hB
      refine ⟨B', by rw [take_get hn]; exact hB', ?_⟩
      rcases hk with ⟨k1, k2, k3⟩ | k
      · exact .inl ⟨k1, by rw [cutB_lt hn]; exact k2, k3⟩
      · exact .inr k
    frz := fun b o hf => .inl (hI.ext.frz b o hf)
    old := hI.ext.old
    size := hI.ext.size
    news := fun n b hn => by
      unfold cutB at hn
      split at hn
      · exact hI.ext.news n b hn
      · simp at hn
    newF := fun b o hf => by
      rcases hf with hf | ⟨n, hn, hb⟩
      · exact hI.ext.newF b o hf
      · rcases hI.ext.news n b hb with ⟨_, hl⟩ | h1
        · omega
        · exact .inr h1
    none_ := fun n hl hn => by
      obtain ⟨h1, h2⟩ := hI.ext.none_ n hl hn
      exact ⟨by rw [cutB_lt hl]; exact h1, by rw [take_get hl]; exact h2⟩
    os := hI.ext.os
    output := hI.ext.output
    tape := hI.ext.tape }
  have hR : Rel RP (cutB β h0.length) (cutF β F h0.length) (h.take h0.length) w := {
    lt := fun n b hn => by
      unfold cutB at hn
      split at hn
      · exact hI.rel.lt n b hn
      · simp at hn
    blk := fun n b B hn hB => by
      have hlt : n < h0.length := by
        unfold cutB at hn
        split at hn
        · assumption
        · simp at hn
      rw [cutB_lt hlt] at hn
      rw [take_get hlt] at hB
      refine (hI.rel.blk n b B hn hB).cut ?_
      by_cases hwr : n ∈ wr
      · exact hw n hwr B hB
      · have hs := hI.same n hlt hwr
        rw [hB] at hs
        obtain ⟨B', hB', hk⟩ := hI.ext.blk n B hs.symm
        rw [hB] at hB'; simp at hB'; subst hB'
        rcases hk with ⟨_, k2, _⟩ | k
        · exact (hR0.blk n b B (by rw [← k2]; exact hn) hs.symm).lt
        · cases B <;> simp [Turned] at k
          rfl
    inj := fun n n' b hn hn' => by
      unfold cutB at hn hn'
      split at hn
      · split at hn'
        · exact hI.rel.inj n n' b hn hn'
        · simp at hn'
      · simp at hn
    out := fun n b hn => by
      unfold cutB at hn
      split at hn
      · rw [hlen]; assumption
      · simp at hn
    apart := fun n b o hn hF => by
      unfold cutB at hn
      split at hn
      · rename_i hlt
        rcases hF with hF | ⟨k, hk, hb⟩
        · exact hI.rel.apart n b o hn hF
        · have := hI.rel.inj n k b hn hb
          omega
      · simp at hn
    cell := fun b o hF => by
      rcases hF with hF | ⟨k, hk, hb⟩
      · exact hI.rel.cell b o hF
      · exact hI.rel.lt k b hb }
  refine ⟨hR, fun g c hg => (hG0 g c hg).ext hE hR0, hE, fun n hn hnw => ?_⟩
  rw [take_get hn]; exact hI.same n hn hnw

theorem frzs_get {h : Heap} {m : Nat} {p : Bool} : ∀ {k : Nat} {l l' : List AV}, frzs h m p k l = some l' → l'.length = l.length ∧ ∀ (j : Nat) (x x' : AV), l[j]? = some x → l'[j]? = some x' → ∃ k', k' < k ∧ frz h m p k' x = some x'
  | k, [], l', hf => by
    unfold frzs at hf
    simp at hf; subst hf; exact ⟨rfl, by simp⟩
  | 0, v :: l, l', hf => by simp [frzs] at hf
  | k + 1, v :: l, l', hf => by
    unfold frzs at hf
    split at hf
    · rename_i v' hv'
      split at hf
      · rename_i l2 hl2
        simp at hf; subst hf
        obtain ⟨h1, h2⟩ := frzs_get hl2
        refine ⟨by simp [h1], fun j x x' hx hx' => ?_⟩
        cases j with
        | zero => simp at hx hx'; subst hx; subst hx'; exact ⟨k, by omega, hv'⟩
        | succ j => obtain ⟨k', hk', hfz⟩ := h2 j x x' (by simpa using hx) (by simpa using hx'); exact ⟨k', by omega, hfz⟩
      · simp at hf
    · simp at hf

theorem frz_isAgg {m : Nat} {p : Bool} {k : Nat} {v v' : AV} (hf : frz h m p k v = some v') : v'.isAgg = v.isAgg := by
  cases k with
  | zero => cases v <;> simp [frz] at hf
  | succ k =>
    cases v <;> simp only [frz] at hf
    all_goals (first | (simp at hf; subst hf; rfl) | skip)
    all_goals (first | (simp only [Option.map_eq_some_iff] at hf; obtain ⟨_, _, rfl⟩ := hf; rfl) | skip)
    case ptr n ver i o =>
      split at hf
      · simp at hf; subst hf; rfl
      · (repeat' (split at hf)) <;> simp only [Option.map_eq_some_iff, reduceCtorEq] at hf
        obtain ⟨_, _, rfl⟩ := hf; rfl
    case slc n ver sz i o len cap =>
      split at hf
      · simp at hf; subst hf; rfl
      · (repeat' (split at hf)) <;> simp only [Option.map_eq_some_iff, reduceCtorEq] at hf
        obtain ⟨_, _, rfl⟩ := hf; rfl

theorem getD_frz {l : List AV} {l' : List AV} (hl : l'.length = l.length) {j : Nat} {x' : AV} (hx : l'[j]? = some x') : ∃ x, l[j]? = some x := by
  have := (List.getElem?_eq_some_iff.1 hx).1
  exact ⟨_, List.getElem?_eq_getElem (by omega)⟩

theorem frz_cells_get {m : Nat} {p : Bool} {k : Nat} {x x' : AV} (hf : frz h m p k x = some x') : x'.cells.length = x.cells.length ∧ ∀ (j : Nat) (c c' : AV), x.cells[j]? = some c → x'.cells[j]? = some c' → ∃ k', k' ≤ k ∧ frz h m p k' c = some c' := by
  have ha := frz_isAgg hf
  cases x with
  | agg cs =>
    cases k with
    | zero => simp [frz] at hf
    | succ k =>
      simp only [frz, Option.map_eq_some_iff] at hf
      obtain ⟨cs', hcs, rfl⟩ := hf
      obtain ⟨h1, h2⟩ := frzs_get hcs
      exact ⟨h1, fun j c c' hc hc' => let ⟨k', hk, he⟩ := h2 j c c' hc hc'; ⟨k', by omega, he⟩⟩
  | _ =>
    have e : x'.cells = [x'] := by cases x' <;> simp [AV.isAgg] at ha <;> rfl
    rw [e]
    refine ⟨rfl, fun j c c' hc hc' => ?_⟩
    cases j with
    | succ j => simp at hc'
    | zero => simp [AV.cells] at hc hc'; subst hc; subst hc'; exact ⟨k, Nat.le_refl _, hf⟩

theorem frzs_flat {m : Nat} {p : Bool} {k : Nat} : ∀ {l l' : List AV}, (l'.length = l.length ∧ ∀ (j : Nat) (x x' : AV), l[j]? = some x → l'[j]? = some x' → ∃ k', k' < k ∧ frz h m p k' x = some x') →
    (flatC l').length = (flatC l).length ∧ (∀ (j : Nat) (c c' : AV), (flatC l)[j]? = some c → (flatC l')[j]? = some c' → ∃ k', k' < k ∧ frz h m p k' c = some c')
  | [], l', hh => by
    have : l' = [] := List.length_eq_zero_iff.1 (by simpa using hh.1)
    subst this; simp [flatC]
  | x :: l, l', hh => by
    cases l' with
    | nil => simp at hh
    | cons x' l' =>
      obtain ⟨k', hk', hf⟩ := hh.2 0 x x' rfl rfl
      obtain ⟨g1, g2⟩ := frz_cells_get hf
      obtain ⟨g3, g4⟩ := frzs_flat (l := l) (l' := l') ⟨by simpa using hh.1, fun j x x' hx hx' => hh.2 (j + 1) x x' hx hx'⟩
      have e1 : flatC (x :: l) = x.cells ++ flatC l := by simp [flatC]
      have e2 : flatC (x' :: l') = x'.cells ++ flatC l' := by simp [flatC]
      rw [e1, e2]
      refine ⟨by simp [g1, g3], fun j c c' hc hc' => ?_⟩
      by_cases hj : j < x.cells.length
      · rw [List.getElem?_append_left hj] at hc
        rw [List.getElem?_append_left (by omega)] at hc'
        obtain ⟨k2, h2, h3⟩ := g2 j c c' hc hc'
        exact ⟨k2, by omega, h3⟩
      · rw [List.getElem?_append_right (by omega)] at hc hc'
        rw [g1] at hc'
        exact g4 _ c c' hc hc'

/-- the cells of a slice of a live block -/
theorem slc_cells (hR : Rel RP β F h w) {n ver sz i o len : Nat} {cap : Option Nat} {xs : List AV} (he : elems h sz (.slc n ver sz i o len cap) = some xs) {u : Value} (hv : V β h F w (.slc n ver sz i o len cap) u) :
    xs.length = len ∧ (∀ x ∈ xs, x.cells.length = sz) ∧ ∃ b a c, u = .slice a len c ∧ len ≤ c ∧ β n = some b ∧ (len ≠ 0 → ∃ off, a = some ⟨b, off, none⟩ ∧ ∀ (j : Nat) (x : AV), (flatC xs)[j]? = some x → ∃ y, w.cell? ⟨b, off + j, none⟩ = some y ∧ V β h F w x y) := by
  have hel := (elems_load (P := default) hR he hv).1
  unfold elems at he
  dsimp only at he
  split at he
  · simp at he
  · rename_i hs
    have hs : sz = sz := rfl
    cases hl : look h n ver with
    | none => rw [hl] at he; simp at he
    | some q =>
      obtain ⟨e, g, es⟩ := q
      rw [hl] at he; dsimp only at he
      have hh := look_eq hl
      have haddr : ∃ b a c, u = .slice a len c ∧ len ≤ c ∧ β n = some b ∧ (len ≠ 0 → a = some ⟨b, i * e + o, none⟩) := by
        cases hv with
        | slcX n ver sz i o len c b e' g' es' hb hh' hlc hf =>
          rw [hh] at hh'; simp at hh'; obtain ⟨rfl, rfl, rfl⟩ := hh'
          exact ⟨b, _, c, rfl, hlc, hb, fun _ => rfl⟩
        | slcG n ver sz i len c b a es' us el fr hb hh' hlc hw hf hk0 ha =>
          rw [hh] at hh'; simp at hh'; obtain ⟨rfl, rfl, rfl⟩ := hh'
          exact ⟨b, a, c, rfl, hlc, hb, fun h0 => by simpa using ha (.inl (by omega))⟩
        | slcS n ver sz i o len cap a c hs => exact absurd hs (not_stale hh)
      obtain ⟨b, a, c, rfl, hlc, hb, ha⟩ := haddr
      obtain ⟨us, el, fr, hw, _, _, hC⟩ := hR.cells hb hh
      have hfl := hR.flat hb hh hw
      split at he
      · rename_i hes
        subst hes
        split at he
        · rename_i hio
          simp at he; subst he
          obtain ⟨rfl, hle⟩ := hio
          refine ⟨by simp; omega, hel, b, a, c, rfl, hlc, hb, fun h0 => ⟨i * e + 0, ha h0, fun j x hj => ?_⟩⟩
          have h1 := flatC_take_get len hj
          rw [flatC_drop_take hC.elt, List.getElem?_drop] at h1
          obtain ⟨y, hy, hV⟩ := hfl _ x h1
          exact ⟨y, by rw [cell_of hw]; exact hy, hV⟩
        · simp at he
      · split at he
        · rename_i hs1
          subst hs1
          split at he
          · rename_i x0 hx0
            split at he
            · rename_i hcond
              simp at he; subst he
              obtain ⟨hle, hone⟩ := hcond
              have hx0l := hC.elt x0 (List.mem_of_getElem? hx0)
              refine ⟨by simp; omega, hel, b, a, c, rfl, hlc, hb, fun h0 => ⟨i * e + o, ha h0, fun j x hj => ?_⟩⟩
              have hflat : ∀ l : List AV, (∀ y ∈ l, y.isAgg = false) → flatC l = l := by
                intro l
                induction l with
                | nil => intro _; rfl
                | cons y l ih =>
                  intro hl
                  have h1 : y.cells = [y] := by have := hl y (by simp); cases y <;> simp [AV.isAgg] at this <;> rfl
                  have h2 := ih fun z hz => hl z (by simp [hz])
                  simp only [flatC, List.map_cons, List.flatten_cons, h1] at h2 ⊢
                  rw [h2]; rfl
              rw [hflat _ (fun y hy => by simpa using List.all_eq_true.1 hone y hy)] at hj
              rw [List.getElem?_take] at hj
              split at hj
              · rw [List.getElem?_drop] at hj
                obtain ⟨y, hy, hV⟩ := hC.val i x0 (o + j) x hx0 hj
                exact ⟨y, by rw [cell_of hw, Nat.add_assoc]; exact hy, hV⟩
              · simp at hj
            · simp at he
          · simp at he
        · simp at he

/-- WHAT IS FROZEN: it is still what it was, in the state that has forgotten the blocks from m on -/
theorem frz_sound (hR : Rel RP β F h w) {m : Nat} : ∀ (k : Nat) (v v' : AV) (u : Value), frz h m true k v = some v' → v'.lt m = true → V β h F w v u → V (cutB β m) (h.take m) (cutF β F m) w v' u := by
  intro k
  induction k using Nat.strongRecOn with
  | ind k IH =>
  intro v v' u hf hlt hV
  -- a list of values, one by one
  have cells : ∀ {l l' : List AV}, frzs h m true (k - 1) l = some l' → k ≠ 0 → AV.lts m l' = true → ∀ (j : Nat) (c c' : AV) (u : Value), l[j]? = some c → l'[j]? = some c' → V β h F w c u → V (cutB β m) (h.take m) (cutF β F m) w c' u := by
    intro l l' hl hk0 hm j c c' u hc hc' hVc
    obtain ⟨g1, g2⟩ := frzs_get hl
    obtain ⟨k', hk', hfz⟩ := g2 j c c' hc hc'
    exact IH k' (by omega) c c' u hfz (lts_get.1 hm j c' hc') hVc
  have flats : ∀ {l l' : List AV}, frzs h m true (k - 1) l = some l' → k ≠ 0 → AV.lts m l' = true → (flatC l').length = (flatC l).length ∧ ∀ (j : Nat) (c c' : AV) (u : Value), (flatC l)[j]? = some c → (flatC l')[j]? = some c' → V β h F w c u → V (cutB β m) (h.take m) (cutF β F m) w c' u := by
    intro l l' hl hk0 hm
    obtain ⟨g1, g2⟩ := frzs_flat (frzs_get hl)
    refine ⟨g1, fun j c c' u hc hc' hVc => ?_⟩
    obtain ⟨k', hk', hfz⟩ := g2 j c c' hc hc'
    exact IH k' (by omega) c c' u hfz (lts_flat.1 hm c' (List.mem_of_getElem? hc')) hVc
  have eltsz : ∀ {l l' : List AV} {s : Nat}, frzs h m true (k - 1) l = some l' → (∀ x ∈ l, x.cells.length = s) → ∀ x ∈ l', x.cells.length = s := by
    intro l l' s hl hs x hx
    obtain ⟨j, hj⟩ := List.mem_iff_getElem?.1 hx
    obtain ⟨g1, g2⟩ := frzs_get hl
    obtain ⟨y, hy⟩ := getD_frz g1 hj
    obtain ⟨k', _, hfz⟩ := g2 j y x hy hj
    rw [(frz_cells_get hfz).1]
    exact hs y (List.mem_of_getElem? hy)
  obtain ⟨k, rfl⟩ : ∃ k', k = k' + 1 := by
    cases k with
    | zero => cases v <;> simp [frz] at hf
    | succ k => exact ⟨k, rfl⟩
  simp only [Nat.add_sub_cancel] at cells flats eltsz
  cases v <;> simp only [frz] at hf
  case bool b => simp at hf; subst hf; exact hV.cut hlt
  case int q n => simp at hf; subst hf; exact hV.cut hlt
  case str s => simp at hf; subst hf; exact hV.cut hlt
  case nilp => simp at hf; subst hf; exact hV.cut hlt
  case nilm => simp at hf; subst hf; exact hV.cut hlt
  case nilf => simp at hf; subst hf; exact hV.cut hlt
  case nili => simp at hf; subst hf; exact hV.cut hlt
  case mapr n => simp at hf; subst hf; exact hV.cut hlt
  case clo g cs => simp at hf; subst hf; exact hV.cut hlt
  case nils =>
    simp at hf; subst hf
    cases hV with
    | nils a => exact .lst0 a 0
  case agg cs =>
    simp only [Option.map_eq_some_iff] at hf
    obtain ⟨cs', hcs, rfl⟩ := hf
    cases hV with
    | agg _ us hl hv =>
      have g := (frzs_get hcs).1
      refine .agg _ _ (by rw [g, hl]) fun j c' u hc' hu => ?_
      obtain ⟨c, hc⟩ := getD_frz g hc'
      exact cells hcs (by omega) (by simpa [AV.lt] using hlt) j c c' u hc hc' (hv j c u hc hu)
  case tup cs =>
    simp only [Option.map_eq_some_iff] at hf
    obtain ⟨cs', hcs, rfl⟩ := hf
    cases hV with
    | tup _ us hl hv =>
      have g := (frzs_get hcs).1
      refine .tup _ _ (by rw [g, hl]) fun j c' u hc' hu => ?_
      obtain ⟨c, hc⟩ := getD_frz g hc'
      exact cells hcs (by omega) (by simpa [AV.lt] using hlt) j c c' u hc hc' (hv j c u hc hu)
  case lst cs =>
    simp only [Option.map_eq_some_iff] at hf
    obtain ⟨cs', hcs, rfl⟩ := hf
    obtain ⟨g1, g2⟩ := flats hcs (by omega) (by simpa [AV.lt] using hlt)
    have g := (frzs_get hcs).1
    cases hV with
    | lst0 a cap =>
      have : cs' = [] := List.length_eq_zero_iff.1 (by simpa using g)
      subst this; exact .lst0 a cap
    | lst _ a cap sz hc hs hz us hu hv =>
      rw [← g]
      refine .lst cs' a cap sz (by omega) hs (eltsz hcs hz) us (fun j c' hc' => ?_) fun j c' hc' => ?_
      · obtain ⟨c, hc⟩ := getD_frz g1 hc'
        exact ⟨(hu j c hc).1, .inl (hu j c hc).2⟩
      · obtain ⟨c, hc⟩ := getD_frz g1 hc'
        exact g2 j c c' _ hc hc' (hv j c hc)
  case cref cs =>
    simp only [Option.map_eq_some_iff] at hf
    obtain ⟨cs', hcs, rfl⟩ := hf
    have g := (frzs_get hcs).1
    cases hV with
    | cref _ a hs us hu hv =>
      refine .cref cs' a hs us (fun j c' hc' => ?_) fun j c' hc' => ?_
      · obtain ⟨c, hc⟩ := getD_frz g hc'
        exact ⟨(hu j c hc).1, .inl (hu j c hc).2⟩
      · obtain ⟨c, hc⟩ := getD_frz g hc'
        exact cells hcs (by omega) (by simpa [AV.lt] using hlt) j c c' _ hc hc' (hv j c hc)
  case ptr n ver i o =>
    split at hf
    · simp at hf; subst hf; exact hV.cut hlt
    · rename_i hnm
      simp only [Bool.not_true, Bool.or_false, decide_eq_true_eq, Nat.not_lt] at hnm
      cases hl : look h n ver with
      | none => rw [hl] at hf; simp at hf
      | some q =>
        obtain ⟨e, g, es⟩ := q
        rw [hl] at hf; dsimp only at hf
        split at hf
        · rename_i x hx
          simp only [Option.map_eq_some_iff] at hf
          obtain ⟨cs', hcs, rfl⟩ := hf
          obtain ⟨b, rfl, hb⟩ := hV.ptr_inv hl
          have hh := look_eq hl
          obtain ⟨us, el, fr, hw, _, _, hC⟩ := hR.cells hb hh
          have g := (frzs_get hcs).1
          refine .cref cs' _ rfl (fun j => us.getD (i * e + o + j) undef) (fun j c' hc' => ?_) fun j c' hc' => ?_
          · obtain ⟨c, hc⟩ := getD_frz g hc'
            rw [List.getElem?_drop] at hc
            obtain ⟨y, hy, hVc⟩ := hC.val i x _ c hx hc
            refine ⟨?_, .inr ⟨n, hnm, hb⟩⟩
            rw [cell_of hw]
            rw [← Nat.add_assoc] at hy
            simp [hy, Array.getD_eq_getD_getElem?]
          · obtain ⟨c, hc⟩ := getD_frz g hc'
            have hc2 := hc
            rw [List.getElem?_drop] at hc2
            obtain ⟨y, hy, hVc⟩ := hC.val i x _ c hx hc2
            rw [← Nat.add_assoc] at hy
            have : us.getD (i * e + o + j) undef = y := by simp [hy, Array.getD_eq_getD_getElem?]
            show V _ _ _ _ c' (us.getD (i * e + o + j) undef)
            rw [this]
            exact cells hcs (by omega) (by simpa [AV.lt] using hlt) j c c' _ hc hc' hVc
        · simp at hf
  case slc n ver sz i o len cap =>
    split at hf
    · simp at hf; subst hf; exact hV.cut hlt
    · rename_i hnm
      have hnm : m ≤ n := by omega
      split at hf
      · rename_i xs hxs
        simp only [Option.map_eq_some_iff] at hf
        obtain ⟨cs', hcs, rfl⟩ := hf
        obtain ⟨hxl, hxz, b, a, c, rfl, hlc, hb, hat⟩ := slc_cells hR hxs hV
        obtain ⟨g1, g2⟩ := flats hcs (by omega) (by simpa [AV.lt] using hlt)
        have g := (frzs_get hcs).1
        by_cases h0 : len = 0
        · have : cs' = [] := List.length_eq_zero_iff.1 (by omega)
          subst this; subst h0; exact .lst0 a c
        · obtain ⟨off, rfl, hcell⟩ := hat h0
          have e : cs'.length = len := by omega
          rw [← e]
          refine .lst cs' _ c sz (by omega) rfl (eltsz hcs hxz) (fun j => (w.cell? ⟨b, off + j, none⟩).getD undef) (fun j c' hc' => ?_) fun j c' hc' => ?_
          · obtain ⟨c0, hc0⟩ := getD_frz g1 hc'
            obtain ⟨y, hy, hVc⟩ := hcell j c0 hc0
            exact ⟨by simp [hy], .inr ⟨n, hnm, hb⟩⟩
          · obtain ⟨c0, hc0⟩ := getD_frz g1 hc'
            obtain ⟨y, hy, hVc⟩ := hcell j c0 hc0
            show V _ _ _ _ c' ((w.cell? ⟨b, off + j, none⟩).getD undef)
            rw [hy]
            exact g2 j c0 c' _ hc0 hc' hVc
      · simp at hf
end
end Go.Eng

/- The engine, part G6: results; the end of a call. -/
namespace Go.Eng
set_option linter.unusedSectionVars false
set_option linter.unusedSimpArgs false

section
variable {RP : RPred} {β β0 : Beta} {h h0 : Heap} {F F0 : Frz} {w w0 w' : World} {P : Program} {C : Cfg} {f : Nat}

theorem TmRel.getD {tm : Tm} {ts : Array Value} (hT : TmRel β h F w tm ts) (t : Nat) : V β h F w (tm.getD t undefA) (ts.getD t undef) := by
  rw [List.getD_eq_getElem?_getD, Array.getD_eq_getD_getElem?]
  cases h1 : tm[t]? with
  | none =>
    have : ts[t]? = none := by rw [Array.getElem?_eq_none_iff, ← hT.len]; exact List.getElem?_eq_none_iff.1 h1
    rw [this]; exact V.undef
  | some c =>
    have hlt : t < ts.size := by rw [← hT.len]; exact (List.getElem?_eq_some_iff.1 h1).1
    rw [Array.getElem?_eq_getElem hlt]
    exact hT.val t c _ h1 (Array.getElem?_eq_getElem hlt)

theorem results_list (hP : TypesOK P) (hR : Rel RP β F h w) {tm : Tm} {ts : Array Value} (hT : TmRel β h F w tm ts) : ∀ {l : List ResultVar} {rs : List (Nat × Option (Nat × Bool))} {vs : List AV},
    (l.mapM fun
      | .tmp t => some (t, none)
      | .cell a t => do pure (a, some (← szOf P t, aggT P t))) = some rs →
    (rs.mapM fun (t, a) => match a with
      | none => some (tm.getD t undefA)
      | some (sz, ag) => loadA h sz ag (tm.getD t undefA)) = some vs →
    ∃ us : List Value, ((l.mapM fun
      | .tmp t => pure (ts.getD t undef)
      | .cell a t => do loadVar t (← asAddr (ts.getD a undef)) : Sem (List Value))).run P w = .ok us w ∧ us.length = vs.length ∧ ∀ (j : Nat) (c : AV) (u : Value), vs[j]? = some c → us[j]? = some u → V β h F w c u := by
  intro l
  induction l with
  | nil =>
    intro rs vs hrs hvs
    simp at hrs; subst hrs
    simp at hvs; subst hvs
    exact ⟨[], by simp, rfl, by simp⟩
  | cons r l ih =>
    intro rs vs hrs hvs
    simp only [List.mapM_cons, Option.bind_eq_bind, Option.bind_eq_some_iff, Option.pure_def, Option.some.injEq] at hrs
    obtain ⟨q, hq, rs', hrs', rfl⟩ := hrs
    simp only [List.mapM_cons, Option.bind_eq_bind, Option.bind_eq_some_iff, Option.pure_def, Option.some.injEq] at hvs
    obtain ⟨v, hv, vs', hvs', rfl⟩ := hvs
    obtain ⟨us, h1, h2, h3⟩ := ih hrs' hvs'
    have one : ∃ u, ((match r with
      | .tmp t => pure (ts.getD t undef)
      | .cell a t => do loadVar t (← asAddr (ts.getD a undef)) : Sem Value)).run P w = .ok u w ∧ V β h F w v u := by
      cases r with
      | tmp t =>
        simp at hq; subst hq
        simp only [Option.some.injEq] at hv
        subst hv
        exact ⟨_, by simp, hT.getD t⟩
      | cell a t =>
        simp only [Option.bind_eq_some_iff, Option.some.injEq] at hq
        obtain ⟨sz, hsz, rfl⟩ := hq
        dsimp only at hv
        obtain ⟨ru, g1, g2⟩ := loadA_sound hP hR hsz (hT.getD a) hv
        refine ⟨ru, ?_, g2⟩
        obtain ⟨ad, hu⟩ : ∃ ad, ts.getD a undef = .pointer (some ad) := by
          generalize ts.getD a undef = u at g1
          unfold Instr.loadAt at g1
          cases u with
          | pointer p =>
            cases p with
            | some ad => exact ⟨ad, rfl⟩
            | none => simp [Instr.sureAddr] at g1
          | _ => simp [Instr.sureAddr] at g1
        rw [hu] at g1
        show Sem.run P (do loadVar t (← asAddr (ts.getD a undef))) w = _
        rw [hu]
        simpa [Instr.loadAt, Instr.sureAddr, asAddr] using g1
    obtain ⟨u, g1, g2⟩ := one
    refine ⟨u :: us, ?_, by simp [h2], fun j c x hc hx => ?_⟩
    · simp only [List.mapM_cons, Sem.run_bind]
      rw [g1]
      simp only [Result.andThen_ok, Sem.run_bind, h1, Sem.run_pure]
    · cases j with
      | zero => simp at hc hx; subst hc; subst hx; exact g2
      | succ j => exact h3 j c x (by simpa using hc) (by simpa using hx)

theorem results_ok (hP : TypesOK P) (hR : Rel RP β F h w) {tm : Tm} {ts : Array Value} (hT : TmRel β h F w tm ts) {fn : Func} {rs : List (Nat × Option (Nat × Bool))} {vs : List AV}
    (hrs : (fn.results.toList.mapM fun
      | .tmp t => some (t, none)
      | .cell a t => do pure (a, some (← szOf P t, aggT P t))) = some rs)
    (hvs : (rs.mapM fun (t, a) => match a with
      | none => some (tm.getD t undefA)
      | some (sz, ag) => loadA h sz ag (tm.getD t undefA)) = some vs) :
    ∃ u, (results fn ts).run P w = .ok u w ∧ V β h F w (oneOr vs) u := by
  obtain ⟨us, h1, h2, h3⟩ := results_list hP hR hT hrs hvs
  have hres : results fn ts = ((fn.results.mapM fun
      | .tmp t => pure (ts.getD t undef)
      | .cell a t => do loadVar t (← asAddr (ts.getD a undef)) : Sem (Array Value)) >>= fun vs => pure (if h : vs.size = 1 then vs[0] else .tuple vs)) := rfl
  have h1' : (fn.results.mapM fun
      | .tmp t => pure (ts.getD t undef)
      | .cell a t => do loadVar t (← asAddr (ts.getD a undef)) : Sem (Array Value)).run P w = .ok us.toArray w := by
    rw [Array.mapM_eq_mapM_toList]
    simp only [Sem.run_map, h1]
    rfl
  simp only [hres, Sem.run_bind, h1', Result.andThen_ok, Sem.run_pure]
  match vs, us, h2, h3 with
  | [v], [u], _, h3 => exact ⟨u, rfl, h3 0 v u rfl rfl⟩
  | [], [], _, h3 => exact ⟨_, rfl, .tup _ _ rfl (by simp)⟩
  | v :: v' :: vs, u :: u' :: us, h2, h3 => exact ⟨.tuple (u :: u' :: us).toArray, by simp, .tup _ _ (by simpa using h2.symm) fun j c x hc hx => h3 j c x hc (by simpa using hx)⟩

/-- THE END OF A CALL -/
theorem finish_ok (hP : TypesOK P) (hR0 : Rel RP β0 F0 h0 w0) (hG0 : GlobOK C β0 h0 F0 w0) {wr : List Nat} (hI : Inv RP C β0 F0 h0 w0 wr β F h w) {tm : Tm} {ts : Array Value} (hT : TmRel β h F w tm ts) {fn : Func} {af : AFunc}
    (hrs : (fn.results.toList.mapM fun
      | .tmp t => some (t, none)
      | .cell a t => do pure (a, some (← szOf P t, aggT P t))) = some af.results)
    {v : AV} {h' : Heap} {ws : List Nat} (hf : finish af h0 (some (tm, h, wr)) = some (v, h', ws)) :
    ∃ u β' F', (results fn ts).run P w = .ok u w ∧ Inv RP C β0 F0 h0 w0 ws β' F' h' w ∧ V β' h' F' w v u := by
  unfold finish at hf
  dsimp only at hf
  split at hf
  · simp at hf
  · rename_i rs hvs
    obtain ⟨u, h1, h2⟩ := results_ok hP hI.rel hT hrs hvs
    split at hf
    · simp only [Option.some.injEq, Prod.mk.injEq] at hf
      obtain ⟨rfl, rfl, rfl⟩ := hf
      exact ⟨u, β, F, h1, hI, h2⟩
    · split at hf
      · simp at hf
      · rename_i v' hfz
        split at hf
        · rename_i hc
          simp only [Option.some.injEq, Prod.mk.injEq] at hf
          obtain ⟨rfl, rfl, rfl⟩ := hf
          simp only [Bool.and_eq_true] at hc
          obtain ⟨c1, c2⟩ := hc
          refine ⟨u, _, _, h1, hI.cut hR0 (fun n hn B hB => ?_) hG0, frz_sound hI.rel _ _ _ _ hfz c1 (h2)⟩
          have := List.all_eq_true.1 c2 n hn
          rw [hB] at this
          cases B <;> simp at this <;> simp [ltBlk]
          · exact this
          · exact this
        · simp at hf
end
end Go.Eng

/- The engine, part G7: what a call is lent; normal forms. -/
namespace Go.Eng
set_option linter.unusedSectionVars false
set_option linter.unusedSimpArgs false

section
variable {RP : RPred} {β β0 : Beta} {h h0 : Heap} {F F0 : Frz} {w w0 w' : World} {P : Program} {C : Cfg} {f : Nat}

theorem nrms_map : ∀ l : List AV, AV.nrms l = l.map AV.nrm
  | [] => by simp [AV.nrms]
  | v :: l => by simp [AV.nrms, nrms_map l]

theorem nrm_cells (x : AV) : x.nrm.cells = x.cells.map AV.nrm := by
  cases x <;> simp [AV.nrm, AV.cells, nrms_map]

theorem nrm_flat : ∀ l : List AV, flatC (l.map AV.nrm) = (flatC l).map AV.nrm
  | [] => by simp [flatC]
  | v :: l => by
    have ih := nrm_flat l
    simp only [flatC] at ih
    simp only [flatC, List.map_cons, List.flatten_cons, nrm_cells, List.map_append, ih]

theorem map_get_inv {l : List AV} {j : Nat} {c' : AV} (hc : (l.map AV.nrm)[j]? = some c') : ∃ c, l[j]? = some c ∧ c' = c.nrm := by
  simp only [List.getElem?_map, Option.map_eq_some_iff] at hc
  obtain ⟨c, h1, rfl⟩ := hc
  exact ⟨c, h1, rfl⟩

theorem V.nrm {v : AV} {u : Value} (hv : V β h F w v u) : V β h F w v.nrm u := by
  induction hv with
  | bool b => exact .bool b
  | int k n => exact .int k n
  | str s => exact .str s
  | nilp => exact .nilp
  | nils a => exact .lst0 a 0
  | nilm => exact .nilm
  | nilf => exact .nilf
  | nili => exact .nili
  | agg cs us hl hv ih =>
    simp only [AV.nrm, nrms_map]
    exact .agg _ us (by simpa using hl) fun j c' u hc hu => let ⟨c, h1, h2⟩ := map_get_inv hc; h2 ▸ ih j c u h1 hu
  | tup cs us hl hv ih =>
    simp only [AV.nrm, nrms_map]
    exact .tup _ us (by simpa using hl) fun j c' u hc hu => let ⟨c, h1, h2⟩ := map_get_inv hc; h2 ▸ ih j c u h1 hu
  | clo f cs us hl hv ih => exact .clo f cs us hl hv
  | lst0 a cap => exact .lst0 a cap
  | lst xs a cap sz hc hs hz us hu hv ih =>
    simp only [AV.nrm, nrms_map]
    have := V.lst (β := β) (h := h) (F := F) (w := w) (xs.map AV.nrm) a cap sz (by simpa using hc) hs (fun x hx => by
      obtain ⟨y, hy, rfl⟩ := List.mem_map.1 hx
      rw [nrm_cells]; simpa using hz y hy) us
      (fun j c' hc' => by
        rw [nrm_flat] at hc'
        obtain ⟨c, h1, rfl⟩ := map_get_inv hc'
        exact hu j c h1)
      (fun j c' hc' => by
        rw [nrm_flat] at hc'
        obtain ⟨c, h1, rfl⟩ := map_get_inv hc'
        exact ih j c h1)
    simpa using this
  | cref cs a hs us hu hv ih =>
    simp only [AV.nrm, nrms_map]
    exact .cref _ a hs us (fun j c' hc' => by
        obtain ⟨c, h1, rfl⟩ := map_get_inv hc'
        exact hu j c h1)
      (fun j c' hc' => by
        obtain ⟨c, h1, rfl⟩ := map_get_inv hc'
        exact ih j c h1)
  | ptr n ver i o b e g es hb hh => exact .ptr n ver i o b e g es hb hh
  | repl n o b ps hb hh => exact .repl n o b ps hb hh
  | ptrS n ver i o a hs => exact .ptrS n ver i o a hs
  | slcX n ver sz i o len c b e g es hb hh hl hf => exact .slcX n ver sz i o len c b e g es hb hh hl hf
  | slcG n ver sz i len c b a es us el fr hb hh hl hw hf hk ha => exact .slcG n ver sz i len c b a es us el fr hb hh hl hw hf hk ha
  | slcS n ver sz i o len cap a c hs => exact .slcS n ver sz i o len cap a c hs
  | mapr n b es hb hh => exact .mapr n b es hb hh
  | mapS n b hs => exact .mapS n b hs

/-! lending -/
def lendB (β : Beta) (ns : List Nat) : Beta := fun n => if n ∈ ns then none else β n
def lendF (β : Beta) (F : Frz) (ns : List Nat) : Frz := fun b o => F b o ∨ ∃ n ∈ ns, β n = some b

theorem lend_len : ∀ (ns : List Nat) (h : Heap), (lend h ns).length = h.length
  | [], _ => rfl
  | n :: ns, h => by
    show (lend (h.set n .dead) ns).length = _
    rw [lend_len ns]; simp

theorem lend_out : ∀ {ns : List Nat} {h : Heap} {n : Nat}, n ∉ ns → (lend h ns)[n]? = h[n]?
  | [], _, _, _ => rfl
  | k :: ns, h, n, hn => by
    show (lend (h.set k .dead) ns)[n]? = _
    rw [lend_out (by simp at hn; exact hn.2), List.getElem?_set_ne (by simp at hn; exact fun e => hn.1 e.symm)]

theorem lend_in : ∀ {ns : List Nat} {h : Heap} {n : Nat}, n ∈ ns → n < h.length → (lend h ns)[n]? = some .dead
  | k :: ns, h, n, hn, hl => by
    show (lend (h.set k .dead) ns)[n]? = _
    by_cases hm : n ∈ ns
    · exact lend_in hm (by simpa using hl)
    · have : n = k := (List.mem_cons.1 hn).resolve_right hm
      subst this
      rw [lend_out hm, List.getElem?_set_self hl]

theorem stale_lend {ns : List Nat} {n ver : Nat} (hs : Stale h n ver) : Stale (lend h ns) n ver := by
  by_cases hn : n ∈ ns
  · exact .inl (lend_in hn hs.lt)
  · unfold Stale; rw [lend_out hn]; exact hs

theorem lendB_out {ns : List Nat} {n : Nat} (hn : n ∉ ns) : lendB β ns n = β n := by simp [lendB, hn]

theorem V.lend {ns : List Nat} {v : AV} {u : Value} (hv : V β h F w v u) : V (lendB β ns) (lend h ns) (lendF β F ns) w v u := by
  have st : ∀ {n : Nat} {B : Blk} (ver : Nat), n ∈ ns → h[n]? = some B → Stale (Eng.lend h ns) n ver := fun ver hn hB => .inl (lend_in hn (List.getElem?_eq_some_iff.1 hB).1)
  induction hv with
  | bool b => exact .bool b
  | int k n => exact .int k n
  | str s => exact .str s
  | nilp => exact .nilp
  | nils a => exact .nils a
  | nilm => exact .nilm
  | nilf => exact .nilf
  | nili => exact .nili
  | agg cs us hl hv ih => exact .agg cs us hl ih
  | tup cs us hl hv ih => exact .tup cs us hl ih
  | clo f cs us hl hv ih => exact .clo f cs us hl ih
  | lst0 a cap => exact .lst0 a cap
  | lst xs a cap sz hc hs hz us hu hv ih => exact .lst xs a cap sz hc hs hz us (fun j c hj => ⟨(hu j c hj).1, .inl (hu j c hj).2⟩) ih
  | cref cs a hs us hu hv ih => exact .cref cs a hs us (fun j c hj => ⟨(hu j c hj).1, .inl (hu j c hj).2⟩) ih
  | ptr n ver i o b e g es hb hh =>
    by_cases hn : n ∈ ns
    · exact .ptrS n ver i o _ (st ver hn hh)
    · exact .ptr n ver i o b e g es (by rw [lendB_out hn]; exact hb) (by rw [lend_out hn]; exact hh)
  | repl n o b ps hb hh =>
    by_cases hn : n ∈ ns
    · exact .ptrS n 0 0 o _ (st 0 hn hh)
    · exact .repl n o b ps (by rw [lendB_out hn]; exact hb) (by rw [lend_out hn]; exact hh)
  | ptrS n ver i o a hs => exact .ptrS n ver i o a (stale_lend hs)
  | slcX n ver sz i o len c b e g es hb hh hl hf =>
    by_cases hn : n ∈ ns
    · exact .slcS n ver sz i o len _ _ _ (st ver hn hh)
    · exact .slcX n ver sz i o len c b e g es (by rw [lendB_out hn]; exact hb) (by rw [lend_out hn]; exact hh) hl hf
  | slcG n ver sz i len c b a es us el fr hb hh hl hw hf hk ha =>
    by_cases hn : n ∈ ns
    · exact .slcS n ver sz i 0 len _ _ _ (st ver hn hh)
    · exact .slcG n ver sz i len c b a es us el fr (by rw [lendB_out hn]; exact hb) (by rw [lend_out hn]; exact hh) hl hw hf hk ha
  | slcS n ver sz i o len cap a c hs => exact .slcS n ver sz i o len cap a c (stale_lend hs)
  | mapr n b es hb hh =>
    by_cases hn : n ∈ ns
    · exact .mapS n b (lend_in hn (List.getElem?_eq_some_iff.1 hh).1)
    · exact .mapr n b es (by rw [lendB_out hn]; exact hb) (by rw [lend_out hn]; exact hh)
  | mapS n b hs =>
    by_cases hn : n ∈ ns
    · exact .mapS n b (lend_in hn (List.getElem?_eq_some_iff.1 hs).1)
    · exact .mapS n b (by rw [lend_out hn]; exact hs)

theorem Rel.lend (hR : Rel RP β F h w) (ns : List Nat) : Rel RP (lendB β ns) (lendF β F ns) (lend h ns) w := by
  have inv : ∀ {n b : Nat}, lendB β ns n = some b → n ∉ ns ∧ β n = some b := by
    intro n b hn
    unfold lendB at hn
    split at hn
    · simp at hn
    · exact ⟨by assumption, hn⟩
  exact {
    lt := fun n b hn => hR.lt n b (inv hn).2
    blk := fun n b B hn hB => by
      obtain ⟨h1, h2⟩ := inv hn
      rw [lend_out h1] at hB
      have hb := hR.blk n b B h2 hB
      cases B with
      | cells v e g es =>
        obtain ⟨us, el, fr, h1, h2, h3, h4, h5, h6⟩ := hb
        exact ⟨us, el, fr, h1, h2, h3, h4, h5, fun j c hj => let ⟨u, hu, hv⟩ := h6 j c hj; ⟨u, hu, hv.lend⟩⟩
      | map es =>
        obtain ⟨ms, clock, h1, h2, h3⟩ := hb
        exact ⟨ms, clock, h1, h2, fun j k v m hj hm => let ⟨a, b⟩ := h3 j k v m hj hm; ⟨a.lend, b.lend⟩⟩
      | repl ps => exact RP.mono hb (fun b o hf => .inl hf) (fun _ _ _ => rfl) rfl
      | dead => trivial
    inj := fun n n' b hn hn' => hR.inj n n' b (inv hn).2 (inv hn').2
    out := fun n b hn => by rw [lend_len]; exact hR.out n b (inv hn).2
    apart := fun n b o hn hF => by
      obtain ⟨h1, h2⟩ := inv hn
      rcases hF with hF | ⟨k, hk, hb⟩
      · exact hR.apart n b o h2 hF
      · have := hR.inj n k b h2 hb
        subst this; exact h1 hk
    cell := fun b o hF => by
      rcases hF with hF | ⟨k, hk, hb⟩
      · exact hR.cell b o hF
      · exact hR.lt k b hb }

theorem lendVs_get : ∀ {l l' : List AV}, lendVs h l = some l' → l'.length = l.length ∧ ∀ (j : Nat) (x x' : AV), l[j]? = some x → l'[j]? = some x' → lendV h x = some x'
  | [], l', hf => by simp [lendVs] at hf; subst hf; exact ⟨rfl, by simp⟩
  | v :: l, l', hf => by
    unfold lendVs at hf
    split at hf
    · rename_i v' hv'
      split at hf
      · rename_i l2 hl2
        simp at hf; subst hf
        obtain ⟨h1, h2⟩ := lendVs_get hl2
        refine ⟨by simp [h1], fun j x x' hx hx' => ?_⟩
        cases j with
        | zero => simp at hx hx'; subst hx; subst hx'; exact hv'
        | succ j => exact h2 j x x' (by simpa using hx) (by simpa using hx')
      · simp at hf
    · simp at hf

theorem blksL_mem : ∀ {l : List AV} {j : Nat} {x : AV} {n : Nat}, l[j]? = some x → n ∈ x.blks → n ∈ AV.blksL l
  | v :: l, 0, x, n, hj, hn => by simp at hj; subst hj; simp [AV.blksL, hn]
  | v :: l, j + 1, x, n, hj, hn => by
    simp only [AV.blksL, List.mem_append]
    exact .inr (blksL_mem (by simpa using hj) hn)
  | [], j, x, n, hj, hn => by simp at hj

theorem lendV_sound (hR : Rel RP β F h w) {ns : List Nat} {v : AV} {u : Value} (hv : V β h F w v u) : ∀ {v' : AV}, lendV h v = some v' → (∀ n ∈ v.blks, n ∈ ns) → V (lendB β ns) (lend h ns) (lendF β F ns) w v' u := by
  have slc : ∀ {n ver sz i o len : Nat} {cap : Option Nat} {u : Value} {v' : AV}, V β h F w (.slc n ver sz i o len cap) u → lendV h (.slc n ver sz i o len cap) = some v' → (∀ k ∈ (AV.slc n ver sz i o len cap).blks, k ∈ ns) → V (lendB β ns) (lend h ns) (lendF β F ns) w v' u := by
    intro n ver sz i o len cap u v' hv hl hb
    have hn : n ∈ ns := hb n (by simp [AV.blks])
    simp only [lendV, Option.map_eq_some_iff] at hl
    obtain ⟨xs, hxs, rfl⟩ := hl
    obtain ⟨hxl, hxz, b, a, c, rfl, hlc, hb, hat⟩ := slc_cells hR hxs hv
    rw [nrms_map]
    by_cases h0 : len = 0
    · subst h0
      have : xs = [] := List.length_eq_zero_iff.1 hxl
      subst this; exact .lst0 a c
    · obtain ⟨off, rfl, hcell⟩ := hat h0
      have := V.lst (β := lendB β ns) (h := Eng.lend h ns) (F := lendF β F ns) (w := w) (xs.map AV.nrm) ⟨b, off, none⟩ c sz (by simp; omega) rfl (fun x hx => by
        obtain ⟨y, hy, rfl⟩ := List.mem_map.1 hx
        rw [nrm_cells]; simpa using hxz y hy) (fun j => (w.cell? ⟨b, off + j, none⟩).getD undef)
        (fun j c' hc' => by
          rw [nrm_flat] at hc'
          obtain ⟨c, h1, rfl⟩ := map_get_inv hc'
          obtain ⟨y, hy, hVc⟩ := hcell j c h1
          exact ⟨by simp [hy], .inr ⟨n, hn, hb⟩⟩)
        (fun j c' hc' => by
          rw [nrm_flat] at hc'
          obtain ⟨c, h1, rfl⟩ := map_get_inv hc'
          obtain ⟨y, hy, hVc⟩ := hcell j c h1
          show V _ _ _ _ _ ((w.cell? ⟨b, off + j, none⟩).getD undef)
          rw [hy]
          exact hVc.lend.nrm)
      rw [List.length_map, hxl] at this
      exact this
  induction hv with
  | agg cs us hl hv ih =>
    intro v' hl' hb
    simp only [lendV, Option.map_eq_some_iff] at hl'
    obtain ⟨cs', hcs, rfl⟩ := hl'
    obtain ⟨g1, g2⟩ := lendVs_get hcs
    refine .agg cs' us (by rw [g1, hl]) fun j c' u hc' hu => ?_
    obtain ⟨c, hc⟩ := getD_frz g1 hc'
    exact ih j c u hc hu (g2 j c c' hc hc') fun n hn => hb n (by simp only [AV.blks]; exact blksL_mem hc hn)
  | slcX n ver sz i o len c b e g es hb hh hl hf => intro v' hl' hb'; exact slc (.slcX n ver sz i o len c b e g es hb hh hl hf) hl' hb'
  | slcG n ver sz i len c b a es us el fr hb hh hl hw hf hk ha => intro v' hl' hb'; exact slc (.slcG n ver sz i len c b a es us el fr hb hh hl hw hf hk ha) hl' hb'
  | slcS n ver sz i o len cap a c hs => intro v' hl' hb'; exact slc (.slcS n ver sz i o len cap a c hs) hl' hb'
  | bool b => intro v' hl' _; simp [lendV] at hl'; subst hl'; exact V.nrm (.bool b)
  | int k n => intro v' hl' _; simp [lendV] at hl'; subst hl'; exact V.nrm (.int k n)
  | str s => intro v' hl' _; simp [lendV] at hl'; subst hl'; exact V.nrm (.str s)
  | nilp => intro v' hl' _; simp [lendV] at hl'; subst hl'; exact V.nrm .nilp
  | nils a => intro v' hl' _; simp [lendV] at hl'; subst hl'; exact V.nrm (.nils a)
  | nilm => intro v' hl' _; simp [lendV] at hl'; subst hl'; exact V.nrm .nilm
  | nilf => intro v' hl' _; simp [lendV] at hl'; subst hl'; exact V.nrm .nilf
  | nili => intro v' hl' _; simp [lendV] at hl'; subst hl'; exact V.nrm .nili
  | tup cs us hl hv ih => intro v' hl' _; simp [lendV] at hl'; subst hl'; exact (V.lend (.tup cs us hl hv)).nrm
  | clo f cs us hl hv ih => intro v' hl' _; simp [lendV] at hl'; subst hl'; exact (V.lend (.clo f cs us hl hv)).nrm
  | lst0 a cap => intro v' hl' _; simp [lendV] at hl'; subst hl'; exact V.nrm (.lst0 a cap)
  | lst xs a cap sz hc hs hz us hu hv ih => intro v' hl' _; simp [lendV] at hl'; subst hl'; exact (V.lend (.lst xs a cap sz hc hs hz us hu hv)).nrm
  | cref cs a hs us hu hv ih => intro v' hl' _; simp [lendV] at hl'; subst hl'; exact (V.lend (.cref cs a hs us hu hv)).nrm
  | ptr n ver i o b e g es hb hh => intro v' hl' _; simp [lendV] at hl'; subst hl'; exact (V.lend (.ptr n ver i o b e g es hb hh)).nrm
  | repl n o b ps hb hh => intro v' hl' _; simp [lendV] at hl'; subst hl'; exact (V.lend (.repl n o b ps hb hh)).nrm
  | ptrS n ver i o a hs => intro v' hl' _; simp [lendV] at hl'; subst hl'; exact (V.lend (.ptrS n ver i o a hs)).nrm
  | mapr n b es hb hh => intro v' hl' _; simp [lendV] at hl'; subst hl'; exact (V.lend (.mapr n b es hb hh)).nrm
  | mapS n b hs => intro v' hl' _; simp [lendV] at hl'; subst hl'; exact (V.lend (.mapS n b hs)).nrm

/-- plain data says the same in each state -/
theorem V.flat {v : AV} {u : Value} (hv : V β h F w v u) : v.flat = true → ∀ {β' : Beta} {h' : Heap} {F' : Frz} {w' : World}, V β' h' F' w' v u := by
  have get : ∀ {l : List AV} {j : Nat} {c : AV}, AV.flats l = true → l[j]? = some c → c.flat = true := by
    intro l
    induction l with
    | nil => intro j c _ hj; simp at hj
    | cons x l ih =>
      intro j c hl hj
      simp only [AV.flats, Bool.and_eq_true] at hl
      cases j with
      | zero => simp at hj; subst hj; exact hl.1
      | succ j => exact ih hl.2 (by simpa using hj)
  induction hv with
  | bool b => intros; exact .bool b
  | int k n => intros; exact .int k n
  | str s => intros; exact .str s
  | nilp => intros; exact .nilp
  | nils a => intros; exact .nils a
  | nilm => intros; exact .nilm
  | nilf => intros; exact .nilf
  | nili => intros; exact .nili
  | agg cs us hl hv ih => intro hf β' h' F' w'; simp only [AV.flat] at hf; exact .agg cs us hl fun j c u hc hu => ih j c u hc hu (get hf hc)
  | tup cs us hl hv ih => intro hf β' h' F' w'; simp only [AV.flat] at hf; exact .tup cs us hl fun j c u hc hu => ih j c u hc hu (get hf hc)
  | _ => intro hf; simp [AV.flat] at hf

/-- memory that stayed -/
theorem grown_after (hR : Rel RP β F h w) (hold : ∀ b, b < w.heap.size → w'.heap[b]? = w.heap[b]?) (hsz : w.heap.size ≤ w'.heap.size) (hs : Beside w w') : Rel RP β F h w' ∧ Ext (fun _ => False) β F h w β F h w' := by
  have hE : Ext (fun _ => False) β F h w β F h w' := {
    len := Nat.le_refl _
    blk := fun n B' hB' => ⟨B', hB', .inl ⟨Kept.refl _, rfl, fun b hb => by unfold sizeAt; rw [hold b (hR.lt n b hb)]⟩⟩
    frz := fun _ _ hf => hf
    old := fun b hb _ => hold b hb
    size := hsz
    news := fun n b hn => .inl ⟨hn, hR.out n b hn⟩
    newF := fun b o hf => .inl hf
    none_ := fun n _ hn => ⟨hn, rfl⟩
    os := hs.os
    output := hs.output
    tape := hs.tape }
  refine ⟨Rel.step hE hR ?_ ?_ hR.out hR.inj hR.apart ?_, hE⟩
  · intro n b B hb hB hnc; exact absurd ⟨hb, hB, fun h => h⟩ hnc
  · intro n b hb; exact Nat.lt_of_lt_of_le (hR.lt n b hb) hsz
  · intro b o hF hnF; exact absurd hF hnF
end
end Go.Eng

/- The engine, part G8: the evaluator is sound. -/
namespace Go.Eng
set_option linter.unusedSectionVars false
set_option linter.unusedSimpArgs false

section
variable (RP : RPred) (P : Program) (C : Cfg) (E : Env)

/-- an answer of a call, in the model -/
def Answers (g : Nat) (args : List AV) (h : Heap) (v : AV) (h' : Heap) (ws : List Nat) : Prop :=
  ∀ β F w us, Rel RP β F h w → GlobOK C β h F w → VL β h F w args us →
    CallsTo P g us w fun u w' => ∃ β' F', Inv RP C β F h w ws β' F' h' w' ∧ V β' h' F' w' v u

def RunOK (n : Nat) : Prop := ∀ g args h v h' ws, run E n g args h = some (v, h', ws) → Answers RP P C g args h v h' ws
def ExtOK : Prop := ∀ g gx, E.ext g = some gx → ∀ args h v h' ws, gx args h = some (v, h', ws) → Answers RP P C g args h v h' ws

structure EnvOK : Prop where
  fn : ∀ g af, E.fn g = some af → cfunc P C g = some af
  name : ∀ g af fn, E.fn g = some af → P.funcs[g]? = some fn → (fn.name == "runtime.NumGoroutine") = false
  ext : ExtOK RP P C E

/-- an item of the evaluator and one of the machine -/
inductive ItR (f : Nat) : AItem → Item → Prop
  | code (c : Code) : ItR f (.code (ccode P C f c)) (.code c)
  | inBlock (id : Nat) : ItR f (.inBlock id) (.inBlock id)
  | inLoop (c : Code) : ItR f (.inLoop (ccode P C f c)) (.inLoop c)
  | ops (ops : Array Oper) (i m : Nat) (hm : i + m = ops.size) : ItR f (.ops ((cregion P C f ops).drop i)) (.inRegion ops (List.range' i m))

inductive ItsR (f : Nat) : List AItem → List Item → Prop
  | nil : ItsR f [] []
  | cons {it : AItem} {x : Item} {its : List AItem} {k : List Item} (h : ItR P C f it x) (hk : ItsR f its k) : ItsR f (it :: its) (x :: k)

/-- where the evaluator comes to, the machine comes to -/
def Reaches (β0 : Beta) (F0 : Frz) (h0 : Heap) (w0 : World) (b : Frame) (a : Act) (todo : List Item) (cs : List Frame) (w : World) (tm' : Tm) (h' : Heap) (wr' : List Nat) : Prop :=
  ∃ todo' a' w' β' F', Steps P (lone (b.at a todo) cs w) (lone { b.at a' todo' with mode := .returning } cs w') ∧ Inv RP C β0 F0 h0 w0 wr' β' F' h' w' ∧ TmRel β' h' F' w' tm' a'.tmps ∧ a'.defers = a.defers

def GoOK (f n : Nat) : Prop := ∀ its todo, ItsR P C f its todo → ∀ β0 F0 h0 w0 wr β F h w tm a, Inv RP C β0 F0 h0 w0 wr β F h w → TmRel β h F w tm a.tmps →
  ∀ tm' h' wr', go E h0.length n its tm h wr = some (tm', h', wr') → ∀ b cs, Reaches RP P C β0 F0 h0 w0 b a todo cs w tm' h' wr'

/-- a region with an open order -/
def DrawOK : Prop := ∀ f n, RunOK RP P C E n → ∀ (ops : Array Oper), orderOK (withB (Region.before ops) 0 (cregion P C f ops)) = true → ∀ β0 F0 h0 w0 wr β F h w tm (a : Act), Inv RP C β0 F0 h0 w0 wr β F h w → TmRel β h F w tm a.tmps →
  ∀ tm' h' wr', dgo (run E n) h0.length (withB (Region.before ops) 0 (cregion P C f ops)) 0 h.length [] [] tm (h ++ laid (withB (Region.before ops) 0 (cregion P C f ops))) wr = some (tm', h', wr') → ∀ (b : Frame) id k cs,
    ∃ (a' : Act) (w' : World) (β' : Beta) (F' : Frz), Steps P (lone (b.at a (.code (.region id ops true) :: k)) cs w) (lone (b.at a' k) cs w') ∧ Inv RP C β0 F0 h0 w0 wr' β' F' h' w' ∧ TmRel β' h' F' w' tm' a'.tmps ∧ a'.defers = a.defers

variable {RP P C E}
variable {β β0 : Beta} {h h0 : Heap} {F F0 : Frz} {w w0 w' : World} {f : Nat}

theorem Reaches.head {b : Frame} {a a1 : Act} {todo todo1 : List Item} {cs : List Frame} {w1 : World} {tm' : Tm} {h' : Heap} {wr' : List Nat} (hs : Steps P (lone (b.at a todo) cs w) (lone (b.at a1 todo1) cs w1)) (hd : a1.defers = a.defers)
    (hr : Reaches RP P C β0 F0 h0 w0 b a1 todo1 cs w1 tm' h' wr') : Reaches RP P C β0 F0 h0 w0 b a todo cs w tm' h' wr' := by
  obtain ⟨todo', a', w', β', F', h1, h2, h3, h4⟩ := hr
  exact ⟨todo', a', w', β', F', hs.trans h1, h2, h3, h4.trans hd⟩

theorem exit_ok {id : Nat} : ∀ {its : List AItem} {todo : List Item}, ItsR P C f its todo → ∀ {k' : List AItem}, exitA id its = some k' → ∃ t', exitTo id todo = some t' ∧ ItsR P C f k' t' := by
  intro its todo hi
  induction hi with
  | nil => intro k' hx; simp [exitA] at hx
  | cons h hk ih =>
    intro k' hx
    cases h with
    | inBlock id' =>
      simp only [exitA, exitTo] at hx ⊢
      split at hx
      · rename_i he
        simp at hx; subst hx
        rw [if_pos he]; exact ⟨_, rfl, hk⟩
      · rename_i he
        rw [if_neg he]; exact ih hx
    | code c => simp only [exitA, exitTo] at hx ⊢; exact ih hx
    | inLoop c => simp only [exitA, exitTo] at hx ⊢; exact ih hx
    | ops ops i m hm => simp only [exitA, exitTo] at hx ⊢; exact ih hx

theorem go_step (hP : ProgOK P) (hD : DrawOK RP P C E) {n : Nat} (hrun : ∀ k ≤ n, RunOK RP P C E k) (hgo : ∀ f, ∀ k ≤ n, GoOK RP P C E f k) : GoOK RP P C E f (n + 1) := by
  intro its todo hits β0 F0 h0 w0 wr β F h w tm a hI hT tm' h' wr' hg b cs
  cases hits with
  | nil =>
    simp only [go, Option.some.injEq, Prod.mk.injEq] at hg
    obtain ⟨rfl, rfl, rfl⟩ := hg
    exact ⟨[], a, w, β, F, .one step_end, hI, hT, rfl⟩
  | cons hit hk =>
    rename_i it x its k
    cases hit with
    | inBlock id =>
      simp only [go] at hg
      exact Reaches.head (.one step_inBlock) rfl (hgo f n (Nat.le_refl _) _ _ hk _ _ _ _ _ _ _ _ _ _ _ hI hT _ _ _ hg b cs)
    | inLoop c =>
      simp only [go] at hg
      exact Reaches.head (.one step_inLoop) rfl (hgo f n (Nat.le_refl _) _ _ (.cons (.code c) (.cons (.inLoop c) hk)) _ _ _ _ _ _ _ _ _ _ _ hI hT _ _ _ hg b cs)
    | ops ops i m hm =>
      cases m with
      | zero =>
        have hd : (cregion P C f ops).drop i = [] := by
          apply List.drop_eq_nil_of_le
          simp [cregion]; omega
        rw [hd] at hg
        simp only [go] at hg
        exact Reaches.head (.one step_region_end) rfl (hgo f n (Nat.le_refl _) _ _ hk _ _ _ _ _ _ _ _ _ _ _ hI hT _ _ _ hg b cs)
      | succ m =>
        have hil : i < ops.size := by omega
        have hd : (cregion P C f ops).drop i = coper P C f ops ops[i] :: (cregion P C f ops).drop (i + 1) := by
          have hl : i < (cregion P C f ops).length := by simp [cregion]; exact hil
          rw [List.drop_eq_getElem_cons hl]
          simp [cregion]
        have ho : ops[i]? = some ops[i] := Array.getElem?_eq_getElem hil
        generalize ops[i] = o at hd ho
        rw [hd] at hg
        simp only [go] at hg
        rw [List.range'_succ]
        have hnext : ItsR P C f (.ops ((cregion P C f ops).drop (i + 1)) :: its) (.inRegion ops (List.range' (i + 1) m) :: k) := .cons (.ops ops (i + 1) m (by omega)) hk
        rcases wants_ok (C := C) (f := f) (ops := ops) (o := o) hT with ⟨y, hbad, hgn⟩ | ⟨hop, hwant⟩
        · rw [hgn, hbad] at hg
          simp [wants, aop] at hg
        · rw [hwant] at hg
          rw [hop, coper_dst] at hg
          split at hg
          · rename_i hw
            have hSt : St RP C β h F w tm a := ⟨hI.rel, hI.glob, hT⟩
            split at hg
            · rename_i v ha
              obtain ⟨x, u, w', β', F', h1, h2, h3, h4, h5⟩ := op_eff hP hSt ha (v := v) (h' := h) (wr := none) rfl
              have hI' : Inv RP C β0 F0 h0 w0 wr β' F' h w' := hI.step h3 h5 (fun _ _ _ => rfl) (fun _ hn => hn) (fun n hn _ => by simp at hn)
              refine Reaches.head (.one (step_op ho hw h1 h2)) (put_defers' _ _ _) (hgo f n (Nat.le_refl _) _ _ hnext _ _ _ _ _ _ _ _ _ _ _ hI' ((hT.ext h5 hI.rel).put h4 o.dst) _ _ _ hg b cs)
            · rename_i v h1' wr1 ha
              obtain ⟨x, u, w', β', F', h1, h2, h3, h4, h5⟩ := op_eff hP hSt ha (v := v) (h' := h1') (wr := wr1) rfl
              have hI' : Inv RP C β0 F0 h0 w0 (wrA h0.length wr wr1) β' F' h1' w' := hI.step h3 h5 (fun k hk hnk => aop_same ha k hk hnk) (fun _ hn => mem_wrA hn) (fun k hk hlt => by subst hk; exact mem_wrA_new hlt)
              exact Reaches.head (.one (step_op ho hw h1 h2)) (put_defers' _ _ _) (hgo f n (Nat.le_refl _) _ _ hnext _ _ _ _ _ _ _ _ _ _ _ hI' ((hT.ext h5 hI.rel).put h4 o.dst) _ _ _ hg b cs)
            · rename_i g args ha
              split at hg
              · rename_i v h1' ws hr
                obtain ⟨us, e1, e2⟩ := op_call hI.glob hT ha
                have hc := hrun n (Nat.le_refl _) g args h v h1' ws hr β F w us hI.rel hI.glob e2
                obtain ⟨u, w', ⟨β', F', g1, g2⟩, hsteps⟩ := steps_call (b := b) (k := k) (cs := cs) (rest := List.range' (i + 1) m) ho hw e1 hc
                have hI' : Inv RP C β0 F0 h0 w0 (addW h0.length wr ws) β' F' h1' w' := hI.step g1.rel g1.ext (fun k hk hnk => g1.same k hk hnk) (fun _ hn => mem_addW hn) (fun k hk hlt => mem_addW_new hlt hk)
                exact Reaches.head hsteps (put_defers' _ _ _) (hgo f n (Nat.le_refl _) _ _ hnext _ _ _ _ _ _ _ _ _ _ _ hI' ((hT.ext g1.ext hI.rel).put g2 o.dst) _ _ _ hg b cs)
              · simp at hg
            · simp at hg
          · rename_i hw
            have hs := step_op_skip (P := P) (b := b) (a := a) (k := k) (cs := cs) (w := w) (ops := ops) (i := i) (rest := List.range' (i + 1) m) (by simp [ho]; simpa using hw)
            simp only [ho, Option.bind_some] at hs
            exact Reaches.head (.one hs) (put_defers' _ _ _) (hgo f n (Nat.le_refl _) _ _ hnext _ _ _ _ _ _ _ _ _ _ _ hI (hT.put V.undef o.dst) _ _ _ hg b cs)
    | code c =>
      cases c with
      | skip =>
        simp only [ccode, go] at hg
        exact Reaches.head (.one step_skip) rfl (hgo f n (Nat.le_refl _) _ _ hk _ _ _ _ _ _ _ _ _ _ _ hI hT _ _ _ hg b cs)
      | region id ops draw =>
        simp only [ccode] at hg
        cases draw with
        | false =>
          simp only [Bool.false_eq_true, if_false, go] at hg
          have e : (AItem.ops (cregion P C f ops)) = .ops ((cregion P C f ops).drop 0) := by simp
          rw [e] at hg
          refine Reaches.head (.one step_region) rfl (hgo f n (Nat.le_refl _) _ _ (.cons ?_ hk) _ _ _ _ _ _ _ _ _ _ _ hI hT _ _ _ hg b cs)
          rw [List.range_eq_range']
          exact .ops ops 0 ops.size (by omega)
        | true =>
          simp only [if_true] at hg
          split at hg
          · rename_i hch
            simp only [go] at hg
            split at hg
            · rename_i tm1 h1 wr1 hd
              obtain ⟨a1, w1, β1, F1, g1, g2, g3, g4⟩ := hD f n (hrun n (Nat.le_refl _)) ops hch β0 F0 h0 w0 wr β F h w tm a hI hT tm1 h1 wr1 hd b id k cs
              exact Reaches.head g1 g4 (hgo f n (Nat.le_refl _) _ _ hk _ _ _ _ _ _ _ _ _ _ _ g2 g3 _ _ _ hg b cs)
            · simp at hg
          · simp [go] at hg
      | seq x y =>
        simp only [ccode, go] at hg
        exact Reaches.head (.one step_seq) rfl (hgo f n (Nat.le_refl _) _ _ (.cons (.code x) (.cons (.code y) hk)) _ _ _ _ _ _ _ _ _ _ _ hI hT _ _ _ hg b cs)
      | cond x y z =>
        simp only [ccode] at hg
        split at hg
        · rename_i x' hx
          simp only [go] at hg
          have hV := evo_V hI.glob hT hx
          split at hg
          · rename_i hb
            rw [hb] at hV
            have he := (hV.bool_iff true).1 rfl
            exact Reaches.head (.one (step_cond (t := true) he)) rfl (hgo f n (Nat.le_refl _) _ _ (.cons (.code y) hk) _ _ _ _ _ _ _ _ _ _ _ hI hT _ _ _ hg b cs)
          · rename_i hb
            rw [hb] at hV
            have he := (hV.bool_iff false).1 rfl
            exact Reaches.head (.one (step_cond (t := false) he)) rfl (hgo f n (Nat.le_refl _) _ _ (.cons (.code z) hk) _ _ _ _ _ _ _ _ _ _ _ hI hT _ _ _ hg b cs)
          · simp at hg
        · simp [go] at hg
      | block id x =>
        simp only [ccode, go] at hg
        exact Reaches.head (.one step_block) rfl (hgo f n (Nat.le_refl _) _ _ (.cons (.code x) (.cons (.inBlock id) hk)) _ _ _ _ _ _ _ _ _ _ _ hI hT _ _ _ hg b cs)
      | loop x =>
        simp only [ccode, go] at hg
        exact Reaches.head (.one step_loop) rfl (hgo f n (Nat.le_refl _) _ _ (.cons (.code x) (.cons (.inLoop x) hk)) _ _ _ _ _ _ _ _ _ _ _ hI hT _ _ _ hg b cs)
      | exit id =>
        simp only [ccode, go] at hg
        split at hg
        · rename_i k' hx
          obtain ⟨t', h1, h2⟩ := exit_ok hk hx
          exact Reaches.head (.one (step_exit h1)) rfl (hgo f n (Nat.le_refl _) _ _ h2 _ _ _ _ _ _ _ _ _ _ _ hI hT _ _ _ hg b cs)
        · simp at hg
      | ret =>
        simp only [ccode, go, Option.some.injEq, Prod.mk.injEq] at hg
        obtain ⟨rfl, rfl, rfl⟩ := hg
        exact ⟨_, a, w, β, F, .one step_ret, hI, hT, rfl⟩
      | _ => simp [ccode, go] at hg
end
end Go.Eng

/- The engine, part G9: calls. -/
namespace Go.Eng
set_option linter.unusedSectionVars false
set_option linter.unusedSimpArgs false

section
variable {RP : RPred} {P : Program} {C : Cfg} {E : Env}
variable {β β0 : Beta} {h h0 : Heap} {F F0 : Frz} {w w0 w' : World} {f : Nat}

theorem run_callFunc_body {g : Nat} {fn : Func} (hf : P.funcs[g]? = some fn) (hn : (fn.name == "runtime.NumGoroutine") = false) {c : Code} (hb : fn.body = some c) (us : Array Value) (w : World) :
    (callFunc g us).run P w = .ok (.enter g us) w := by
  have hn' : ¬ fn.name = "runtime.NumGoroutine" := by simpa using hn
  simp [callFunc, go_sem, hf, hn', hb]

theorem entry_rel {args : List AV} {us : Array Value} (hA : VL β h F w args us) (k : Nat) : TmRel β h F w (args ++ List.replicate (k - args.length) undefA) (us ++ Array.replicate (k - us.size) undef) := by
  have := hA.append (l' := List.replicate (k - args.length) undefA) (us' := Array.replicate (k - us.size) undef) ⟨by simp [hA.1], fun j c u hc hu => by
    simp only [List.getElem?_replicate, Array.getElem?_replicate] at hc hu
    split at hc <;> simp at hc
    split at hu <;> simp at hu
    subst hc; subst hu; exact V.undef⟩
  exact ⟨this.1, this.2⟩

/-- a body that the evaluator ran through -/
theorem body_ok (hP : ProgOK P) {n : Nat} (hgo : ∀ f, GoOK RP P C E f n) {g : Nat} {fn : Func} {c : Code} {af : AFunc} (hf : P.funcs[g]? = some fn) (hb : fn.body = some c) (hn : (fn.name == "runtime.NumGoroutine") = false)
    (hrs : (fn.results.toList.mapM fun
      | .tmp t => some (t, none)
      | .cell a t => do pure (a, some (← szOf P t, aggT P t))) = some af.results) (haf : af.body = ccode P C g c) (hnt : af.ntmps = fn.ntmps)
    {as : List AV} {us : Array Value} (hR : Rel RP β F h w) (hG : GlobOK C β h F w) (hA : VL β h F w as us) {v : AV} {h' : Heap} {ws : List Nat}
    (hr : finish af h (go E h.length n [.code af.body] (as ++ List.replicate (af.ntmps - as.length) undefA) h []) = some (v, h', ws)) :
    CallsTo P g us w fun u w' => ∃ β' F', Inv RP C β F h w ws β' F' h' w' ∧ V β' h' F' w' v u := by
  refine .inl ⟨w, run_callFunc_body hf hn hb us w, fun cs => ?_⟩
  cases hgo' : go E h.length n [.code af.body] (as ++ List.replicate (af.ntmps - as.length) undefA) h [] with
  | none => rw [hgo'] at hr; simp [finish] at hr
  | some q =>
    obtain ⟨tm', h1, wr'⟩ := q
    rw [hgo'] at hr
    rw [haf, hnt] at hgo'
    let b : Frame := { (default : Frame) with fn := g, kind := .normal }
    have henter : Frame.enter P g us .normal = b.at { tmps := us ++ Array.replicate (fn.ntmps - us.size) undef, defers := [] } [.code c] := by
      simp [Frame.enter, Frame.at, hf, hb, b]
    obtain ⟨todo', a', w', β', F', g1, g2, g3, g4⟩ := hgo g _ _ (.cons (.code c) .nil) β F h w [] β F h w _ { tmps := us ++ Array.replicate (fn.ntmps - us.size) undef, defers := [] } (Inv.start hR hG) (entry_rel hA fn.ntmps) _ _ _ hgo' b cs
    obtain ⟨u, β2, F2, k1, k2, k3⟩ := finish_ok hP.types hR hG g2 g3 hrs hr
    refine ⟨.returned u, w', { b.at a' todo' with mode := .returning }, ⟨u, rfl, β2, F2, k2, k3⟩, ?_, rfl, rfl, g4, rfl, fn, hf, k1⟩
    rw [henter]
    exact g1

theorem cfunc_inv {g : Nat} {af : AFunc} (hc : cfunc P C g = some af) : ∃ fn c, P.funcs[g]? = some fn ∧ fn.body = some c ∧ (fn.results.toList.mapM fun
      | .tmp t => some (t, none)
      | .cell a t => do pure (a, some (← szOf P t, aggT P t))) = some af.results ∧ af.body = ccode P C g c ∧ af.ntmps = fn.ntmps := by
  unfold cfunc at hc
  simp only [Option.bind_eq_bind, Option.bind_eq_some_iff, Option.pure_def, Option.some.injEq] at hc
  obtain ⟨fn, h1, c, h2, rs, h3, rfl⟩ := hc
  exact ⟨fn, c, h1, h2, h3, rfl, rfl⟩

theorem run_step (hP : ProgOK P) (hE : EnvOK RP P C E) {n : Nat} (hgo : ∀ f, GoOK RP P C E f n) : RunOK RP P C E (n + 1) := by
  intro g args h v h' ws hr β F w us hR hG hA
  unfold run at hr
  split at hr
  · rename_i gx hx
    exact hE.ext g gx hx args h v h' ws hr β F w us hR hG hA
  · split at hr
    · simp at hr
    · rename_i af haf
      obtain ⟨fn, c, h1, h2, h3, h4, h5⟩ := cfunc_inv (hE.fn g af haf)
      have hn := hE.name g af fn haf h1
      split at hr
      · exact body_ok hP hgo h1 h2 hn h3 h4 h5 hR hG hA hr
      · split at hr
        · -- lent
          split at hr
          · simp at hr
          · rename_i as has
            dsimp only at hr
            split at hr
            · rename_i v1 h1' hfin
              split at hr
              · rename_i hfl
                simp only [Option.some.injEq, Prod.mk.injEq] at hr
                obtain ⟨rfl, rfl, rfl⟩ := hr
                obtain ⟨g1, g2⟩ := lendVs_get has
                have hA' : VL (lendB β (AV.blksL args)) (lend h (AV.blksL args)) (lendF β F (AV.blksL args)) w as us := ⟨by rw [g1, hA.1], fun j x' u hx' hu => by
                  obtain ⟨x, hx⟩ := getD_frz g1 hx'
                  exact lendV_sound hR (hA.2 j x u hx hu) (g2 j x x' hx hx') fun n hn => blksL_mem hx hn⟩
                have := body_ok hP hgo h1 h2 hn h3 h4 h5 (hR.lend _) (fun k c hk => (hG k c hk).lend) hA' hfin
                refine this.mono fun u w' ⟨β', F', k1, k2⟩ => ?_
                obtain ⟨r1, r2⟩ := grown_after (w' := w') hR (fun b hb => k1.ext.old b hb (fun n hn => by simp at hn)) k1.ext.size ⟨k1.ext.os, k1.ext.output, k1.ext.tape⟩
                exact ⟨β, F, ⟨r1, hG.ext r2 hR, r2.weaken (fun _ h => h.elim), fun _ _ _ => rfl⟩, k2.flat hfl⟩
              · simp at hr
            · simp at hr
        · have hA' : VL β h F w (AV.nrms args) us := ⟨by rw [nrms_map]; simpa using hA.1, fun j x' u hx' hu => by
            rw [nrms_map] at hx'
            obtain ⟨x, hx, rfl⟩ := map_get_inv hx'
            exact (hA.2 j x u hx hu).nrm⟩
          have hl : (AV.nrms args).length = args.length := by rw [nrms_map]; simp
          rw [← hl] at hr
          exact body_ok hP hgo h1 h2 hn h3 h4 h5 hR hG hA' hr

/-- THE EVALUATOR IS SOUND -/
theorem run_ok (hP : ProgOK P) (hE : EnvOK RP P C E) (hD : DrawOK RP P C E) : ∀ n, RunOK RP P C E n := by
  have : ∀ n, (∀ k ≤ n, RunOK RP P C E k) ∧ ∀ f, ∀ k ≤ n, GoOK RP P C E f k := by
    intro n
    induction n with
    | zero =>
      refine ⟨fun k hk => ?_, fun f k hk => ?_⟩
      · have : k = 0 := by omega
        subst this
        intro g args h v h' ws hr; simp [run] at hr
      · have : k = 0 := by omega
        subst this
        intro its todo _ β0 F0 h0 w0 wr β F h w tm a _ _ tm' h' wr' hg; simp [go] at hg
    | succ n ih =>
      refine ⟨fun k hk => ?_, fun f k hk => ?_⟩
      · rcases Nat.lt_or_ge k (n + 1) with h1 | h1
        · exact ih.1 k (by omega)
        · have : k = n + 1 := by omega
          subst this
          exact run_step hP hE fun f => ih.2 f n (Nat.le_refl _)
      · rcases Nat.lt_or_ge k (n + 1) with h1 | h1
        · exact ih.2 f k (by omega)
        · have : k = n + 1 := by omega
          subst this
          exact go_step hP hD ih.1 ih.2
  exact fun n => (this n).1 n (Nat.le_refl _)
end
end Go.Eng

