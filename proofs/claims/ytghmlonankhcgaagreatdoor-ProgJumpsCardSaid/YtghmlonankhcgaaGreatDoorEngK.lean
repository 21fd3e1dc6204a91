import Derived.Test.YtghmlonankhcgaaGreatDoorEngI
/- The engine, part K1: the evaluator once more, for closed runs: its slots in a tree, its cases apart. -/
namespace Go.Eng
set_option linter.unusedVariables false

inductive STr where
  | lf
  | nd (v : AV) (l r : STr)

noncomputable def getT (t : STr) : Nat → AV :=
  STr.rec (motive := fun _ => Nat → AV) (fun _ => undefA) (fun v _ _ gl gr n => cond (Nat.beq n 0) v (cond (Nat.beq (Nat.mod n 2) 1) (gl (Nat.div n 2)) (gr (Nat.sub (Nat.div n 2) 1)))) t

noncomputable def setT (t : STr) : Nat → AV → STr :=
  STr.rec (motive := fun _ => Nat → AV → STr) (fun _ _ => .lf)
    (fun v l r sl sr n x => cond (Nat.beq n 0) (.nd x l r) (cond (Nat.beq (Nat.mod n 2) 1) (.nd v (sl (Nat.div n 2) x) r) (.nd v l (sr (Nat.sub (Nat.div n 2) 1) x)))) t

noncomputable def fullT (d : Nat) : STr := Nat.rec .lf (fun _ t => .nd undefA t t) d

noncomputable def evoT (tr : STr) : Opd → AV
  | .tmp t => getT tr t
  | .const v => v

noncomputable def putK (N : Nat) (tr : STr) (d : Option Nat) (v : AV) : STr := match d with
  | some d => cond (Nat.blt d N) (setT tr d v) tr
  | none => tr

noncomputable def wantsT (tr : STr) : Option (Nat × Bool) → Bool
  | none => true
  | some (t, w) => match getT tr t with
    | .bool b => b == w
    | _ => false

/-! the operations, each by itself -/
abbrev OpF := Heap → (Opd → AV) → Option ORes
def kMv (x : Opd) : OpF := fun _ ρ => some (.val (ρ x))
def kPick (c a b : Opd) : OpF := fun _ ρ => match ρ c with
  | .bool t => some (.val (if t then ρ a else ρ b))
  | _ => none
def kAlloc (e : Nat) (z : AV) : OpF := fun h _ => some (.eff (.ptr h.length 0 0 0) (h ++ [.cells 0 e false [z]]) none)
def kLoad (sz : Nat) (ag : Bool) (x : Opd) : OpF := fun h ρ => (loadA h sz ag (ρ x)).map .val
def kStore (sz : Nat) (x v : Opd) : OpF := fun h ρ => (storeA h sz (ρ x) (ρ v)).map fun (n, h') => .eff undefA h' (some n)
def kNilck (x : Opd) : OpF := fun _ ρ => match ρ x with
  | .nilp | .nili | .nilf => none
  | v => some (.val v)
def kBin (op : BinOp) (x y : Opd) : OpF := fun _ ρ => (binA op (ρ x) (ρ y)).map .val
def kEq (neg ag : Bool) (sh : List Leaf) (x y : Opd) : OpF := fun _ ρ => (eqT ag sh (ρ x) (ρ y)).map fun b => .val (.bool (if neg then !b else b))
def kFaddr (off : Nat) (x : Opd) : OpF := fun _ ρ => (faddrA off (ρ x)).map .val
def kField (off sz : Nat) (ag : Bool) (x : Opd) : OpF := fun _ ρ => (fieldA off sz ag (ρ x)).map .val
def kIaddr (sz : Nat) (arr : Option Nat) (x i : Opd) : OpF := match arr with
  | none => fun h ρ => (asN (ρ i)).bind fun j => (iaddrL h sz j (ρ x)).map .val
  | some len => fun _ ρ => (asN (ρ i)).bind fun j => (iaddrR len sz j (ρ x)).map .val
def kIndexS (x i : Opd) : OpF := fun _ ρ => (asN (ρ i)).bind fun j => (indexSA j (ρ x)).map .val
def kIndexA (len sz : Nat) (ag : Bool) (x i : Opd) : OpF := fun _ ρ => (asN (ρ i)).bind fun j => (indexAA len sz ag j (ρ x)).map .val
def kExtract (x : Opd) (i : Nat) : OpF := fun _ ρ => (extractA i (ρ x)).map .val
def kCall (f : Nat) (as : List Opd) : OpF := fun _ ρ => some (.call f (as.map ρ))
def kLen (str : Bool) (x : Opd) : OpF := match str with
  | true => fun _ ρ => (lenSA (ρ x)).map fun (n : Nat) => .val (.int .i64 (n : Int))
  | false => fun _ ρ => (lenLA (ρ x)).map fun (n : Nat) => .val (.int .i64 (n : Int))
def kAppend (sz bytes : Nat) (x y : Opd) : OpF := fun h ρ => appendA h sz bytes (ρ x) (ρ y)
def kConv (k : IntKind) (x : Opd) : OpF := fun _ ρ => match ρ x with
  | .int _ n => some (.val (.int k (k.wrap n)))
  | _ => none
def kUn (op : UnOp) (x : Opd) : OpF := fun _ ρ => (unA op (ρ x)).map .val

def kBox (e : Nat) (x : Opd) : OpF := fun h ρ => aop h ρ (.box e x)
def kBuild (z : List AV) (ps : List (Nat × Nat × Opd)) : OpF := fun h ρ => aop h ρ (.build z ps)
def kLit (live : Bool) (e len : Nat) (z : AV) (ps : List (Nat × Opd)) : OpF := fun h ρ => aop h ρ (.lit live e len z ps)
def kRest (o : AOp) : OpF := fun h ρ => aop h ρ o

def aopK (o : AOp) : OpF := match o with
  | .mv x => kMv x
  | .pick c a b => kPick c a b
  | .alloc e z => kAlloc e z
  | .load sz ag x => kLoad sz ag x
  | .store sz x v => kStore sz x v
  | .nilck x => kNilck x
  | .bin op x y => kBin op x y
  | .eq ng ag sh x y => kEq ng ag sh x y
  | .faddr o x => kFaddr o x
  | .field o s a x => kField o s a x
  | .iaddr s a x i => kIaddr s a x i
  | .indexS x i => kIndexS x i
  | .indexA l s a x i => kIndexA l s a x i
  | .extract x i => kExtract x i
  | .call f as => kCall f as
  | .len b x => kLen b x
  | .append s b x y => kAppend s b x y
  | .convInt k x => kConv k x
  | .un op x => kUn op x
  | .box e x => kBox e x
  | .build z ps => kBuild z ps
  | .lit l e n z ps => kLit l e n z ps
  | o => kRest o

theorem aopK_eq (o : AOp) (h : Heap) (ρ : Opd → AV) : aopK o h ρ = aop h ρ o := by
  cases o <;> try rfl
  case iaddr s a x i => cases a <;> rfl
  case len b x => cases b <;> rfl

/-! regions with an open order -/
noncomputable def cstT (tr : STr) (x : Opd) : Opd := .const (evoT tr x)
noncomputable def fixedT (tr : STr) : AOp → AOp
  | .load sz ag x => .load sz ag (cstT tr x)
  | .lookup ag sh z ok m k => .lookup ag sh z ok (cstT tr m) (cstT tr k)
  | .b2s x => .b2s (cstT tr x)
  | .iaddr sz a x i => .iaddr sz a (cstT tr x) (cstT tr i)
  | .slice k x lo hi mx => .slice k (cstT tr x) (lo.map (cstT tr)) (hi.map (cstT tr)) (mx.map (cstT tr))
  | o => o

abbrev RunF := Nat → List AV → Heap → Option (AV × Heap × List Nat)

noncomputable def dgoT (r : RunF) (m N : Nat) : List AOper → Nat → Nat → List (Nat × Heap) → List (Nat × AOp × AV) → STr → Heap → List Nat → Option (STr × Heap × List Nat)
  | [], _, _, _, _, tm, h, wr => some (tm, h, wr)
  | o :: os, i, na, sn, wt, tm, h, wr =>
    if wantsT tm o.guard then
      match o.op with
      | .alloc _ _ => dgoT r m N os (i + 1) (na + 1) sn wt (putK N tm o.dst (.ptr na 0 0 0)) h wr
      | .mkmap => dgoT r m N os (i + 1) (na + 1) sn wt (putK N tm o.dst (.mapr na)) h wr
      | op => match aop h (evoT tm) op with
        | some (.val v) =>
          if op.looks then
            (if sn.all (fun (k, h0) => o.bef.testBit k || again h0 (fixedT tm op) v) then dgoT r m N os (i + 1) na sn ((i, fixedT tm op, v) :: wt) (putK N tm o.dst v) h wr else none)
          else dgoT r m N os (i + 1) na sn wt (putK N tm o.dst v) h wr
        | some (.eff v h' w) =>
          if op.acts && wt.all (fun (k, o', v) => o.bef.testBit k || again h' o' v) then dgoT r m N os (i + 1) na ((i, h) :: sn) wt (putK N tm o.dst v) h' (wrA m wr w) else none
        | some (.call f args) => match r f args h with
          | some (v, h', ws) =>
            if h'.length = h.length ∧ ws = [] then dgoT r m N os (i + 1) na sn wt (putK N tm o.dst v) h wr
            else if wt.all (fun (k, o', v) => o.bef.testBit k || again h' o' v) then dgoT r m N os (i + 1) na ((i, h) :: sn) wt (putK N tm o.dst v) h' (addW m wr ws) else none
          | none => none
        | none => none
    else dgoT r m N os (i + 1) (match o.op with | .alloc _ _ | .mkmap => na + 1 | _ => na) sn wt (putK N tm o.dst undefA) h wr

/-! the items -/
abbrev GoF := STr → Heap → List Nat → Option (STr × Heap × List Nat)
abbrev GoR := List AItem → GoF

noncomputable def forceL {α β : Type} (l : List α) : (List α → β) → β := List.rec (motive := fun _ => (List α → β) → β) (fun k => k []) (fun a _ ih k => ih fun t => k (a :: t)) l

theorem forceL_eq {α β : Type} (l : List α) (k : List α → β) : forceL l k = k l := by
  induction l generalizing k with
  | nil => rfl
  | cons a l ih => exact ih _

noncomputable def nextT (ih : GoR) (k : List AItem) (tr : STr) (h : Heap) (wr : List Nat) : Option (STr × Heap × List Nat) := forceL h fun h => forceL wr fun wr => ih k tr h wr

noncomputable def callT (m N : Nat) (ih : GoR) (k : List AItem) (d : Option Nat) (tr : STr) (wr : List Nat) : Option (AV × Heap × List Nat) → Option (STr × Heap × List Nat)
  | some (v, h', ws) => nextT ih k (putK N tr d v) h' (addW m wr ws)
  | none => none

noncomputable def resT (r : RunF) (m N : Nat) (ih : GoR) (k : List AItem) (d : Option Nat) (tr : STr) (h : Heap) (wr : List Nat) (q : Option ORes) : Option (STr × Heap × List Nat) := match q with
  | none => none
  | some q => match q with
    | .val v => ih k (putK N tr d v) h wr
    | .eff v h' w => nextT ih k (putK N tr d v) h' (wrA m wr w)
    | .call f args => callT m N ih k d tr wr (r f args h)

noncomputable def opT (r : RunF) (m N : Nat) (ih : GoR) (o : AOper) (os : List AOper) (k : List AItem) : GoF := fun tr h wr =>
  match wantsT tr o.guard with
  | false => ih (.ops os :: k) (putK N tr o.dst undefA) h wr
  | true => resT r m N ih (.ops os :: k) o.dst tr h wr (aopK o.op h (evoT tr))

noncomputable def opsT (r : RunF) (m N : Nat) (ih : GoR) (os : List AOper) (k : List AItem) : GoF := match os with
  | [] => ih k
  | o :: os => opT r m N ih o os k

def noT : GoF := fun _ _ _ => none
def endT : GoF := fun tr h wr => some (tr, h, wr)
noncomputable def condT (ih : GoR) (c : Opd) (a b : ACode) (k : List AItem) : GoF := fun tr h wr => match evoT tr c with
  | .bool t => cond t (ih (.code a :: k) tr h wr) (ih (.code b :: k) tr h wr)
  | _ => none
def exitT (ih : GoR) (id : Nat) (k : List AItem) : GoF := match exitA id k with
  | some k' => ih k'
  | none => noT
noncomputable def drawT (r : RunF) (m N : Nat) (ih : GoR) (ops : List AOper) (k : List AItem) : GoF := fun tr h wr =>
  match dgoT r m N ops 0 h.length [] [] tr (h ++ laid ops) wr with
  | some (tr', h', wr') => nextT ih k tr' h' wr'
  | none => none
noncomputable def regT (r : RunF) (m N : Nat) (ih : GoR) (b : Bool) (ops : List AOper) (k : List AItem) : GoF := match b with
  | false => ih (.ops ops :: k)
  | true => drawT r m N ih ops k

noncomputable def codeT (r : RunF) (m N : Nat) (ih : GoR) (c : ACode) (k : List AItem) : GoF := match c with
  | .skip => ih k
  | .region b ops => regT r m N ih b ops k
  | .seq a b => ih (.code a :: .code b :: k)
  | .cond c a b => condT ih c a b k
  | .block id b => ih (.code b :: .inBlock id :: k)
  | .loop b => ih (.code b :: .inLoop b :: k)
  | .exit id => exitT ih id k
  | .ret => endT
  | .bad _ => noT

noncomputable def itemT (r : RunF) (m N : Nat) (ih : GoR) (it : AItem) (k : List AItem) : GoF := match it with
  | .inBlock _ => ih k
  | .inLoop c => ih (.code c :: .inLoop c :: k)
  | .code c => codeT r m N ih c k
  | .ops os => opsT r m N ih os k

noncomputable def stepT (r : RunF) (m N : Nat) (ih : GoR) (its : List AItem) : GoF := match its with
  | [] => endT
  | it :: k => itemT r m N ih it k

noncomputable def goT (r : RunF) (m N : Nat) (n : Nat) : GoR := Nat.rec (motive := fun _ => GoR) (fun _ => noT) (fun _ ih => stepT r m N ih) n

/-! calls -/
noncomputable def argsT (tr : STr) (i : Nat) : List AV → STr
  | [] => tr
  | v :: l => argsT (setT tr i v) (i + 1) l

noncomputable def finT (af : AFunc) (h0 : Heap) : Option (STr × Heap × List Nat) → Option (AV × Heap × List Nat)
  | none => none
  | some (tm, h, wr) =>
    let rs : Option (List AV) := af.results.mapM fun (t, a) => match a with
      | none => some (getT tm t)
      | some (sz, ag) => loadA h sz ag (getT tm t)
    match rs with
    | none => none
    | some rs =>
      let v := oneOr rs
      match af.pol with
      | .leak => some (v, h, wr)
      | .pure =>
        match frz h h0.length true 1000 v with
        | none => none
        | some v =>
          if v.lt h0.length && wr.all (fun n => match h[n]? with
            | some (.cells _ _ _ es) => AV.lts h0.length es
            | some (.map es) => es.all fun e => e.1.lt h0.length && e.2.lt h0.length
            | _ => false) then some (v, h.take h0.length, wr) else none

noncomputable def bodyT (D F : Nat) (r : RunF) (af : AFunc) (args : List AV) (h : Heap) : Option (AV × Heap × List Nat) :=
  cond (Nat.blt af.ntmps (2 ^ D) && Nat.ble args.length af.ntmps) (finT af h (goT r h.length af.ntmps F [.code af.body] (argsT (fullT D) 0 args) h [])) none

noncomputable def calleeT (D F : Nat) (r : RunF) (af : AFunc) (args : List AV) (h : Heap) : Option (AV × Heap × List Nat) :=
  match af.pol with
  | .leak => bodyT D F r af args h
  | .pure =>
    match AV.hasSlcs args && af.borrow with
    | true =>
      match lendVs h args with
      | none => none
      | some as =>
        match bodyT D F r af as (lend h (AV.blksL args)) with
        | some (v, _, []) => if v.flat then some (v, h, []) else none
        | _ => none
    | false => bodyT D F r af (AV.nrms args) h

noncomputable def enterT (E : Env) (D F : Nat) (r : RunF) : RunF := fun f args h =>
  match E.ext f with
  | some g => g args h
  | none => match E.fn f with
    | none => none
    | some af => calleeT D F r af args h

/-- the evaluator: 'd' calls deep, 'F' items a body, slots in a tree of depth D -/
noncomputable def runK (E : Env) (D F : Nat) (d : Nat) : RunF := Nat.rec (motive := fun _ => RunF) (fun _ _ _ => none) (fun _ ih => enterT E D F ih) d
end Go.Eng

/- The engine, part K2: the evaluator with a tree is sound. -/
namespace Go.Eng
set_option linter.unusedSectionVars false
set_option linter.unusedSimpArgs false

/-! more fuel, the same answer -/
theorem dgo_mono {r r' : RunF} (hr : ∀ f a h x, r f a h = some x → r' f a h = some x) {m : Nat} : ∀ {os : List AOper} {i na : Nat} {sn : List (Nat × Heap)} {wt : List (Nat × AOp × AV)} {tm : Tm} {h : Heap} {wr : List Nat} {x : Tm × Heap × List Nat},
    dgo r m os i na sn wt tm h wr = some x → dgo r' m os i na sn wt tm h wr = some x := by
  intro os
  induction os with
  | nil => intro i na sn wt tm h wr x hd; exact hd
  | cons o os ih =>
    intro i na sn wt tm h wr x hd
    unfold dgo at hd ⊢
    split at hd
    · rename_i hw
      rw [if_pos hw]
      split at hd
      · exact ih hd
      · exact ih hd
      · split at hd
        · split at hd
          · rename_i hl
            try rw [if_pos hl]
            split at hd
            · rename_i hs; rw [if_pos hs]; exact ih hd
            · simp at hd
          · rename_i hl; try rw [if_neg hl]
            exact ih hd
        · split at hd
          · rename_i hs; rw [if_pos hs]; exact ih hd
          · simp at hd
        · split at hd
          · rename_i v h1 ws hc
            rw [hr _ _ _ _ hc]
            dsimp only
            split at hd
            · rename_i hs; rw [if_pos hs]; exact ih hd
            · rename_i hs
              rw [if_neg hs]
              split at hd
              · rename_i hs2; rw [if_pos hs2]; exact ih hd
              · simp at hd
          · simp at hd
        · simp at hd
    · rename_i hw
      rw [if_neg hw]; exact ih hd

section
variable {E : Env}

theorem finish_some {af : AFunc} {h0 : Heap} {q : Option (Tm × Heap × List Nat)} {x : AV × Heap × List Nat} (hf : finish af h0 q = some x) : ∃ y, q = some y := by
  cases q with
  | none => simp [finish] at hf
  | some y => exact ⟨y, rfl⟩

theorem more : ∀ n, (∀ f a h x, run E n f a h = some x → run E (n + 1) f a h = some x) ∧ ∀ m its tm h wr x, go E m n its tm h wr = some x → go E m (n + 1) its tm h wr = some x := by
  intro n
  induction n with
  | zero => exact ⟨fun f a h x hr => by simp [run] at hr, fun m its tm h wr x hg => by simp [go] at hg⟩
  | succ n ih =>
    obtain ⟨ihr, ihg⟩ := ih
    refine ⟨fun f a h x hr => ?_, fun m its tm h wr x hg => ?_⟩
    · unfold run at hr ⊢
      split at hr
      · rename_i g hx; (try simp only [hx]); exact hr
      · rename_i hx
        simp only [hx]
        split at hr
        · simp at hr
        · rename_i af haf
          (try simp only [haf])
          split at hr
          · rename_i hp
            try simp only [hp]
            obtain ⟨y, hy⟩ := finish_some hr
            rw [ihg _ _ _ _ _ _ hy, ← hy]; exact hr
          · rename_i hp
            try simp only [hp]
            split at hr
            · rename_i hc
              rw [if_pos hc]
              split at hr
              · simp at hr
              · rename_i as has
                try simp only [has]
                dsimp only at hr
                split at hr
                · rename_i v h1 hfin
                  obtain ⟨y, hy⟩ := finish_some hfin
                  rw [ihg _ _ _ _ _ _ hy, ← hy, hfin]; exact hr
                · simp at hr
            · rename_i hc
              rw [if_neg hc]
              obtain ⟨y, hy⟩ := finish_some hr
              rw [ihg _ _ _ _ _ _ hy, ← hy]; exact hr
    · cases its with
      | nil => simp only [go] at hg ⊢; exact hg
      | cons it k =>
        cases it with
        | inBlock id => simp only [go] at hg ⊢; exact ihg _ _ _ _ _ _ hg
        | inLoop c => simp only [go] at hg ⊢; exact ihg _ _ _ _ _ _ hg
        | ops os =>
          cases os with
          | nil => simp only [go] at hg ⊢; exact ihg _ _ _ _ _ _ hg
          | cons o os =>
            unfold go at hg ⊢
            dsimp only at hg ⊢
            split at hg
            · rename_i hw
              rw [if_pos hw]
              split at hg
              · rename_i v ha; (try simp only [ha]); exact ihg _ _ _ _ _ _ hg
              · rename_i v h1 w1 ha; (try simp only [ha]); exact ihg _ _ _ _ _ _ hg
              · rename_i g args ha
                (try simp only [ha])
                split at hg
                · rename_i v h1 ws hc
                  rw [ihr _ _ _ _ hc]
                  exact ihg _ _ _ _ _ _ hg
                · simp at hg
              · simp at hg
            · rename_i hw; rw [if_neg hw]; exact ihg _ _ _ _ _ _ hg
        | code c =>
          cases c with
          | skip => simp only [go] at hg ⊢; exact ihg _ _ _ _ _ _ hg
          | region b ops =>
            cases b with
            | false => simp only [go] at hg ⊢; exact ihg _ _ _ _ _ _ hg
            | true =>
              unfold go at hg ⊢
              dsimp only at hg ⊢
              split at hg
              · rename_i tm1 h1 wr1 hd
                rw [dgo_mono ihr hd]
                exact ihg _ _ _ _ _ _ hg
              · simp at hg
          | seq a b => simp only [go] at hg ⊢; exact ihg _ _ _ _ _ _ hg
          | cond c a b =>
            unfold go at hg ⊢
            dsimp only at hg ⊢
            split at hg
            · rename_i hb; (try simp only [hb]); exact ihg _ _ _ _ _ _ hg
            · rename_i hb; (try simp only [hb]); exact ihg _ _ _ _ _ _ hg
            · simp at hg
          | block id b => simp only [go] at hg ⊢; exact ihg _ _ _ _ _ _ hg
          | loop b => simp only [go] at hg ⊢; exact ihg _ _ _ _ _ _ hg
          | exit id =>
            unfold go at hg ⊢
            dsimp only at hg ⊢
            split at hg
            · rename_i k' hx; (try simp only [hx]); exact ihg _ _ _ _ _ _ hg
            · simp at hg
          | ret => simp only [go] at hg ⊢; exact hg
          | bad w => simp [go] at hg

theorem run_more {n n' : Nat} (hn : n ≤ n') {f : Nat} {a : List AV} {h : Heap} {x : AV × Heap × List Nat} (hr : run E n f a h = some x) : run E n' f a h = some x := by
  induction hn with
  | refl => exact hr
  | step _ ih => exact (more _).1 _ _ _ _ ih
theorem go_more {n n' : Nat} (hn : n ≤ n') {m : Nat} {its : List AItem} {tm : Tm} {h : Heap} {wr : List Nat} {x : Tm × Heap × List Nat} (hg : go E m n its tm h wr = some x) : go E m n' its tm h wr = some x := by
  induction hn with
  | refl => exact hg
  | step _ ih => exact (more _).2 _ _ _ _ _ _ ih
end

/-! trees -/
inductive Perf : Nat → STr → Prop
  | lf : Perf 0 .lf
  | nd {d : Nat} (v : AV) {l r : STr} (hl : Perf d l) (hr : Perf d r) : Perf (d + 1) (.nd v l r)

theorem fullT_perf : ∀ d, Perf d (fullT d)
  | 0 => .lf
  | d + 1 => .nd _ (fullT_perf d) (fullT_perf d)

theorem getT_lf (n : Nat) : getT .lf n = undefA := rfl
theorem getT_nd (v : AV) (l r : STr) (n : Nat) : getT (.nd v l r) n = cond (Nat.beq n 0) v (cond (Nat.beq (Nat.mod n 2) 1) (getT l (Nat.div n 2)) (getT r (Nat.sub (Nat.div n 2) 1))) := rfl
theorem setT_nd (v : AV) (l r : STr) (n : Nat) (x : AV) : setT (.nd v l r) n x = cond (Nat.beq n 0) (.nd x l r) (cond (Nat.beq (Nat.mod n 2) 1) (.nd v (setT l (Nat.div n 2) x) r) (.nd v l (setT r (Nat.sub (Nat.div n 2) 1) x))) := rfl

theorem three (n : Nat) : (n = 0 ∧ Nat.beq n 0 = true) ∨ (∃ k, n = 2 * k + 1 ∧ Nat.beq n 0 = false ∧ Nat.beq (Nat.mod n 2) 1 = true ∧ Nat.div n 2 = k) ∨ (∃ k, n = 2 * k + 2 ∧ Nat.beq n 0 = false ∧ Nat.beq (Nat.mod n 2) 1 = false ∧ Nat.sub (Nat.div n 2) 1 = k) := by
  have e1 : Nat.mod n 2 = n % 2 := rfl
  have e2 : Nat.div n 2 = n / 2 := rfl
  have e3 : Nat.sub (Nat.div n 2) 1 = n / 2 - 1 := rfl
  have bf : ∀ a b : Nat, a ≠ b → Nat.beq a b = false := fun a b hne => by
    cases hb : Nat.beq a b with
    | false => rfl
    | true => exact absurd (Nat.eq_of_beq_eq_true hb) hne
  have bt : ∀ a b : Nat, a = b → Nat.beq a b = true := fun a b he => by subst he; exact Nat.beq_refl a
  rcases Nat.eq_zero_or_pos n with h | h
  · exact .inl ⟨h, bt _ _ h⟩
  · rcases Nat.mod_two_eq_zero_or_one n with h2 | h2
    · refine .inr (.inr ⟨n / 2 - 1, by omega, bf _ _ (by omega), bf _ _ (by rw [e1]; omega), by rw [e3]⟩)
    · refine .inr (.inl ⟨n / 2, by omega, bf _ _ (by omega), bt _ _ (by rw [e1]; omega), by rw [e2]⟩)

theorem getT_full : ∀ (d n : Nat), getT (fullT d) n = undefA
  | 0, n => rfl
  | d + 1, n => by
    show getT (.nd undefA (fullT d) (fullT d)) n = undefA
    rw [getT_nd]
    rcases three n with ⟨_, h1⟩ | ⟨k, _, h1, h2, h3⟩ | ⟨k, _, h1, h2, h3⟩
    · rw [h1]; rfl
    · rw [h1, h2]; exact getT_full d _
    · rw [h1, h2]; exact getT_full d _

theorem setT_perf : ∀ {d : Nat} {t : STr}, Perf d t → ∀ n x, Perf d (setT t n x)
  | _, _, .lf, n, x => .lf
  | _, _, .nd v hl hr, n, x => by
    rw [setT_nd]
    rcases three n with ⟨_, h1⟩ | ⟨k, _, h1, h2, h3⟩ | ⟨k, _, h1, h2, h3⟩
    · rw [h1]; exact .nd x hl hr
    · rw [h1, h2]; exact .nd v (setT_perf hl _ _) hr
    · rw [h1, h2]; exact .nd v hl (setT_perf hr _ _)

theorem getT_setT : ∀ {d : Nat} {t : STr}, Perf d t → ∀ (n : Nat) (x : AV), n + 1 < 2 ^ d → ∀ k, getT (setT t n x) k = if k = n then x else getT t k
  | _, _, .lf, n, x, hn, k => by simp at hn
  | d + 1, _, .nd v hl hr, n, x, hn, k => by
    rw [setT_nd]
    have hp : 2 ^ (d + 1) = 2 * 2 ^ d := by rw [Nat.pow_succ]; omega
    rcases three n with ⟨h0, h1⟩ | ⟨i, h0, h1, h2, h3⟩ | ⟨i, h0, h1, h2, h3⟩
    · rw [h1]
      simp only [cond_true]
      rw [getT_nd, getT_nd]
      rcases three k with ⟨k0, k1⟩ | ⟨j, k0, k1, k2, k3⟩ | ⟨j, k0, k1, k2, k3⟩
      · rw [k1, if_pos (by omega)]; rfl
      · rw [k1, k2, if_neg (by omega)]; rfl
      · rw [k1, k2, if_neg (by omega)]; rfl
    · rw [h1, h2]
      simp only [cond_true, cond_false]
      rw [getT_nd, getT_nd]
      rcases three k with ⟨k0, k1⟩ | ⟨j, k0, k1, k2, k3⟩ | ⟨j, k0, k1, k2, k3⟩
      · rw [k1, if_neg (by omega)]; rfl
      · rw [k1, k2, k3, h3]
        simp only [cond_true, cond_false]
        rw [getT_setT hl i x (by omega) j]
        by_cases hji : j = i
        · rw [if_pos hji, if_pos (by omega)]
        · rw [if_neg hji, if_neg (by omega)]
      · rw [k1, k2, if_neg (by omega)]; rfl
    · rw [h1, h2]
      simp only [cond_false]
      rw [getT_nd, getT_nd]
      rcases three k with ⟨k0, k1⟩ | ⟨j, k0, k1, k2, k3⟩ | ⟨j, k0, k1, k2, k3⟩
      · rw [k1, if_neg (by omega)]; rfl
      · rw [k1, k2, if_neg (by omega)]; rfl
      · rw [k1, k2, k3, h3]
        simp only [cond_false]
        rw [getT_setT hr i x (by omega) j]
        by_cases hji : j = i
        · rw [if_pos hji, if_pos (by omega)]
        · rw [if_neg hji, if_neg (by omega)]

/-- a tree and a list of slots -/
structure RT (D N : Nat) (tr : STr) (tm : Tm) : Prop where
  perf : Perf D tr
  len : tm.length = N
  fits : N < 2 ^ D
  get : ∀ t, getT tr t = tm.getD t undefA

section
variable {D N : Nat} {tr : STr} {tm : Tm}

theorem RT.put (h : RT D N tr tm) (d : Option Nat) (v : AV) : RT D N (putK N tr d v) (putT tm d v) := by
  cases d with
  | none => exact h
  | some d =>
    simp only [putK, putT]
    by_cases hd : d < N
    · have hb : Nat.blt d N = true := by rw [Nat.blt_eq]; exact hd
      rw [hb]
      refine ⟨setT_perf h.perf _ _, by simp [h.len], h.fits, fun t => ?_⟩
      have := h.fits
      simp only [cond_true]
      rw [getT_setT h.perf d v (by omega) t, h.get t, List.getD_eq_getElem?_getD, List.getD_eq_getElem?_getD]
      by_cases ht : t = d
      · subst ht
        rw [if_pos rfl, List.getElem?_set_self (by rw [h.len]; exact hd)]; rfl
      · rw [if_neg ht, List.getElem?_set_ne (Ne.symm ht)]
    · have hb : Nat.blt d N = false := by
        cases hb : Nat.blt d N with
        | false => rfl
        | true => rw [Nat.blt_eq] at hb; exact absurd hb hd
      rw [hb]
      have : tm.set d v = tm := List.set_eq_of_length_le (by rw [h.len]; omega)
      rw [this]; exact h

theorem RT.evo (h : RT D N tr tm) : evoT tr = evo tm := by
  funext x
  cases x with
  | tmp t => exact h.get t
  | const v => rfl

theorem RT.wants (h : RT D N tr tm) (g : Option (Nat × Bool)) : wantsT tr g = wants tm g := by
  cases g with
  | none => rfl
  | some q => obtain ⟨t, b⟩ := q; simp only [wantsT, Go.Eng.wants, h.get t]; rfl

theorem RT.fixed (h : RT D N tr tm) (o : AOp) : fixedT tr o = o.fixed tm := by
  have e : cstT tr = cst tm := by funext x; simp only [cstT, cst, h.evo]
  cases o <;> simp only [fixedT, AOp.fixed, e]

theorem argsT_rel : ∀ (l : List AV) (tr : STr) (pre : List AV), Perf D tr → (pre.length + l.length) < 2 ^ D → (∀ t, getT tr t = pre.getD t undefA) → Perf D (argsT tr pre.length l) ∧ ∀ t, getT (argsT tr pre.length l) t = (pre ++ l).getD t undefA
  | [], tr, pre, hp, _, hg => ⟨hp, fun t => by rw [List.append_nil]; exact hg t⟩
  | v :: l, tr, pre, hp, hl, hg => by
    have h1 := argsT_rel l (setT tr pre.length v) (pre ++ [v]) (setT_perf hp _ _) (by simp at hl ⊢; omega) (fun t => by
      rw [getT_setT hp _ _ (by simp at hl; omega) t, hg t]
      by_cases ht : t = pre.length
      · subst ht; rw [if_pos rfl]; simp
      · rw [if_neg ht]
        rcases Nat.lt_or_ge t pre.length with h | h
        · rw [List.getD_eq_getElem?_getD, List.getD_eq_getElem?_getD, List.getElem?_append_left h]
        · rw [List.getD_eq_getElem?_getD, List.getD_eq_getElem?_getD, List.getElem?_eq_none_iff.2 h, List.getElem?_eq_none_iff.2 (by simp; omega)])
    simp only [List.length_append, List.length_cons, List.length_nil] at h1
    refine ⟨h1.1, fun t => ?_⟩
    have := h1.2 t
    rw [show argsT tr pre.length (v :: l) = argsT (setT tr pre.length v) (pre.length + 1) l from rfl, this]
    simp

theorem RT.start {args : List AV} (hN : N < 2 ^ D) (ha : args.length ≤ N) : RT D N (argsT (fullT D) 0 args) (args ++ List.replicate (N - args.length) undefA) := by
  obtain ⟨h1, h2⟩ := argsT_rel (D := D) args (fullT D) [] (fullT_perf D) (by simp; omega) (fun t => by rw [getT_full]; rfl)
  refine ⟨h1, by simp; omega, hN, fun t => ?_⟩
  have := h2 t
  simp only [List.length_nil, List.nil_append] at this
  rw [this]
  rcases Nat.lt_or_ge t args.length with h | h
  · rw [List.getD_eq_getElem?_getD, List.getD_eq_getElem?_getD, List.getElem?_append_left h]
  · rw [List.getD_eq_getElem?_getD, List.getD_eq_getElem?_getD, List.getElem?_eq_none_iff.2 h, List.getElem?_append_right h, List.getElem?_replicate]
    split <;> rfl
end

/-! soundness -/
section
variable {E : Env} {D N : Nat} {r : RunF}

theorem dgoT_sound (hr : ∀ f a h x, r f a h = some x → ∃ n, run E n f a h = some x) {m : Nat} : ∀ {os : List AOper} {i na : Nat} {sn : List (Nat × Heap)} {wt : List (Nat × AOp × AV)} {tr : STr} {tm : Tm} {h : Heap} {wr : List Nat} {tr' : STr} {h' : Heap} {wr' : List Nat},
    RT D N tr tm → dgoT r m N os i na sn wt tr h wr = some (tr', h', wr') → ∃ n tm', dgo (run E n) m os i na sn wt tm h wr = some (tm', h', wr') ∧ RT D N tr' tm' := by
  intro os
  induction os with
  | nil =>
    intro i na sn wt tr tm h wr tr' h' wr' hT hd
    simp only [dgoT, Option.some.injEq, Prod.mk.injEq] at hd
    obtain ⟨rfl, rfl, rfl⟩ := hd
    exact ⟨0, tm, rfl, hT⟩
  | cons o os ih =>
    intro i na sn wt tr tm h wr tr' h' wr' hT hd
    unfold dgoT at hd
    rw [hT.wants] at hd
    split at hd
    · rename_i hw
      split at hd
      · rename_i e z hop
        obtain ⟨n, tm', g1, g2⟩ := ih (hT.put _ _) hd
        exact ⟨n, tm', by unfold dgo; rw [if_pos hw]; simp only [hop]; exact g1, g2⟩
      · rename_i hop
        obtain ⟨n, tm', g1, g2⟩ := ih (hT.put _ _) hd
        exact ⟨n, tm', by unfold dgo; rw [if_pos hw]; simp only [hop]; exact g1, g2⟩
      · rename_i hn1 hn2
        have split3 : ∀ {n : Nat} {q : Option (Tm × Heap × List Nat)} , (match aop h (evo tm) o.op with
            | some (.val v) =>
              if o.op.looks then
                (if sn.all (fun (k, h0) => o.bef.testBit k || again h0 (o.op.fixed tm) v) then dgo (run E n) m os (i + 1) na sn ((i, o.op.fixed tm, v) :: wt) (putT tm o.dst v) h wr else none)
              else dgo (run E n) m os (i + 1) na sn wt (putT tm o.dst v) h wr
            | some (.eff v h' w) =>
              if o.op.acts && wt.all (fun (k, o', v) => o.bef.testBit k || again h' o' v) then dgo (run E n) m os (i + 1) na ((i, h) :: sn) wt (putT tm o.dst v) h' (wrA m wr w) else none
            | some (.call f args) => match run E n f args h with
              | some (v, h', ws) =>
                if h'.length = h.length ∧ ws = [] then dgo (run E n) m os (i + 1) na sn wt (putT tm o.dst v) h wr
                else if wt.all (fun (k, o', v) => o.bef.testBit k || again h' o' v) then dgo (run E n) m os (i + 1) na ((i, h) :: sn) wt (putT tm o.dst v) h' (addW m wr ws) else none
              | none => none
            | none => none) = q → dgo (run E n) m (o :: os) i na sn wt tm h wr = q := by
          intro n q hq
          unfold dgo
          rw [if_pos hw]
          split
          · rename_i hop; exact absurd hop (hn1 _ _)
          · rename_i hop; exact absurd hop hn2
          · exact hq
        rw [hT.evo] at hd
        split at hd
        · rename_i v ha
          split at hd
          · rename_i hl
            rw [hT.fixed] at hd
            split at hd
            · rename_i hs
              obtain ⟨n, tm', g1, g2⟩ := ih (hT.put _ _) hd
              exact ⟨n, tm', split3 (by simp only [ha]; rw [if_pos hl, if_pos hs]; exact g1), g2⟩
            · simp at hd
          · rename_i hl
            obtain ⟨n, tm', g1, g2⟩ := ih (hT.put _ _) hd
            exact ⟨n, tm', split3 (by simp only [ha]; rw [if_neg hl]; exact g1), g2⟩
        · rename_i v h1 w1 ha
          split at hd
          · rename_i hs
            obtain ⟨n, tm', g1, g2⟩ := ih (hT.put _ _) hd
            exact ⟨n, tm', split3 (by simp only [ha]; rw [if_pos hs]; exact g1), g2⟩
          · simp at hd
        · rename_i g args ha
          split at hd
          · rename_i v h1 ws hc
            obtain ⟨n1, hn1'⟩ := hr _ _ _ _ hc
            split at hd
            · rename_i hs
              obtain ⟨n, tm', g1, g2⟩ := ih (hT.put _ _) hd
              exact ⟨max n n1, tm', split3 (by simp only [ha]; rw [run_more (Nat.le_max_right _ _) hn1']; dsimp only; rw [if_pos hs]; exact dgo_mono (fun _ _ _ _ => run_more (Nat.le_max_left _ _)) g1), g2⟩
            · rename_i hs
              split at hd
              · rename_i hs2
                obtain ⟨n, tm', g1, g2⟩ := ih (hT.put _ _) hd
                exact ⟨max n n1, tm', split3 (by simp only [ha]; rw [run_more (Nat.le_max_right _ _) hn1']; dsimp only; rw [if_neg hs, if_pos hs2]; exact dgo_mono (fun _ _ _ _ => run_more (Nat.le_max_left _ _)) g1), g2⟩
              · simp at hd
          · simp at hd
        · simp at hd
    · rename_i hw
      obtain ⟨n, tm', g1, g2⟩ := ih (hT.put _ _) hd
      exact ⟨n, tm', by unfold dgo; rw [if_neg hw]; exact g1, g2⟩

def GoTS (E : Env) (D N m : Nat) (ih : GoR) : Prop := ∀ its tr tm h wr tr' h' wr', RT D N tr tm → ih its tr h wr = some (tr', h', wr') → ∃ n tm', go E m n its tm h wr = some (tm', h', wr') ∧ RT D N tr' tm'

theorem goT_sound (hr : ∀ f a h x, r f a h = some x → ∃ n, run E n f a h = some x) {m : Nat} : ∀ k, GoTS E D N m (goT r m N k) := by
  intro k
  induction k with
  | zero =>
    intro its tr tm h wr tr' h' wr' hT hg
    have : noT tr h wr = some (tr', h', wr') := hg
    simp [noT] at this
  | succ k ih =>
    intro its tr tm h wr tr' h' wr' hT hg
    change stepT r m N (goT r m N k) its tr h wr = some (tr', h', wr') at hg
    generalize goT r m N k = G at ih hg
    have nx : ∀ {its tr tm h wr}, RT D N tr tm → nextT G its tr h wr = some (tr', h', wr') → ∃ n tm', go E m n its tm h wr = some (tm', h', wr') ∧ RT D N tr' tm' := fun hT hn => by
      unfold nextT at hn
      rw [forceL_eq, forceL_eq] at hn
      exact ih _ _ _ _ _ _ _ _ hT hn
    cases its with
    | nil =>
      simp only [stepT, endT, Option.some.injEq, Prod.mk.injEq] at hg
      obtain ⟨rfl, rfl, rfl⟩ := hg
      exact ⟨1, tm, rfl, hT⟩
    | cons it its =>
      have one : ∀ {its' : List AItem}, (∀ n, go E m (n + 1) (it :: its) tm h wr = go E m n its' tm h wr) → G its' tr h wr = some (tr', h', wr') → ∃ n tm', go E m n (it :: its) tm h wr = some (tm', h', wr') ∧ RT D N tr' tm' := fun he hg' => by
        obtain ⟨n, tm', g1, g2⟩ := ih _ _ _ _ _ _ _ _ hT hg'
        exact ⟨n + 1, tm', by rw [he]; exact g1, g2⟩
      cases it with
      | inBlock id => exact one (fun n => by simp only [go]) hg
      | inLoop c => exact one (fun n => by simp only [go]) hg
      | ops os =>
        cases os with
        | nil => exact one (fun n => by simp only [go]) hg
        | cons o os =>
          simp only [stepT, itemT, opsT, opT] at hg
          rw [hT.wants] at hg
          split at hg
          · rename_i hw
            obtain ⟨n, tm', g1, g2⟩ := ih _ _ _ _ _ _ _ _ (hT.put _ _) hg
            exact ⟨n + 1, tm', by unfold go; dsimp only; rw [if_neg (by simp [hw])]; exact g1, g2⟩
          · rename_i hw
            rw [aopK_eq, hT.evo] at hg
            unfold resT at hg
            split at hg
            · simp at hg
            · rename_i q ha
              split at hg
              · rename_i v
                obtain ⟨n, tm', g1, g2⟩ := ih _ _ _ _ _ _ _ _ (hT.put _ _) hg
                exact ⟨n + 1, tm', by unfold go; dsimp only; rw [if_pos hw, ha]; exact g1, g2⟩
              · rename_i v h1 w1
                obtain ⟨n, tm', g1, g2⟩ := nx (hT.put _ _) hg
                exact ⟨n + 1, tm', by unfold go; dsimp only; rw [if_pos hw, ha]; exact g1, g2⟩
              · rename_i g args
                unfold callT at hg
                split at hg
                · rename_i v h1 ws hc
                  obtain ⟨n1, hn1⟩ := hr _ _ _ _ hc
                  obtain ⟨n, tm', g1, g2⟩ := nx (hT.put _ _) hg
                  refine ⟨max n n1 + 1, tm', ?_, g2⟩
                  unfold go; dsimp only
                  rw [if_pos hw, ha]
                  dsimp only
                  rw [run_more (Nat.le_max_right _ _) hn1]
                  exact go_more (Nat.le_max_left _ _) g1
                · simp at hg
      | code c =>
        cases c with
        | skip => exact one (fun n => by simp only [go]) hg
        | region b ops =>
          cases b with
          | false => exact one (fun n => by simp only [go]) hg
          | true =>
            simp only [stepT, itemT, codeT, regT, drawT] at hg
            split at hg
            · rename_i tr1 h1 wr1 hd
              obtain ⟨n1, tm1, d1, d2⟩ := dgoT_sound hr hT hd
              obtain ⟨n, tm', g1, g2⟩ := nx d2 hg
              refine ⟨max n n1 + 1, tm', ?_, g2⟩
              unfold go; dsimp only
              rw [dgo_mono (fun _ _ _ _ => run_more (Nat.le_max_right n n1)) d1]
              exact go_more (Nat.le_max_left _ _) g1
            · simp at hg
        | seq a b => exact one (fun n => by simp only [go]) hg
        | cond c a b =>
          simp only [stepT, itemT, codeT, condT] at hg
          rw [hT.evo] at hg
          split at hg
          · rename_i t hb
            cases t with
            | true => exact one (fun n => by rw [go]; simp only [hb]) hg
            | false => exact one (fun n => by rw [go]; simp only [hb]) hg
          · simp at hg
        | block id b => exact one (fun n => by simp only [go]) hg
        | loop b => exact one (fun n => by simp only [go]) hg
        | exit id =>
          simp only [stepT, itemT, codeT, exitT] at hg
          cases hx : exitA id its with
          | some k' =>
            rw [hx] at hg
            exact one (fun n => by rw [go]; simp only [hx]) hg
          | none => rw [hx] at hg; simp [noT] at hg
        | ret =>
          simp only [stepT, itemT, codeT, endT, Option.some.injEq, Prod.mk.injEq] at hg
          obtain ⟨rfl, rfl, rfl⟩ := hg
          exact ⟨1, tm, by simp only [go], hT⟩
        | bad w => simp [stepT, itemT, codeT, noT] at hg

theorem finT_eq {af : AFunc} {h0 : Heap} {tr : STr} {tm : Tm} {h : Heap} {wr : List Nat} (hT : RT D N tr tm) : finT af h0 (some (tr, h, wr)) = finish af h0 (some (tm, h, wr)) := by
  have e : getT tr = fun t => tm.getD t undefA := funext hT.get
  simp only [finT, finish, e]
  rfl

theorem bodyT_sound (hr : ∀ f a h x, r f a h = some x → ∃ n, run E n f a h = some x) {F : Nat} {af : AFunc} {args : List AV} {h : Heap} {x : AV × Heap × List Nat} (hb : bodyT D F r af args h = some x) :
    ∃ n, finish af h (go E h.length n [.code af.body] (args ++ List.replicate (af.ntmps - args.length) undefA) h []) = some x := by
  unfold bodyT at hb
  cases hc : (Nat.blt af.ntmps (2 ^ D) && Nat.ble args.length af.ntmps) with
  | false => rw [hc] at hb; simp at hb
  | true =>
    rw [hc] at hb
    simp only [cond_true] at hb
    simp only [Bool.and_eq_true, Nat.blt_eq, Nat.ble_eq] at hc
    have hT := RT.start (D := D) (args := args) hc.1 hc.2
    cases hg : goT r h.length af.ntmps F [.code af.body] (argsT (fullT D) 0 args) h [] with
    | none => rw [hg] at hb; simp [finT] at hb
    | some q =>
      obtain ⟨tr', h', wr'⟩ := q
      rw [hg] at hb
      obtain ⟨n, tm', g1, g2⟩ := goT_sound hr F _ _ _ _ _ _ _ _ hT hg
      exact ⟨n, by rw [g1, ← finT_eq g2]; exact hb⟩

theorem runK_sound {F : Nat} : ∀ d f a h x, runK E D F d f a h = some x → ∃ n, run E n f a h = some x := by
  intro d
  induction d with
  | zero => intro f a h x hr; simp [runK] at hr
  | succ d ih =>
    intro f a h x hr
    change enterT E D F (runK E D F d) f a h = some x at hr
    generalize runK E D F d = R at ih hr
    unfold enterT at hr
    split at hr
    · rename_i g hx
      exact ⟨1, by unfold run; simp only [hx]; exact hr⟩
    · rename_i hx
      split at hr
      · simp at hr
      · rename_i af haf
        unfold calleeT at hr
        split at hr
        · rename_i hp
          obtain ⟨n, hn⟩ := bodyT_sound ih hr
          exact ⟨n + 1, by unfold run; simp only [hx, haf, hp]; exact hn⟩
        · rename_i hp
          split at hr
          · rename_i hc
            split at hr
            · simp at hr
            · rename_i as has
              split at hr
              · rename_i v h1 hb
                obtain ⟨n, hn⟩ := bodyT_sound ih hb
                refine ⟨n + 1, ?_⟩
                unfold run; simp only [hx, haf, hp]
                rw [if_pos hc]
                simp only [has]
                rw [hn]
                exact hr
              · simp at hr
          · rename_i hc
            obtain ⟨n, hn⟩ := bodyT_sound ih hr
            refine ⟨n + 1, ?_⟩
            unfold run; simp only [hx, haf, hp]
            rw [if_neg (by simp [hc])]
            have hl : (AV.nrms a).length = a.length := by rw [nrms_map]; simp
            rw [hl] at hn
            exact hn
end
end Go.Eng

/- The engine, part K3: answers of the fast evaluator; runs cut at a place. -/
namespace Go.Eng
set_option linter.unusedSectionVars false

section
variable {RP : RPred} {P : Program} {C : Cfg} {E : Env}

theorem answers_of_runK (hP : ProgOK P) (hm : P.follows .mixedOrders = true) (hE : EnvOK RP P C E) {D F d g : Nat} {args : List AV} {h : Heap} {v : AV} {h' : Heap} {ws : List Nat} (hr : runK E D F d g args h = some (v, h', ws)) : Answers RP P C g args h v h' ws := by
  obtain ⟨n, hn⟩ := runK_sound d g args h _ hr
  exact answers_of_run hP hm hE hn

/-- A LAW AT ARGUMENTS WITHOUT MEMORY -/
theorem law_calls {g : Nat} {args : List AV} {v : AV} (hA : Answers RP P C g args [] v [] []) (hg : ∀ g, C.glob g = none) {fn : Func} (hf : P.funcs[g]? = some fn) (hn : (fn.name == "runtime.NumGoroutine") = false) {c : Code} (hb : fn.body = some c) (W : World)
    {us : Array Value} (hu : VL (fun _ => none) [] (fun _ _ => False) W args us) : Calls P g us W fun e W' => ∃ u β F, e = .returned u ∧ V β [] F W' v u ∧ Still W W' := by
  have hR0 : Rel RP (fun _ => none) (fun _ _ => False) [] W := {
    lt := fun n b hb => by simp at hb
    blk := fun n b B hb => by simp at hb
    inj := fun n n' b hb => by simp at hb
    out := fun n b hb => by simp at hb
    apart := fun n b o hb => by simp at hb
    cell := fun _ _ h => h.elim }
  have hG0 : GlobOK C (fun _ => none) [] (fun _ _ => False) W := fun k c hk => by rw [hg k] at hk; simp at hk
  refine ((hA _ _ W us hR0 hG0 hu).calls hf hn hb).mono fun e W' ⟨u, he, β', F', hI, hv⟩ => ⟨u, β', F', he, hv, hI.ext.os, hI.ext.output, fun b hb => hI.ext.old b hb (fun n hn => by simp at hn)⟩

/-- k items, and what goes on behind them -/
noncomputable def iterT (r : RunF) (m N : Nat) (G : GoR) (k : Nat) : GoR := Nat.rec (motive := fun _ => GoR) G (fun _ ih => stepT r m N ih) k

theorem goT_iter (r : RunF) (m N n : Nat) : ∀ k, goT r m N (n + k) = iterT r m N (goT r m N n) k
  | 0 => rfl
  | k + 1 => by
    show stepT r m N (goT r m N (n + k)) = stepT r m N (iterT r m N (goT r m N n) k)
    rw [goT_iter r m N n k]

/-- one function's answers are put in the place of its run -/
noncomputable def putR (r : RunF) (f : Nat) (g : List AV → Heap → Option (AV × Heap × List Nat)) : RunF := fun f' args h => cond (Nat.beq f' f) (g args h) (r f' args h)

/-- the items behind k plain ones -/
def advI : Nat → List AItem → List AItem
  | 0, its => its
  | n + 1, its => match its with
    | .inBlock _ :: k => advI n k
    | .ops [] :: k => advI n k
    | .ops (_ :: os) :: k => advI n (.ops os :: k)
    | .code .skip :: k => advI n k
    | .code (.region false ops) :: k => advI n (.ops ops :: k)
    | .code (.seq a b) :: k => advI n (.code a :: .code b :: k)
    | .code (.block id b) :: k => advI n (.code b :: .inBlock id :: k)
    | its => its

theorem putR_sound {D F d f0 : Nat} {gx : List AV → Heap → Option (AV × Heap × List Nat)} (h6 : E.ext f0 = some gx) : ∀ f a h x, putR (runK E D F d) f0 gx f a h = some x → ∃ n, run E n f a h = some x := fun f a h x hr => by
  unfold putR at hr
  cases hb : Nat.beq f f0 with
  | true =>
    rw [hb] at hr
    simp only [cond_true] at hr
    have := Nat.eq_of_beq_eq_true hb
    subst this
    exact ⟨1, by unfold run; simp only [h6]; exact hr⟩
  | false => rw [hb] at hr; exact runK_sound d f a h x hr

/-- a law's own body, one function's answers put in -/
theorem law_body {D F F' d f0 g : Nat} {gx : List AV → Heap → Option (AV × Heap × List Nat)} (h6 : E.ext f0 = some gx) (hx : E.ext g = none) {af : AFunc} (hf : E.fn g = some af) (hp : af.pol = .pure) {args : List AV} {h : Heap} (hs : (AV.hasSlcs args && af.borrow) = false)
    (hn : AV.nrms args = args) (hc : (Nat.blt af.ntmps (2 ^ D) && Nat.ble args.length af.ntmps) = true) {x : AV × Heap × List Nat}
    (hb : finT af h (goT (putR (runK E D F d) f0 gx) h.length af.ntmps F' [.code af.body] (argsT (fullT D) 0 args) h []) = some x) : ∃ n, run E n g args h = some x := by
  have hbT : bodyT D F' (putR (runK E D F d) f0 gx) af args h = some x := by unfold bodyT; rw [hc]; exact hb
  obtain ⟨n, hfin⟩ := bodyT_sound (putR_sound h6) hbT
  refine ⟨n + 1, ?_⟩
  unfold run
  simp only [hx, hf, hp]
  rw [if_neg (by rw [hs]; simp), hn]
  exact hfin

/-- the functions' resolved code, written out -/
def fnOf : List (Nat × AFunc) → Nat → Option AFunc
  | [], _ => none
  | (g, af) :: l, f => cond (Nat.beq f g) (some af) (fnOf l f)

theorem fn_nil : ∀ p ∈ ([] : List (Nat × AFunc)), cfunc P C p.1 = some p.2 := fun p hp => by simp at hp
theorem fn_cons {g : Nat} {af : AFunc} {l : List (Nat × AFunc)} (h : cfunc P C g = some af) (hl : ∀ p ∈ l, cfunc P C p.1 = some p.2) : ∀ p ∈ (g, af) :: l, cfunc P C p.1 = some p.2 := fun p hp => by
  rcases List.mem_cons.1 hp with rfl | hp
  · exact h
  · exact hl p hp

theorem fnOf_ok : ∀ {l : List (Nat × AFunc)}, (∀ p ∈ l, cfunc P C p.1 = some p.2) → ∀ g af, fnOf l g = some af → cfunc P C g = some af
  | [], _, g, af, h => by simp [fnOf] at h
  | (k, a) :: l, hl, g, af, h => by
    unfold fnOf at h
    cases hb : Nat.beq g k with
    | true =>
      rw [hb] at h
      simp only [cond_true, Option.some.injEq] at h
      subst h
      have := Nat.eq_of_beq_eq_true hb
      subst this
      exact hl _ (List.mem_cons_self ..)
    | false =>
      rw [hb] at h
      exact fnOf_ok (fun p hp => hl p (List.mem_cons_of_mem _ hp)) g af h

/-! a number brought into bounds, as the statements' own helper does it -/
def withinZ (n lo hi : Int) : Int := lo + n % (hi - lo + 1)

theorem withinZ_ge {n lo hi : Int} (h : lo ≤ hi) : lo ≤ withinZ n lo hi := by
  have := Int.emod_nonneg n (show hi - lo + 1 ≠ 0 by omega)
  unfold withinZ; omega
theorem withinZ_le {n lo hi : Int} (h : lo ≤ hi) : withinZ n lo hi ≤ hi := by
  have := Int.emod_lt_of_pos n (show 0 < hi - lo + 1 by omega)
  unfold withinZ; omega

def withinG (args : List AV) (h : Heap) : Option (AV × Heap × List Nat) := match args with
  | [.int .i64 n, .int .i64 lo, .int .i64 hi] => if -4294967296 ≤ lo ∧ lo ≤ hi ∧ hi ≤ 4294967296 then some (.int .i64 (withinZ n lo hi), h, []) else none
  | _ => none

theorem wrap64 {x : Int} (h1 : -9223372036854775808 ≤ x) (h2 : x < 9223372036854775808) : IntKind.wrap .i64 x = x := by
  show (if (true && decide (x % 18446744073709551616 ≥ 9223372036854775808)) = true then x % 18446744073709551616 - 18446744073709551616 else x % 18446744073709551616) = x
  split
  · rename_i h; simp at h; omega
  · rename_i h; simp at h; omega
end
end Go.Eng

