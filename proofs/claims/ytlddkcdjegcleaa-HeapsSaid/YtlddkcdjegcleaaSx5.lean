/- Regions that draw their order. -/
import Derived.Test.YtlddkcdjegcleaaSx4
set_option linter.unusedVariables false
set_option linter.unusedSimpArgs false
namespace Go.Sx
open Go.RowKit Go.Gx
def drR (x : St) : Option (Nat × Nat × Array Oper × List Kt × List (Nat × Value)) :=
  match x.f with
  | .code c => match c with
    | .region _ ops true => some (0, 0, ops, x.k, x.l)
    | _ => none
  | _ => none
def drX (z : Array Oper × List Kt × List (Nat × Value)) (LJ : List Item) (D : List Nat) : St := ⟨.any z.1 LJ D z.1.size (Array.replicate z.1.size false), z.2.1, z.2.2⟩
/-- A quiet operation: none, or the thing (of LJ) that it loads from and those that write there later. -/
abbrev Tk := Nat × Option (Nat × List Nat)
/-- One quiet operation of a region that draws its order: the state behind it, the world behind it, the blocks that are to be one. -/
def tk1 (P : Program) (b : Nat → Value) (n : Nat) (w : World) (t : Tk) (x : St) : Option (St × World × Nat × Nat) :=
  match x.f with
  | .any ops LJ D fuel listed => match fuel with
    | fuel + 1 => match ops[t.1]? with
      | some o => match Region.noSelect ops && (Region.free .any ops listed t.1 && ((Region.ready .any ops listed).contains t.1 && !D.contains t.1)) with
        | true => match Region.wanted o (yl ops b n x.l) with
          | false => some (⟨.any ops LJ D fuel (listed.setIfInBounds t.1 true), x.k, putL o undef x.l⟩, w, 0, 0)
          | true => match t.2 with
            | none => match o.dst with
              | some _ => match (execOp (ev b n x.l) o).run P w with
                | .ok (.value v) w' => some (⟨.any ops LJ D fuel (listed.setIfInBounds t.1 true), x.k, putL o v x.l⟩, w', 0, 0)
                | _ => none
              | none => none
            | some (j, C) => match waits .any ops C t.1 && !C.contains t.1 && D.all C.contains && C.all (fun c => !listed.getD c true) with
              | true => match o.op with
                | .load ty a => match ev b n x.l a with
                  | .pointer (some ⟨bk, off, none⟩) => match LJ[j]? with
                    | some (.blk bk' (.cells cs _ _)) => match loadB P ty cs off with
                      | some v => some (⟨.any ops LJ D fuel (listed.setIfInBounds t.1 true), x.k, putL o v x.l⟩, w, bk, bk')
                      | none => none
                    | _ => none
                  | _ => none
                | _ => none
              | false => none
        | false => none
      | none => none
    | 0 => none
  | _ => none
def tkS (P : Program) (b : Nat → Value) (n : Nat) (w : World) : List Tk → St → Option (List St × List World × List Nat × List Nat)
  | [], _ => some ([], [], [], [])
  | t :: r, x => match tk1 P b n w t x with
    | some (y, w', p, q) => match tkS P b n w r y with
      | some (zs, ws, ps, qs) => some (y :: zs, w' :: ws, p :: ps, q :: qs)
      | none => none
    | none => none
def tkL (r : Option (List St × List World × List Nat × List Nat)) : List St := match r with
  | some (zs, _) => zs
  | none => []
def lastS : List St → St → St
  | [], x => x
  | y :: r, _ => lastS r y
def tkA (r : Option (List St × List World × List Nat × List Nat)) : List World × List Nat := match r with
  | some (_, ws, ps, _) => (ws, ps)
  | none => ([], [0])
def tkB (w : World) (r : Option (List St × List World × List Nat × List Nat)) : List World × List Nat := match r with
  | some (_, ws, _, qs) => (ws.map fun _ => w, qs)
  | none => ([], [])
/-- Of a way out by a panic it does not matter what a slot holds; a round is never outgrown. -/
class Pn [Rd] (B : Exit → Act → World → Prop) : Prop where
  pn : ∀ c a w o v, B (.panic c) (Act.put a o v) w → B (.panic c) a w
  og : Rd.r = none ∨ ∀ a w, ¬ B .outgrown a w
instance pnB {P : Program} {fn : Func} {R : Ending → World → Prop} : @Pn rd0 (bodyPost P fn R) := @Pn.mk rd0 _ (fun c a w o v h => ⟨by have := h.1; cases o <;> exact this, h.2⟩) (.inl rfl)
theorem wpQ [Rd] {P : Program} {Q : Exit → Act → World → Prop} {o : Oper} {a : Act} {w : World} {K : Act → World → Prop} (hn : ndf o = true) (h : o.wp P a w K Q) : o.wpIn fw 1 P a w K Q := by
  refine ⟨fun _ _ => trivial, ?_⟩
  show o.uponIn fw 1 P a K Q ((o.semAt fw.round a.eval).run P w)
  rw [semw hn]
  unfold Oper.wp at h
  generalize (execOp a.eval o).run P w = r at *
  cases r with
  | ok n w' =>
    cases n <;> simp only [Oper.upon, Oper.uponIn] at h ⊢ <;> try exact h
    case enter f args => exact ⟨fun _ => Nat.le_refl _, (callsIn_wide (n := 0)).2 h⟩
    case row row args => exact ⟨fun _ => Nat.le_refl _, fun c cs hr => by obtain ⟨v, w1, r, s⟩ := h c cs; exact ⟨v, w1, r, stepsIn_wide.2 s⟩⟩
  | halt y w' => cases y <;> simp only [Oper.upon] at h ⊢ <;> first | exact h.elim | exact h
/-- Operations of which none defers a call go through in a round too. -/
theorem opsW [Rd] {P : Program} {ops : Array Oper} {Q : Exit → Act → World → Prop} (hn : ops.toList.all ndf = true) (hQ : ∀ a w, ¬ Q .outgrown a w) : ∀ (js : List Nat) (a : Act) (w : World), wpOps P ops Q js a w → wpOpsIn fw 1 P ops Q js a w
  | [], _, _, h => h
  | i :: js, a, w, h => by
    rw [wpOps_cons] at h
    unfold wpOp at h
    simp only [wpOpsIn]
    cases ho : ops[i]? with
    | none => simp only [ho] at h; exact opsW hn hQ js _ _ h
    | some o =>
      simp only [ho] at h ⊢
      have hm : ndf o = true := List.all_eq_true.1 hn o (by simpa using Array.mem_of_getElem? ho)
      split at h
      · rename_i hw
        rw [if_pos hw]
        rcases h with h | ⟨_, a', w', q⟩
        · exact wpQ hm (Oper.wp_mono (fun a w => opsW hn hQ js a w) h)
        · exact absurd q (hQ a' w')
      · rename_i hw
        rw [if_neg hw]
        exact ⟨fun _ _ => trivial, opsW hn hQ js _ _ h⟩
section
variable [Rd] {P : Program} {B : Exit → Act → World → Prop} [Pn B] {b : Nat → Value} {n : Nat} {d : List Deferred} {w0 w : World} {x : St} {L0 L : List Item}
theorem bp_panic {k : List Kt} {c : List PanicEntry} {a : Act} {o : Option Tmp} {v : Value} : post P B k (.panic c) (a.put o v) w → post P B k (.panic c) a w := by
  induction k with
  | nil => exact Pn.pn (B := B) c a w o v
  | cons t k ih => cases t <;> exact ih
omit [Pn B] in
theorem bp_grown (h : ∀ a w, ¬ B .outgrown a w) {k : List Kt} {a : Act} : ¬ post P B k .outgrown a w := by
  induction k with
  | nil => exact h a w
  | cons t k ih => cases t <;> exact ih
/-- Into a region that draws its order. -/
theorem dr (m : Nat) (H : Hs w0 L0 w L) (J D : List Nat) {LJ : List Item} (hm : P.follows .mixedOrders = true)
    (k : ∀ w', Hs w0 L0 w' L → Goal P B b n d (drX (vX (via P b n m w x drR)) LJ D) w')
    (h : vA (via P b n m w x drR) = vB w (via P b n m w x drR) := by kernel_rfl) (hd : (vX (via P b n m w x drR)).1.toList.all ndf = true := by kernel_rfl) : Goal P B b n d x w := by
  obtain ⟨a, y, hr, hf⟩ := via_ok h
  refine run_sound hr ?_
  generalize vX (via P b n m w x drR) = z at *
  obtain ⟨f, k', l⟩ := y
  unfold drR at hf
  split at hf <;> try contradiction
  rename_i c hc
  split at hf <;> try contradiction
  simp only at hc
  subst hc
  simp only [Option.some.injEq, Prod.mk.injEq] at hf
  obtain ⟨_, _, rfl⟩ := hf
  cases hr : Rd.r with
  | none =>
    have e : (fw : Fence) = Fence.wide := by unfold fw; rw [hr]; rfl
    unfold Goal
    simp only
    rw [e]
    exact wpIn_wide.2 (drawE D hm fun w' hE => k w' (H.ext hE))
  | some lr =>
    have og : ∀ a w, ¬ B .outgrown a w := (Pn.og (B := B)).resolve_left (by rw [hr]; simp)
    refine wpIn_region_draw fun t => ?_
    simp only [Region.schedule, hm, Bool.true_or, if_true]
    exact opsW hd (fun a w => bp_grown og) _ _ _ (wpAny_sound _ t _ _ _ (anyE_any _ _ _ _ (k _ (H.ext (Ext.drawn w _)))))
/-- One operation that is not quiet: no other may come up. -/
def onK (i : Nat) (P : Program) (B : Exit → Act → World → Prop) (x : St) : Act → World → Prop := match x.f with
  | .any ops LJ D fuel listed => match fuel with
    | fuel + 1 => fun a' w' => (clear D (listed.setIfInBounds i true) = true → Sp w' LJ) ∧ anyE P .any ops (post P B x.k) (fun w => Sp w LJ) D fuel (listed.setIfInBounds i true) a' w'
    | 0 => fun _ _ => False
  | _ => fun _ _ => False
def opsOf (x : St) : Array Oper := match x.f with
  | .any ops _ _ _ _ => ops
  | _ => #[]
def onX (i : Nat) (P : Program) (B : Exit → Act → World → Prop) (x : St) : St := ⟨.op1 (opsOf x) i (onK i P B x), x.k, x.l⟩
def rdy (x : St) : List Nat := match x.f with
  | .any ops _ _ fuel listed => match fuel with
    | _ + 1 => Region.ready .any ops listed
    | 0 => []
  | _ => []
omit [Pn B] in
theorem on (i : Nat) (k : Goal P B b n d (onX i P B x) w) (h : rdy x = [i] := by kernel_rfl) : Goal P B b n d x w := by
  obtain ⟨f, kk, l⟩ := x
  cases f with
  | any ops LJ D fuel listed =>
    cases fuel with
    | zero => simp [rdy] at h
    | succ fuel => exact anyE_one i h k
  | _ => simp [rdy] at h
omit [Pn B] in
/-- Two may come up. -/
theorem on2 (i j : Nat) (k1 : Goal P B b n d (onX i P B x) w) (k2 : Goal P B b n d (onX j P B x) w) (h : rdy x = [i, j] := by kernel_rfl) : Goal P B b n d x w := by
  obtain ⟨f, kk, l⟩ := x
  cases f with
  | any ops LJ D fuel listed =>
    cases fuel with
    | zero => simp [rdy] at h
    | succ fuel =>
      have h' : Region.ready .any ops listed = [i, j] := h
      refine ⟨fun h0 => absurd (h' ▸ h0) (by simp), fun q hq => ?_⟩
      rw [h'] at hq
      simp only [List.mem_cons, List.not_mem_nil, or_false] at hq
      rcases hq with rfl | rfl
      · exact k1
      · exact k2
  | _ => simp [rdy] at h
/-- Behind it; x: the state at which it was picked. -/
def bkX (i : Nat) (x : St) (l : List (Nat × Value)) : St := match x.f with
  | .any ops LJ D fuel listed => ⟨.any ops LJ D (fuel - 1) (listed.setIfInBounds i true), x.k, l⟩
  | _ => x
def LJof (x : St) : List Item := match x.f with
  | .any _ LJ _ _ _ => LJ
  | _ => []
def clr (i : Nat) (x : St) : Bool := match x.f with
  | .any _ _ D _ listed => clear D (listed.setIfInBounds i true)
  | _ => true
def okA (x : St) : Bool := match x.f with
  | .any _ _ _ fuel _ => match fuel with
    | _ + 1 => true
    | 0 => false
  | _ => false
omit [Pn B] in
theorem bk {x y : St} (i : Nat) (hS : clr i x = true → Sp w (LJof x)) (k : Goal P B b n d (bkX i x y.l) w)
    (h : y.f = .kk (onK i P B x) := by kernel_rfl) (ho : okA x = true := by kernel_rfl) : Goal P B b n d y w := by
  obtain ⟨f, kk, l⟩ := y
  simp only at h
  subst h
  obtain ⟨fx, kx, lx⟩ := x
  cases fx with
  | any ops LJ D fuel listed =>
    cases fuel with
    | zero => simp [okA] at ho
    | succ fuel => exact ⟨hS, k⟩
  | _ => simp [okA] at ho
def dnR (x : St) : Option (Nat × Nat × St) := match x.f with
  | .any ops _ _ _ listed => match Region.ready .any ops listed with
    | [] => some (0, 0, ⟨.ex .normal, x.k, x.l⟩)
    | _ => none
  | _ => none
omit [Pn B] in
/-- None is left. -/
theorem dn (k : Goal P B b n d (vX (via P b n 0 w x dnR)) w) (h : vA (via P b n 0 w x dnR) = vB w (via P b n 0 w x dnR) := by kernel_rfl) : Goal P B b n d x w := by
  obtain ⟨a, y, hr, hf⟩ := via_ok h
  simp only [run, Option.some.injEq, Prod.mk.injEq, true_and] at hr
  subst hr
  generalize vX (via P b n 0 w x dnR) = z at *
  obtain ⟨f, kk, l⟩ := x
  unfold dnR at hf
  split at hf <;> try contradiction
  rename_i ops LJ D fuel listed hfo
  split at hf <;> try contradiction
  rename_i hrd
  simp only at hfo
  subst hfo
  simp only [Option.some.injEq, Prod.mk.injEq] at hf
  obtain ⟨_, _, rfl⟩ := hf
  exact anyE_done hrd k fuel
def clrA (x : St) : Bool := match x.f with
  | .any _ _ D _ listed => clear D listed
  | _ => true
omit [Rd] in
theorem putL_inj {o : Oper} {v v' : Value} {l : List (Nat × Value)} {d : Nat} (h : o.dst = some d) (e : putL o v l = putL o v' l) : v = v' := by
  unfold putL at e; rw [h] at e; simp only [List.cons.injEq, Prod.mk.injEq, true_and, and_true] at e; exact e
theorem tk1_sound {t : Tk} {y : St} (h : ∀ w', ∃ q, tk1 P b n w' t x = some (y, w', q, q)) (hS : clrA x = true → Sp w (LJof x)) (k : Goal P B b n d y w) :
    Goal P B b n d x w := by
  obtain ⟨f, kk, l⟩ := x
  obtain ⟨i, tj⟩ := t
  cases f with
  | any ops LJ D fuel listed =>
    cases fuel with
    | zero => obtain ⟨q, hq⟩ := h w; simp [tk1] at hq
    | succ fuel =>
      simp only [tk1] at h
      cases ho : ops[i]? with
      | none => obtain ⟨q, hq⟩ := h w; simp [ho] at hq
      | some o =>
        simp only [ho] at h
        cases hc : (Region.noSelect ops && (Region.free .any ops listed i && ((Region.ready .any ops listed).contains i && !D.contains i))) with
        | false => obtain ⟨q, hq⟩ := h w; simp only [hc, reduceCtorEq] at hq
        | true =>
          simp only [hc] at h
          simp only [Bool.and_eq_true, Bool.not_eq_true'] at hc
          obtain ⟨h1, h2, h3, h4⟩ := hc
          cases hw : Region.wanted o (yl ops b n l) with
          | false =>
            obtain ⟨q, hq⟩ := h w
            simp only [hw, Option.some.injEq, Prod.mk.injEq] at hq
            obtain ⟨rfl, _⟩ := hq
            exact anyE_skip i ho h1 h2 h3 h4 (fun _ _ _ => bp_panic) hS hw k
          | true =>
            simp only [hw] at h
            cases tj with
            | none =>
              simp only at h
              cases hd : o.dst with
              | none => obtain ⟨q, hq⟩ := h w; simp [hd] at hq
              | some dd =>
                simp only [hd] at h
                have key : ∀ w', ∃ v, (execOp (ev b n l) o).run P w' = .ok (.value v) w' ∧ y = ⟨.any ops LJ D fuel (listed.setIfInBounds i true), kk, putL o v l⟩ := by
                  intro w'
                  obtain ⟨q, hq⟩ := h w'
                  cases hr : (execOp (ev b n l) o).run P w' with
                  | halt a c => simp [hr] at hq
                  | ok r w'' =>
                    rw [hr] at hq
                    cases r <;> simp only [reduceCtorEq, Option.some.injEq, Prod.mk.injEq] at hq
                    obtain ⟨rfl, rfl, _⟩ := hq
                    exact ⟨_, rfl, rfl⟩
                obtain ⟨v, hv, rfl⟩ := key w
                refine anyE_take i v v rfl ho h1 h2 h3 h4 (fun _ _ _ => bp_panic) hS hw (fun w' => ?_) k
                obtain ⟨v', hv', e⟩ := key w'
                simp only [St.mk.injEq, true_and] at e
                rw [putL_inj hd e]
                exact hv'
            | some jc =>
              obtain ⟨j, C⟩ := jc
              obtain ⟨q, hq⟩ := h w
              simp only at hq
              split at hq <;> try contradiction
              rename_i hC
              split at hq <;> try contradiction
              rename_i ty a hop
              split at hq <;> try contradiction
              rename_i bk off hx
              split at hq <;> try contradiction
              rename_i bk' cs e fr hL
              split at hq <;> try contradiction
              rename_i v hv
              simp only [Option.some.injEq, Prod.mk.injEq] at hq
              obtain ⟨rfl, _, rfl, rfl⟩ := hq
              have hcl : clear D listed = true := by
                simp only [Bool.and_eq_true] at hC
                exact clear_of hC.1.2 (fun c hc => by simpa using List.all_eq_true.1 hC.2 c hc)
              exact anyE_takeS i C v v rfl ho h1 h2 h3 h4 hC (fun _ _ _ => bp_panic) (hS hcl) hw (fun w' hs => Gx.run_load hop off v hx (hs.all _ (List.mem_of_getElem? hL)) hv) k
  | _ => obtain ⟨q, hq⟩ := h w; simp [tk1] at hq
omit [Rd] in
theorem tk1_keeps {t : Tk} {y : St} {w' : World} {p q : Nat} (h : tk1 P b n w t x = some (y, w', p, q)) : LJof y = LJof x ∧ clrA y = clrA x := by
  obtain ⟨f, kk, l⟩ := x
  obtain ⟨i, tj⟩ := t
  cases f with
  | any ops LJ D fuel listed =>
    have fin : ∀ (fuel' : Nat) (l' : List (Nat × Value)), D.contains i = false → LJof ⟨.any ops LJ D fuel' (listed.setIfInBounds i true), kk, l'⟩ = LJ ∧ clrA ⟨.any ops LJ D fuel' (listed.setIfInBounds i true), kk, l'⟩ = clear D listed :=
      fun _ _ hD => ⟨rfl, clear_set hD⟩
    unfold tk1 at h
    simp only at h
    split at h <;> try contradiction
    split at h <;> try contradiction
    split at h <;> try contradiction
    rename_i hc
    simp only [Bool.and_eq_true, Bool.not_eq_true'] at hc
    split at h
    · simp only [Option.some.injEq, Prod.mk.injEq] at h; obtain ⟨rfl, _⟩ := h; exact fin _ _ hc.2.2.2
    · split at h
      · split at h <;> try contradiction
        split at h <;> try contradiction
        simp only [Option.some.injEq, Prod.mk.injEq] at h; obtain ⟨rfl, _⟩ := h; exact fin _ _ hc.2.2.2
      · split at h <;> try contradiction
        split at h <;> try contradiction
        split at h <;> try contradiction
        split at h <;> try contradiction
        split at h <;> try contradiction
        simp only [Option.some.injEq, Prod.mk.injEq] at h; obtain ⟨rfl, _⟩ := h; exact fin _ _ hc.2.2.2
  | _ => simp [tk1] at h
theorem tkS_sound {ts : List Tk} {zs : List St} (h : ∀ w', ∃ ws qs, tkS P b n w' ts x = some (zs, ws, qs, qs) ∧ ws = ws.map fun _ => w') (hS : clrA x = true → Sp w (LJof x)) (k : Goal P B b n d (lastS zs x) w) :
    Goal P B b n d x w := by
  induction ts generalizing x zs with
  | nil => obtain ⟨ws, qs, hq, _⟩ := h w; simp only [tkS, Option.some.injEq, Prod.mk.injEq] at hq; obtain ⟨rfl, _⟩ := hq; exact k
  | cons t r ih =>
    have key : ∀ w', ∃ z zs' q, zs = z :: zs' ∧ tk1 P b n w' t x = some (z, w', q, q) ∧ ∃ ws qs, tkS P b n w' r z = some (zs', ws, qs, qs) ∧ ws = ws.map fun _ => w' := by
      intro w'
      obtain ⟨ws, qs, hq, hw⟩ := h w'
      simp only [tkS] at hq
      split at hq <;> try contradiction
      rename_i z w1 p q h1
      split at hq <;> try contradiction
      rename_i z' ws' ps' qs' h2
      simp only [Option.some.injEq, Prod.mk.injEq] at hq
      obtain ⟨rfl, rfl, rfl, hqs⟩ := hq
      simp only [List.cons.injEq] at hqs
      obtain ⟨rfl, rfl⟩ := hqs
      simp only [List.map_cons, List.cons.injEq] at hw
      obtain ⟨rfl, hw⟩ := hw
      exact ⟨z, z', q, rfl, h1, ws', qs', h2, hw⟩
    obtain ⟨z, zs', q, rfl, h1, _⟩ := key w
    have kp := tk1_keeps h1
    refine tk1_sound (t := t) (y := z) (fun w' => ?_) hS (ih (zs := zs') (fun w' => ?_) (fun hc => ?_) k)
    · obtain ⟨z2, zs2, q2, e, h2, _⟩ := key w'
      injection e with e1 _
      subst e1
      exact ⟨q2, h2⟩
    · obtain ⟨z2, zs2, q2, e, _, h3⟩ := key w'
      injection e with e1 e2
      subst e1 e2
      exact h3
    · rw [kp.1]; exact hS (by rw [← kp.2]; exact hc)
/-- Quiet operations, in this order. -/
theorem tk (ts : List Tk) (hS : clrA x = true → Sp w (LJof x)) (k : Goal P B b n d (lastS (tkL (tkS P b n w ts x)) x) w)
    (h1 : (fun w' => tkA (tkS P b n w' ts x)) = (fun w' => tkB w' (tkS P b n w' ts x)) := by kernel_rfl)
    (h2 : (fun w' => tkL (tkS P b n w' ts x)) = (fun _ => tkL (tkS P b n w ts x)) := by kernel_rfl) : Goal P B b n d x w := by
  refine tkS_sound (ts := ts) (fun w' => ?_) hS k
  have a1 := congrFun h1 w'
  have a2 := congrFun h2 w'
  cases hr : tkS P b n w' ts x with
  | none => simp [hr, tkA, tkB] at a1
  | some p =>
    obtain ⟨zs, ws, ps, qs⟩ := p
    rw [hr] at a1 a2
    simp only [tkA, tkB, Prod.mk.injEq] at a1
    obtain ⟨b1, rfl⟩ := a1
    refine ⟨ws, ps, ?_, b1⟩
    rw [← a2]
    rfl
end
end Go.Sx
