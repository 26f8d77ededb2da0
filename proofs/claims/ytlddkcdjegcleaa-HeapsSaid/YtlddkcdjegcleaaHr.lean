/- A range over a function, whatever its body: the statement, its rounds, the way out of the function that holds it. -/
import Derived.Test.YtlddkcdjegcleaaSx12
import Derived.RangeFuncLeaves
import Derived.RangeFuncRecord
import Derived.RangeFuncOwn
set_option linter.unusedVariables false
set_option linter.unusedSimpArgs false
namespace Go.Sx
open Go.RowKit Go.Gx
/-- What the body of a function that holds ranges over functions must achieve: it does not panic. -/
def bodyX (P : Program) (fn : Func) (K : Ending → World → Prop) : Exit → Act → World → Prop
  | .normal, a, w | .ret, a, w => LeavesInM Fence.wide 1 P fn a.tmps K a.defers .returning w
  | _, _, _ => False
instance pnX {P : Program} {fn : Func} {K : Ending → World → Prop} : @Pn rd0 (bodyX P fn K) := @Pn.mk rd0 _ (fun _ _ _ _ _ h => h.elim) (.inl rfl)
theorem enX {P : Program} {f : FuncId} {fn : Func} {vs : List Value} {w : World} {K : Ending → World → Prop} (n : Nat)
    (hf : P.funcs[f]? = some fn) (k : @Goal rd0 P (bodyX P fn K) (fun _ => undef) n [] ⟨.code (bodyOf fn), [], enterL vs 0⟩ w) (hb : fn.body.isSome = true := by kernel_rfl) (hn : fn.ntmps = n := by kernel_rfl) (hle : Nat.ble vs.length n = true := by kernel_rfl) : Calls P f vs.toArray w K := by
  unfold bodyOf at k
  cases h : fn.body with
  | none => simp [h] at hb
  | some c =>
    rw [h] at k
    have hle := Nat.le_of_ble_eq_true hle
    refine (callsIn_wide (n := 1)).1 (callsIn_of_wp_marks hf h trivial ?_)
    have e : ({ tmps := vs.toArray ++ Array.replicate (fn.ntmps - vs.toArray.size) undef, defers := [] } : Act) = Fr (fun _ => undef) n (enterL vs 0) [] := by
      unfold Fr
      congr 1
      apply Array.ext
      · simp [hn]; omega
      · intro j h1 h2
        simp only [Array.getElem_ofFn, get_enterL, Nat.zero_le, true_and, Nat.sub_zero]
        by_cases hj : j < vs.length
        · rw [dif_pos hj, Array.getElem_append_left (by simpa using hj)]
          simp
        · rw [dif_neg hj, Array.getElem_append_right (by simpa using hj)]
          simp
    rw [e]
    refine wpIn_mono k fun e a w h => ?_
    cases e <;> first | exact h | exact h.elim
instance pnF [Rd] : Pn (fun _ _ _ => False) := ⟨fun _ _ _ _ _ h => h.elim, .inr fun _ _ h => h⟩
/-- A mark of a range over a function. -/
def mkD (D : Nat) : Deferred := { target := .collected D, args := #[] }
section
variable {P : Program} {b : Nat → Value} {n : Nat} {w0 w : World} {x : St} {L0 L : List Item}
theorem leave {fn : Func} {tmps : Array Value} {K : Ending → World → Prop} {R : List Item} : ∀ (Ds : List Nat) {w : World}, Hs w0 L0 w (Ds.map (fun D => .blk D (.deferred (some []))) ++ R) →
    (∀ w', Hs w0 L0 w' R → ∃ v, (results fn tmps).run P w' = .ok v w' ∧ K (.returned v) w') → LeavesInM Fence.wide 1 P fn tmps K (Ds.map mkD) .returning w
  | [], _, H, k => by obtain ⟨v, h1, h2⟩ := k _ H; exact ⟨v, h1, h2⟩
  | D :: Ds, w, H, k => by
    have hD : Has w D (.deferred (some [])) := H.sp.all _ (.head _)
    have H' : Hs w0 L0 (w.putObj D (.deferred none)) (.blk D (.deferred none) :: (Ds.map (fun D => .blk D (.deferred (some []))) ++ R)) := H.set (i := 0) rfl (grownBy_putObj' w D _) (World.putObj_heap_same (Has.lt hD))
    have H2 : Hs w0 L0 (w.putObj D (.deferred none)) (Ds.map (fun D => .blk D (.deferred (some []))) ++ R) :=
      ⟨H'.kp, ⟨fun it hi => H'.sp.all it (.tail _ hi), (List.pairwise_cons.1 H'.sp.dis).2⟩, fun it hi => H'.ofA it (.tail _ hi), fun it hi => H'.ofW it (.tail _ hi)⟩
    exact ⟨by simp, .inl ⟨D, _, rfl, run_takeDeferred hD, leave Ds H2 k⟩⟩
/-- The way out: the blocks of the rounds' deferred calls are shut. -/
theorem rtX {fn : Func} {K : Ending → World → Prop} (m : Nat) (Ds J : List Nat) (H : Hs w0 L0 w L) (v : Value) (hJ : picked J L = some (Ds.map (fun D => .blk D (.deferred (some [])))))
    (k : ∀ w', Hs w0 L0 w' (rest J L) → K (.returned v) w')
    (h : vA (via P b n m w x (rtR P fn b n [] [])) = vB w (via P b n m w x (rtR P fn b n [] [])) := by kernel_rfl)
    (he : (vX (via P b n m w x (rtR P fn b n [] []))).1 = [] := by kernel_rfl)
    (hv : (vX (via P b n m w x (rtR P fn b n [] []))).2 = v := by kernel_rfl) : Goal P (bodyX P fn K) b n (Ds.map mkD) x w := by
  obtain ⟨a, y, hr, hf⟩ := via_ok h
  refine run_sound hr ?_
  generalize vX (via P b n m w x (rtR P fn b n [] [])) = z at *
  obtain ⟨f, k', l⟩ := y
  unfold rtR at hf
  split at hf <;> try contradiction
  rename_i hk
  split at hf <;> try contradiction
  rename_i hfo
  split at hf <;> try contradiction
  rename_i e vs hl
  simp only [Option.some.injEq, Prod.mk.injEq] at hf
  obtain ⟨_, _, rfl⟩ := hf
  simp only at hk hfo he hv hl
  subst hk hv he
  have H' : Hs w0 L0 w (Ds.map (fun D => .blk D (.deferred (some []))) ++ rest J L) := H.perm (picked_perm hJ)
  have key : LeavesInM Fence.wide 1 P fn (Fr b n l (Ds.map mkD)).tmps K (Ds.map mkD) .returning w := leave Ds H' fun w' H2 =>
    ⟨_, rt_res (rt_list (w := w') hl rfl (⟨fun _ h => absurd h List.not_mem_nil, List.Pairwise.nil⟩ : Sp w' [])), k w' H2⟩
  unfold Goal
  cases f with
  | ex e => cases e <;> simp only [reduceCtorEq] at hfo <;> exact key
  | code c => simp at hfo
  | ops o j => simp at hfo
  | op1 _ _ _ => simp at hfo
  | kk _ => simp at hfo
  | any _ _ _ _ _ => simp at hfo
end
theorem pickS_pre (L1 R : List Item) : pickS (L1.map fun _ => 0) (L1 ++ R) = some (L1, R) := by
  induction L1 with
  | nil => rfl
  | cons x L1 ih => simp only [List.map_cons, List.cons_append, pickS, takeIx, ih]
theorem pick_pre (L1 R : List Item) : picked (L1.map fun _ => 0) (L1 ++ R) = some L1 ∧ rest (L1.map fun _ => 0) (L1 ++ R) = R := by
  unfold picked rest; rw [pickS_pre]; exact ⟨rfl, rfl⟩
/-- A call that turns the first things. -/
theorem Hs.pre {w0 w w' : World} {L0 L1 L1' R : List Item} (H : Hs w0 L0 w (L1 ++ R)) (k : Hs w L1 w' L1') : Hs w0 L0 w' (L1' ++ R) := by
  have h := H.call _ (pick_pre L1 R).1 k
  rwa [(pick_pre L1 R).2] at h
/-! ### The statement -/
def rfR (x : St) : Option (Nat × Nat × St × Operand × Array Tmp × Code × Code) :=
  match x.f with
  | .code c => match c with
    | .rangeFunc g ps as bd => some (0, 0, x, g, ps, as, bd)
    | _ => none
  | _ => none
def cAs : Code → Code
  | .rangeFunc _ _ a _ => a
  | c => c
def cBd : Code → Code
  | .rangeFunc _ _ _ d => d
  | c => c
/-- A round's parameters. -/
def insL : List Nat → List Value → List (Nat × Value) → List (Nat × Value)
  | p :: ps, v :: vs, l => insL ps vs ((p, v) :: l)
  | _, _, l => l
theorem fold_Fr (b : Nat → Value) (n : Nat) (d : List Deferred) : ∀ (ps : List Nat) (vs : List Value) (l : List (Nat × Value)), (ps.zip vs).foldl (fun t (q : Nat × Value) => t.setIfInBounds q.1 q.2) (Fr b n l d).tmps = (Fr b n (insL ps vs l) []).tmps
  | [], vs, l => by simp only [List.zip_nil_left, List.foldl_nil, insL]; rfl
  | p :: ps, [], l => by simp only [List.zip_nil_right, List.foldl_nil, insL]; rfl
  | p :: ps, v :: vs, l => by
    simp only [List.zip_cons_cons, List.foldl_cons, insL]
    rw [← fold_Fr b n d ps vs]
    have e := congrArg Act.tmps (put_Fr b n l d p v)
    rw [← e]; rfl
/-- The widest fence has room for any depth. -/
theorem any_n {lr n m : Nat} {P : Program} {c : Code} {Q : Exit → Act → World → Prop} {a : Act} {w : World} (h : c.wpIn (Fence.wide.inRound lr) n P Q a w) : c.wpIn (Fence.wide.inRound lr) m P Q a w :=
  fun b k cs hro hb _ => h b k cs hro hb (fun d hd => by simp [Fence.wide] at hd)
/-- What yield does: the caller's things go from k to k + 1. -/
def Yv (P : Program) (l : Nat) (acc : (Nat → Prop) → Nat → Item) (N : Nat) (yv : Nat → List Value) : Prop := ∀ (k : Nat) (S : Nat → Prop) (W : World) (R : Ending → World → Prop), k < N → Sp W [acc S k] →
  (∀ S' W', Hs W [acc S k] W' [acc S' (k + 1)] → R (.returned (.bool true)) W') → YieldAt Fence.wide 0 P l (yv k).toArray W (fun e w' => ∃ v, e = .returned v ∧ R e w')
/-- The caller's things and the loop's own. -/
def accR (lr D : Nat) (rec : Loop) (inner : (Nat → Prop) → Nat → Item) (S : Nat → Prop) (k : Nat) : Item := comp (fun L => ∃ S', L = [inner S' k, .blk lr (.loop rec), .blk D (.deferred (some []))]) S
section
variable {P : Program} {b : Nat → Value} {n : Nat} {d : List Deferred} {w0 w : World} {x : St} {L0 L : List Item} {B : Exit → Act → World → Prop}
theorem round_Yv {N : Nat} {yv : Nat → List Value} {inner : (Nat → Prop) → Nat → Item} (hwr : ∀ S k, (inner S k).wr = true) (lr D : Nat) (ps : Array Tmp) (hsz : ∀ k, (yv k).length = ps.size) (as bd : Code) (l' : List (Nat × Value)) (l1 : Nat → List (Nat × Value)) (fn : FuncId)
    (hA : ∀ k, k < N → ∀ (I : Rd) (W : World) (K : Act → World → Prop), (∀ b', K (Fr b' n (l1 k) []) W) → @Goal I P (fun _ _ _ => False) b n [] ⟨.code as, [.to K], insL ps.toList (yv k) l'⟩ W)
    (hB : ∀ k, k < N → ∀ (I : Rd) (b' : Nat → Value) (S : Nat → Prop) (W : World) (K : Act → World → Prop), Sp W [inner S k] → (∀ b' l' S' W', Hs W [inner S k] W' [inner S' (k + 1)] → K (Fr b' n l' []) W') → @Goal I P (fun _ _ _ => False) b' n [] ⟨.code bd, [.to K], l1 k⟩ W) :
    Yv P lr (accR lr D { state := .ready, pending := none, fn := fn, tmps := (Fr b n l' d).tmps, params := ps, assign := as, body := bd, defers := D } inner) N yv := by
  intro k S W R hk HS hR
  obtain ⟨rec, hrec⟩ : ∃ rec : Loop, rec = { state := .ready, pending := none, fn := fn, tmps := (Fr b n l' d).tmps, params := ps, assign := as, body := bd, defers := D } := ⟨_, rfl⟩
  rw [← hrec] at HS hR
  obtain ⟨_, ⟨S1, rfl⟩, HO⟩ := (Hs.refl HS).opn 0 rfl
  have H : Hs W [accR lr D rec inner S k] W [inner S1 k, .blk lr (.loop rec), .blk D (.deferred (some []))] := HO.pick [0, 0, 0] (by rfl)
  have hl : W.heap[lr]? = some (.loop rec) := H.at 1 rfl
  have hy := run_yield (P := P) (args := (yv k).toArray) hl (by rw [hrec]; simp [hsz])
  refine ⟨rec.fn, _, rec.assign, rec.body, hy, roundIn_of_wpIn trivial ?_⟩
  have e : ({ tmps := (rec.params.zip (yv k).toArray).foldl (fun tmps (t, a) => tmps.setIfInBounds t a) rec.tmps, defers := [] } : Act) = Fr b n (insL ps.toList (yv k) l') [] := by
    have e0 := fold_Fr b n d ps.toList (yv k) l'
    rw [hrec]
    show ({ tmps := (ps.zip (yv k).toArray).foldl (fun tmps (q : Nat × Value) => tmps.setIfInBounds q.1 q.2) (Fr b n l' d).tmps, defers := [] } : Act) = _
    rw [← Array.foldl_toList, Array.toList_zip, e0]
    rfl
  rw [e, show rec.assign = as by rw [hrec], show rec.body = bd by rw [hrec]]
  refine any_n (n := 1) (hA k hk ⟨some lr⟩ W _ fun b' => ?_)
  refine ⟨_, run_beginRound hl (by rw [hrec]), ?_⟩
  have H2 := H.set (i := 1) (bk := lr) (o := .loop rec) rfl (grownBy_putObj' W lr (.loop { rec with state := .busy })) (World.putObj_heap_same (Has.lt hl))
  have H3 : Hs W [accR lr D rec inner S k] _ [inner S1 k, .blk lr (.loop { rec with state := .busy }), .blk D (.deferred (some []))] := H2
  refine any_n (n := 1) (wpIn_mono (hB k hk ⟨some lr⟩ b' S1 _ (fun _ w' => ∃ v w'', (Instr.endRound lr none).run P w' = .ok v w'' ∧ ∃ v', Ending.returned v = .returned v' ∧ R (.returned v) w'') (H3.sub [0] (by rfl)) fun b2 l2 S2 W2 G => ?_) (fun e a w h => ?_))
  · have H4 : Hs W [accR lr D rec inner S k] W2 [inner S2 (k + 1), .blk lr (.loop { rec with state := .busy }), .blk D (.deferred (some []))] := H3.call [0] (by rfl) G
    have hl5 : W2.heap[lr]? = some (.loop { rec with state := .busy }) := H4.at 1 rfl
    refine ⟨_, _, run_endRound none hl5, _, rfl, ?_⟩
    have H7 := H4.set (i := 1) (bk := lr) rfl (grownBy_putObj' W2 lr (.loop rec)) (World.putObj_heap_same (Has.lt hl5))
    have er : ({ ({ rec with state := .busy } : Loop) with state := if (none : Option Code).isNone = true then .ready else .done, pending := none } : Loop) = rec := by rw [hrec]; rfl
    rw [er]
    have H8 : Hs W [accR lr D rec inner S k] _ [accR lr D rec inner (fpA [inner S2 (k + 1), .blk lr (.loop rec), .blk D (.deferred (some []))]) (k + 1)] :=
      H7.cls (L1 := [inner S2 (k + 1), .blk lr (.loop rec), .blk D (.deferred (some []))]) [0, 0, 0] (by rfl) ⟨S2, rfl⟩ (by rw [List.all_cons, hwr]; rfl)
    exact hR _ _ H8
  · cases e <;> first | exact h | exact h.elim
/-- The statement. -/
theorem rfn {N : Nat} {yv : Nat → List Value} {inner : (Nat → Prop) → Nat → Item} (hwr : ∀ S k, (inner S k).wr = true) (m : Nat) (t : Nat) (ps : Array Tmp) (as bd : Code) (hsz : ∀ k, (yv k).length = ps.size) (l' : List (Nat × Value)) (l1 : Nat → List (Nat × Value)) (gid : FuncId) (caps lb : List Value)
    (I : List Nat) (S0 : Nat → Prop) (X : List Item) (H : Hs w0 L0 w L) (hI : picked I L = some (inner S0 0 :: X))
    (eg : ∀ args w, (callFunc gid args).run P w = .ok (.enter gid args) w)
    (hit : ∀ (l : Nat) (acc : (Nat → Prop) → Nat → Item) (x y : Item) (hw : ∀ S k, acc S k = comp (fun L => ∃ S', L = [inner S' k, x, y]) S) (hx : x.wr = true) (hy : y.wr = true) (S : Nat → Prop) (w : World) (K : Ending → World → Prop), Sp w (acc S 0 :: X) → Yv P l acc N yv → (∀ S' w', Hs w (acc S 0 :: X) w' (acc S' N :: X) → K (.returned (.tuple #[])) w') → Calls P gid (caps ++ [Value.func (.yield l) #[] #[]] ++ lb).toArray w K)
    (hA : ∀ k, k < N → ∀ (b : Nat → Value) (I : Rd) (W : World) (K : Act → World → Prop), (∀ b', K (Fr b' n (l1 k) []) W) → @Goal I P (fun _ _ _ => False) b n [] ⟨.code as, [.to K], insL ps.toList (yv k) l'⟩ W)
    (hB : ∀ k, k < N → ∀ (I : Rd) (b' : Nat → Value) (S : Nat → Prop) (W : World) (K : Act → World → Prop), Sp W [inner S k] → (∀ b' l' S' W', Hs W [inner S k] W' [inner S' (k + 1)] → K (Fr b' n l' []) W') → @Goal I P (fun _ _ _ => False) b' n [] ⟨.code bd, [.to K], l1 k⟩ W)
    (k : ∀ (D : Nat) (S' : Nat → Prop) (b' : Nat → Value) (w' : World), Hs w0 L0 w' (.blk D (.deferred (some [])) :: inner S' N :: (X ++ rest I L)) → Goal P B b' n (mkD D :: d) ⟨.ex .normal, (vX (via P b n m w x rfR)).1.k, l'⟩ w')
    (hg : ev b n (vX (via P b n m w x rfR)).1.l (.tmp t) = .func (.func gid) caps.toArray lb.toArray := by kernel_rfl)
    (h : vA (via P b n m w x rfR) = vB w (via P b n m w x rfR) := by kernel_rfl)
    (h2 : (vX (via P b n m w x rfR)).2 = (.tmp t, ps, as, bd) := by kernel_rfl)
    (h3 : l'.map (fun p => get b (vX (via P b n m w x rfR)).1.l p.1) = l'.map (fun p => p.2) := by kernel_rfl) : Goal P B b n d x w := by
  obtain ⟨a, y, hr, hf⟩ := via_ok h
  refine run_sound hr ?_
  generalize vX (via P b n m w x rfR) = z at *
  obtain ⟨f, kk, ll⟩ := y
  unfold rfR at hf
  split at hf <;> try contradiction
  rename_i c hc
  split at hf <;> try contradiction
  rename_i g' ps' as' bd'
  simp only [Option.some.injEq, Prod.mk.injEq] at hf
  obtain ⟨_, _, rfl⟩ := hf
  simp only [Prod.mk.injEq] at h2 hc
  obtain ⟨rfl, rfl, rfl, rfl⟩ := h2
  subst hc
  simp only at hg h3 k
  refine wpIn_rangeFunc fun fn _ => ?_
  obtain ⟨rec, hrec⟩ : ∃ rec : Loop, rec = { state := .ready, pending := none, fn := fn, tmps := (Fr b n ll d).tmps, params := ps', assign := as', body := bd', defers := w.heap.size } := ⟨_, rfl⟩
  have hLr : Has ((w.alloc (.deferred (some []))).alloc (.loop rec)) (w.heap.size + 1) (.loop rec) := by have := World.alloc_heap_new (w.alloc (.deferred (some []))) (.loop rec); rwa [World.size_alloc] at this
  have H0 : Hs w0 L0 w (inner S0 0 :: (X ++ rest I L)) := by have := H.perm (picked_perm hI); rwa [List.cons_append] at this
  have H3 := H0.new (World.grownBy_alloc w (.deferred (some [])) none) (World.alloc_heap_new w _) (Nat.le_refl _)
  have H4 := H3.new (bk := w.heap.size + 1) (World.grownBy_alloc _ (.loop rec) none) hLr (by rw [World.size_alloc]; exact Nat.le_refl _)
  have H5 : Hs w0 L0 ((w.alloc (.deferred (some []))).alloc (.loop rec)) ([inner S0 0, .blk (w.heap.size + 1) (.loop rec), .blk w.heap.size (.deferred (some []))] ++ (X ++ rest I L)) := H4.perm (by
    rw [show inner S0 0 :: (X ++ rest I L) ++ [Item.blk w.heap.size (.deferred (some []))] ++ [Item.blk (w.heap.size + 1) (.loop rec)] = [inner S0 0] ++ ((X ++ rest I L) ++ [.blk w.heap.size (.deferred (some [])), .blk (w.heap.size + 1) (.loop rec)]) by simp]
    refine List.Perm.append_left [inner S0 0] ?_
    refine List.perm_append_comm.trans ?_
    exact List.Perm.append_right _ (List.Perm.swap _ _ _))
  have H7 : Hs w0 L0 ((w.alloc (.deferred (some []))).alloc (.loop rec)) (accR (w.heap.size + 1) w.heap.size rec inner (fpA [inner S0 0, .blk (w.heap.size + 1) (.loop rec), .blk w.heap.size (.deferred (some []))]) 0 :: (X ++ rest I L)) := by
    have h := H5.cls (L1 := [inner S0 0, .blk (w.heap.size + 1) (.loop rec), .blk w.heap.size (.deferred (some []))]) [0, 0, 0] (by rfl) (shape := fun L => ∃ S', L = [inner S' 0, .blk (w.heap.size + 1) (.loop rec), .blk w.heap.size (.deferred (some []))]) ⟨S0, rfl⟩ (by rw [List.all_cons, hwr]; rfl)
    exact h
  have hsp : Sp ((w.alloc (.deferred (some []))).alloc (.loop rec)) (accR (w.heap.size + 1) w.heap.size rec inner (fpA [inner S0 0, .blk (w.heap.size + 1) (.loop rec), .blk w.heap.size (.deferred (some []))]) 0 :: X) := by
    have pw := List.pairwise_append.1 (show (accR (w.heap.size + 1) w.heap.size rec inner (fpA [inner S0 0, .blk (w.heap.size + 1) (.loop rec), .blk w.heap.size (.deferred (some []))]) 0 :: X ++ rest I L).Pairwise apart from H7.sp.dis)
    exact ⟨fun it hi => H7.sp.all it (by rcases List.mem_cons.1 hi with rfl | q; exact .head _; exact .tail _ (List.mem_append_left _ q)), pw.1⟩
  refine ⟨w.heap.size + 1, [mkD w.heap.size], (w.alloc (.deferred (some []))).alloc (.loop rec), { target := .fn (.func gid) lb.toArray, args := caps.toArray ++ #[.func (.yield (w.heap.size + 1)) #[] #[]] }, (w.alloc (.deferred (some []))).alloc (.loop rec), gid, (caps ++ [Value.func (.yield (w.heap.size + 1)) #[] #[]] ++ lb).toArray, (w.alloc (.deferred (some []))).alloc (.loop rec), ?_, ?_, fun _ _ => trivial, ?_, fun _ => Nat.le_refl _, (callsIn_wide (n := 0)).2 (hit (w.heap.size + 1) (accR (w.heap.size + 1) w.heap.size rec inner) _ _ (fun S k => rfl) rfl rfl _ _ _ hsp ?_ fun S' w' H' => ?_)⟩
  · rw [hrec]; exact run_enterLoop_outer _ _ _ _ _
  · simp only [resolve, eval_Fr, hg]
    simp [go_sem]
    rfl
  · simp [invoke, go_sem, eg]
  · rw [hrec, forget l' h3]
    exact round_Yv hwr (w.heap.size + 1) w.heap.size ps' hsz as' bd' l' l1 fn (fun k hk lr W K hK => hA k hk _ lr W K hK) hB
  · have HT : Hs w0 L0 w' ((accR (w.heap.size + 1) w.heap.size rec inner S' N :: X) ++ rest I L) := H7.pre (L1 := accR (w.heap.size + 1) w.heap.size rec inner _ 0 :: X) H'
    obtain ⟨_, ⟨S2, rfl⟩, HO⟩ := HT.opn 0 (shape := fun L => ∃ S', L = [inner S' N, .blk (w.heap.size + 1) (.loop rec), .blk w.heap.size (.deferred (some []))]) rfl
    have H8 : Hs w0 L0 w' (inner S2 N :: .blk (w.heap.size + 1) (.loop rec) :: .blk w.heap.size (.deferred (some [])) :: (X ++ rest I L)) := HO
    have hl : w'.heap[w.heap.size + 1]? = some (.loop rec) := H8.sp.all _ (.tail _ (.head _))
    have he := run_endLoop (P := P) hl (by rw [hrec]; simp)
    refine ⟨rec.pending, _, he, ?_⟩
    rw [show rec.pending = none by rw [hrec]]
    have H9 : Hs w0 L0 (w'.putObj (w.heap.size + 1) (.loop { rec with state := .exhausted, pending := none })) (inner S2 N :: .blk (w.heap.size + 1) (.loop { rec with state := .exhausted, pending := none }) :: .blk w.heap.size (.deferred (some [])) :: (X ++ rest I L)) := H8.set (i := 1) (bk := w.heap.size + 1) rfl (grownBy_putObj' w' _ (.loop { rec with state := .exhausted, pending := none })) (World.putObj_heap_same (Has.lt hl))
    have H10 : Hs w0 L0 (w'.putObj (w.heap.size + 1) (.loop { rec with state := .exhausted, pending := none })) (.blk w.heap.size (.deferred (some [])) :: inner S2 N :: (X ++ rest I L)) := by
      have hp : (inner S2 N :: .blk (w.heap.size + 1) (.loop { rec with state := .exhausted, pending := none }) :: .blk w.heap.size (.deferred (some [])) :: (X ++ rest I L)).Perm (.blk (w.heap.size + 1) (.loop { rec with state := .exhausted, pending := none }) :: .blk w.heap.size (.deferred (some [])) :: inner S2 N :: (X ++ rest I L)) :=
        (List.Perm.swap _ _ _).trans (List.Perm.cons _ (List.Perm.swap _ _ _))
      have h := H9.perm hp
      exact ⟨h.kp, ⟨fun it hi => h.sp.all it (.tail _ hi), (List.pairwise_cons.1 h.sp.dis).2⟩, fun it hi => h.ofA it (.tail _ hi), fun it hi => h.ofW it (.tail _ hi)⟩
    have hk := k w.heap.size S2 (get b ll) _ H10
    unfold Goal at hk
    show post P B kk .normal { Fr b n ll d with defers := [mkD w.heap.size] ++ (Fr b n ll d).defers } _
    rw [show ({ Fr b n ll d with defers := [mkD w.heap.size] ++ (Fr b n ll d).defers } : Act) = Fr (get b ll) n l' (mkD w.heap.size :: d) by rw [forget (d := d) l' h3]; rfl]
    exact hk
end
end Go.Sx
