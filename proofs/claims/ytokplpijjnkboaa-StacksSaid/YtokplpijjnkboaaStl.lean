/- What a stack or a piece ranges over, listed: the walk of the loop over a function. -/
import Derived.Test.YtokplpijjnkboaaProg
import Derived.Test.YtokplpijjnkboaaStk
import Derived.Test.YtokplpijjnkboaaSx13
set_option linter.unusedVariables false
set_option linter.unusedSimpArgs false
namespace Go.Stk
open Go.RowKit Go.Sx Go.Gx
def cFst : Code → Code
  | .seq p _ => p
  | .block _ p => p
  | c => c
def cSnd : Code → Code
  | .seq _ q => q
  | c => c
def cOps : Code → Array Oper
  | .region _ o _ => o
  | _ => #[]
def cId : Code → Nat
  | .region i _ _ => i
  | _ => 0
def cAs : Code → Code
  | .rangeFunc _ _ a _ => a
  | c => c
def cBd : Code → Code
  | .rangeFunc _ _ _ d => d
  | c => c
def prs (xs : List (Int × Int)) : List Value := xs.flatMap fun p => [.int .i64 p.1, .int .i64 p.2]
theorem prs_take {xs : List (Int × Int)} {k : Nat} {a c : Int} (h : xs[k]? = some (a, c)) : prs (xs.take k) ++ [.int .i64 a, .int .i64 c] = prs (xs.take (k + 1)) := by
  rw [List.take_add_one, h]; simp [prs]
theorem put2 (X : Act) (h : X.defers = []) (i j : Nat) (v u : Value) : ({ tmps := (X.tmps.setIfInBounds i v).setIfInBounds j u, defers := [] } : Act) = (X.put (some i) v).put (some j) u := by
  obtain ⟨t, d⟩ := X
  simp only at h
  subst h
  rfl
/-- What the loop holds between two rounds. -/
def accI (kb lr D : Nat) (rec : Loop) (xs : List (Int × Int)) (S : Nat → Prop) (k : Nat) : Sx.Item :=
  comp (fun L => ∃ A cap, L = [.blk kb (.cells #[.slice A k cap] 44), .own 52 2 A cap k (prs (xs.take k)), .blk lr (.loop rec), .blk D (.deferred (some []))]) S
end Go.Stk
namespace Go.Proofs.Ytokplpijjnkboaa
open Go.RowKit Go.Sx Go.Stk Go.Gx
attribute [local irreducible] Go.wpOps Go.Code.wp Go.wpOp Go.wpAnyH Go.Calls Go.Sx.Goal Go.wpOpsIn
set_option maxRecDepth 20000
/-- The statement, read off the program's form. -/
noncomputable def lsR : Code := cFst (cSnd (cFst (cSnd (cSnd (Sx.bodyOf Try.f34)))))
theorem ls_rf : lsR = .rangeFunc (.tmp 6) #[7, 8] (cAs lsR) (cBd lsR) := by kernel_rfl
theorem ls_as : cAs lsR = .seq (.region (cId (cFst (cAs lsR))) (cOps (cFst (cAs lsR))) false) (.region (cId (cSnd (cAs lsR))) (cOps (cSnd (cAs lsR))) false) := by kernel_rfl
theorem ls_bd : cBd lsR = .block 1 (.region (cId (cFst (cBd lsR))) (cOps (cFst (cBd lsR))) false) := by kernel_rfl
theorem ls_round (b : Nat → Value) (v6 : Value) (kb lr D : Nat) (fn : FuncId) (xs : List (Int × Int)) (hxs : xs.length < 10000000000) :
    Yc Try.prog lr (accI kb lr D { state := .ready, pending := none, fn := fn, tmps := (Gx.Fr b 16 [(3, .pointer (some ⟨kb, 0, none⟩)), (6, v6)] []).tmps, params := #[7, 8], assign := cAs lsR, body := cBd lsR, defers := D } xs) xs := by
  intro k a c S W R hx HS hR
  have hk := (List.getElem?_eq_some_iff.1 hx).1
  obtain ⟨rec, hrec⟩ : ∃ rec : Loop, rec = { state := .ready, pending := none, fn := fn, tmps := (Gx.Fr b 16 [(3, .pointer (some ⟨kb, 0, none⟩)), (6, v6)] []).tmps, params := #[7, 8], assign := cAs lsR, body := cBd lsR, defers := D } := ⟨_, rfl⟩
  rw [← hrec] at HS hR
  obtain ⟨_, ⟨A, cap, rfl⟩, HO⟩ := (Hs.refl HS).opn 0 rfl
  have H := HO.pick (a := [.blk kb (.cells #[.slice A k cap] 44), .own 52 2 A cap k (prs (xs.take k)), .blk lr (.loop rec), .blk D (.deferred (some []))]) [0, 0, 0, 0] (by kernel_rfl)
  have hl : W.heap[lr]? = some (.loop rec) := H.at 2 rfl
  have hy := run_yield (P := Try.prog) (args := #[.int .i64 a, .int .i64 c]) hl (by rw [hrec]; rfl)
  refine ⟨rec.fn, _, rec.assign, rec.body, hy, roundIn_of_wpIn trivial ?_⟩
  have e : ({ tmps := (rec.params.zip #[Value.int .i64 a, .int .i64 c]).foldl (fun tmps (t, a) => tmps.setIfInBounds t a) rec.tmps, defers := [] } : Act) = Gx.Fr b 16 [(8, .int .i64 c), (7, .int .i64 a), (3, .pointer (some ⟨kb, 0, none⟩)), (6, v6)] [] := by
    have e0 : ∀ t : Array Value, ((#[7, 8] : Array Tmp).zip #[Value.int .i64 a, .int .i64 c]).foldl (fun tmps (t, a) => tmps.setIfInBounds t a) t = (t.setIfInBounds 7 (.int .i64 a)).setIfInBounds 8 (.int .i64 c) := fun t => by simp
    have e1 := put_Fr b 16 [(3, .pointer (some ⟨kb, 0, none⟩)), (6, v6)] [] 7 (.int .i64 a)
    have e2 := put_Fr b 16 [(7, .int .i64 a), (3, .pointer (some ⟨kb, 0, none⟩)), (6, v6)] [] 8 (.int .i64 c)
    rw [← e1] at e2
    rw [hrec, e0]
    exact (put2 (Gx.Fr b 16 [(3, .pointer (some ⟨kb, 0, none⟩)), (6, v6)] []) (by unfold Gx.Fr; rfl) 7 8 _ _).trans e2
  rw [e, show rec.assign = cAs lsR by rw [hrec], show rec.body = cBd lsR by rw [hrec], ls_as, ls_bd]
  refine wpIn_seq (reg_round lr _ _ _ _ _ (by kernel_rfl) fun K3 h3 => Sx.to 2 [(3, .pointer (some ⟨kb, 0, none⟩)), (4, .int .i64 a), (8, .int .i64 c)] (h3 _ _ ?_))
  refine reg_round lr _ _ _ _ _ (by kernel_rfl) fun K4 h4 => Sx.to 2 [(3, .pointer (some ⟨kb, 0, none⟩)), (4, .int .i64 a), (5, .int .i64 c)] (h4 _ _ ?_)
  refine ⟨_, run_beginRound hl (by rw [hrec]), ?_⟩
  have H2 := H.set (i := 2) (bk := lr) (o := .loop rec) rfl (grownBy_putObj' W lr (.loop { rec with state := .busy })) (World.putObj_heap_same (Has.lt hl))
  refine wpIn_block (reg_round lr _ _ _ _ _ (by kernel_rfl) fun K5 h5 => ?_)
  refine Sx.l 0 0 H2 ?_
  refine Sx.nw 3 H2 fun kn w3 H3 => ?_
  refine Sx.ap 0 1 4 16 1 0 52 2 44 1 kn A cap k (prs (xs.take k)) [.int .i64 a, .int .i64 c] H3 (by omega) (by omega) (prs_take hx) fun A' cap' w4 H4 => ?_
  refine Sx.s 0 0 H4 fun w5 H5 => ?_
  refine Sx.to 1 [] (h5 _ _ ?_)
  have H6 := H5.pick (a := [.blk kb (.cells #[.slice A' (k + 1) cap'] 44), .own 52 2 A' cap' (k + 1) (prs (xs.take (k + 1))), .blk lr (.loop { rec with state := .busy }), .blk D (.deferred (some []))]) [0, 0, 0, 0] (by kernel_rfl)
  have hl5 : w5.heap[lr]? = some (.loop { rec with state := .busy }) := H6.at 2 rfl
  refine ⟨_, _, run_endRound none hl5, _, rfl, ?_⟩
  have H7 := H6.set (i := 2) (bk := lr) rfl (grownBy_putObj' w5 lr (.loop rec)) (World.putObj_heap_same (Has.lt hl5))
  have er : ({ ({ rec with state := .busy } : Loop) with state := if (none : Option Code).isNone = true then .ready else .done, pending := none } : Loop) = rec := by rw [hrec]; rfl
  rw [er]
  have H8 := H7.cls (L1 := [.blk kb (.cells #[.slice A' (k + 1) cap'] 44), .own 52 2 A' cap' (k + 1) (prs (xs.take (k + 1))), .blk lr (.loop rec), .blk D (.deferred (some []))]) [0, 0, 0, 0] (by kernel_rfl) (shape := fun L => ∃ A cap, L = [.blk kb (.cells #[.slice A (k + 1) cap] 44), .own 52 2 A cap (k + 1) (prs (xs.take (k + 1))), .blk lr (.loop rec), .blk D (.deferred (some []))]) ⟨A', cap', rfl⟩ rfl
  exact hR _ _ (H8.pick (a := [accI kb lr D rec xs (fpA [.blk kb (.cells #[.slice A' (k + 1) cap'] 44), .own 52 2 A' cap' (k + 1) (prs (xs.take (k + 1))), .blk lr (.loop rec), .blk D (.deferred (some []))]) (k + 1)]) [0] (by kernel_rfl))
theorem fr_mark (b : Nat → Value) (n : Nat) (l : List (Nat × Value)) (mk : List Deferred) : ({ Gx.Fr b n l [] with defers := mk ++ (Gx.Fr b n l []).defers } : Act) = Gx.Fr b n l mk := by unfold Gx.Fr; simp
theorem post_goal {P : Program} {B : Exit → Act → World → Prop} {b : Nat → Value} {n : Nat} {l : List (Nat × Value)} {d : List Deferred} {k : List Kt} {w : World} (h : Goal P B b n d ⟨.ex .normal, k, l⟩ w) : post P B k .normal (Gx.Fr b n l d) w := by unfold Goal at h; exact h
theorem listed_c (g : Nat) (lb : Array Value) (x1 x2 : Sx.Item) (xs : List (Int × Int)) (hxs : xs.length < 10000000000) (eg : ∀ args w, (callFunc g args).run Try.prog w = .ok (.enter g args) w)
    (hit : ∀ (l : Nat) (acc : (Nat → Prop) → Nat → Sx.Item) (S : Nat → Prop) (w : World) (K : Ending → World → Prop), Sp w [acc S 0, x1, x2] → Yc Try.prog l acc xs → (∀ S' w', Hs w [acc S 0, x1, x2] w' [acc S' xs.length, x1, x2] → K (.returned (.tuple #[])) w') → Calls Try.prog g (#[.func (.yield l) #[] #[]] ++ lb) w K)
    (w : World) (K : Ending → World → Prop) (H0 : Sp w [x1, x2]) (hK : ∀ A cap w', Hs w [x1, x2] w' [.own 52 2 A cap xs.length (prs xs), x1, x2] → K (.returned (.slice A xs.length cap)) w') : Calls Try.prog 34 #[.func (.func g) #[] lb] w K := by
  have H := Hs.refl H0
  refine Sx.enM (vs := [.func (.func g) #[] lb]) 16 Try.func34 ?_
  refine Sx.nw 7 H fun kb w1 H1 => ?_
  have H2 := H1.add (Gx.Ext.refl _) (it := .own 52 2 none 0 0 []) (World.ownsRow_nil _ _ _ _) (fun _ h => by cases h)
  refine Sx.fg 8 [(3, .pointer (some ⟨kb, 0, none⟩)), (6, .func (.func g) #[] lb)] fun b => ?_
  refine Sx.rf0 1 (.tmp 6) #[7, 8] (cAs lsR) (cBd lsR) [(3, .pointer (some ⟨kb, 0, none⟩)), (6, .func (.func g) #[] lb)] (wpIn_rangeFunc fun fn _ => ?_)
  obtain ⟨rec, hrec⟩ : ∃ rec : Loop, rec = { state := .ready, pending := none, fn := fn, tmps := (Gx.Fr b 16 [(3, .pointer (some ⟨kb, 0, none⟩)), (6, .func (.func g) #[] lb)] []).tmps, params := #[7, 8], assign := cAs lsR, body := cBd lsR, defers := w1.heap.size } := ⟨_, rfl⟩
  have hD : Has ((w1.alloc (.deferred (some []))).alloc (.loop rec)) w1.heap.size (.deferred (some [])) := (Below.heap_alloc _ _ _ (by simp)).trans (World.alloc_heap_new w1 _)
  have hLr : Has ((w1.alloc (.deferred (some []))).alloc (.loop rec)) (w1.heap.size + 1) (.loop rec) := by have := World.alloc_heap_new (w1.alloc (.deferred (some []))) (.loop rec); rwa [World.size_alloc] at this
  have H3 := H2.new (World.grownBy_alloc w1 (.deferred (some [])) none) (World.alloc_heap_new w1 _) (Nat.le_refl _)
  have H4 := H3.new (bk := w1.heap.size + 1) (World.grownBy_alloc _ (.loop rec) none) hLr (by rw [World.size_alloc]; exact Nat.le_refl _)
  have H5 := H4.pick (a := [.blk kb (.cells #[.slice none 0 0] 44), .own 52 2 none 0 0 [], .blk (w1.heap.size + 1) (.loop rec), .blk w1.heap.size (.deferred (some [])), x1, x2]) [2, 2, 3, 2, 0, 0] (by kernel_rfl)
  have H6 := H5.cls (L1 := [.blk kb (.cells #[.slice none 0 0] 44), .own 52 2 none 0 0 [], .blk (w1.heap.size + 1) (.loop rec), .blk w1.heap.size (.deferred (some []))]) [0, 0, 0, 0] (by kernel_rfl) (shape := fun L => ∃ A cap, L = [.blk kb (.cells #[.slice A 0 cap] 44), .own 52 2 A cap 0 (prs (xs.take 0)), .blk (w1.heap.size + 1) (.loop rec), .blk w1.heap.size (.deferred (some []))]) ⟨none, 0, rfl⟩ rfl
  have H7 := H6.pick (a := [accI kb (w1.heap.size + 1) w1.heap.size rec xs (fpA [.blk kb (.cells #[.slice none 0 0] 44), .own 52 2 none 0 0 [], .blk (w1.heap.size + 1) (.loop rec), .blk w1.heap.size (.deferred (some []))]) 0, x1, x2]) [0, 0, 0] (by kernel_rfl)
  have hg : (Gx.Fr b 16 [(3, .pointer (some ⟨kb, 0, none⟩)), (6, .func (.func g) #[] lb)] []).eval (.tmp 6) = .func (.func g) #[] lb := by rw [eval_Fr]; rfl
  refine ⟨w1.heap.size + 1, [{ target := .collected w1.heap.size, args := #[] }], (w1.alloc (.deferred (some []))).alloc (.loop rec), { target := .fn (.func g) lb, args := #[.func (.yield (w1.heap.size + 1)) #[] #[]] }, (w1.alloc (.deferred (some []))).alloc (.loop rec), g, #[.func (.yield (w1.heap.size + 1)) #[] #[]] ++ lb, (w1.alloc (.deferred (some []))).alloc (.loop rec), ?_, ?_, fun _ _ => trivial, ?_, fun _ => Nat.le_refl _, callsIn_wide.2 (hit (w1.heap.size + 1) (accI kb (w1.heap.size + 1) w1.heap.size rec xs) _ _ _ H7.sp (by rw [hrec]; exact ls_round b _ kb _ _ fn xs hxs) fun S' w' H' => ?_)⟩
  · rw [hrec]; exact run_enterLoop_outer _ _ _ _ _
  · simp only [resolve, hg]
    simp [go_sem]
  · simp [invoke, go_sem, eg]
  · have HT := H7.trans H'
    obtain ⟨_, ⟨A, cap, rfl⟩, HO⟩ := HT.opn 0 rfl
    simp only [List.take_length] at HO
    have H8 := HO.pick (a := [.blk kb (.cells #[.slice A xs.length cap] 44), .own 52 2 A cap xs.length (prs xs), .blk (w1.heap.size + 1) (.loop rec), .blk w1.heap.size (.deferred (some [])), x1, x2]) [0, 0, 0, 0, 0, 0] (by kernel_rfl)
    have hl : w'.heap[w1.heap.size + 1]? = some (.loop rec) := H8.at 2 rfl
    have he := run_endLoop (P := Try.prog) hl (by rw [hrec]; simp)
    refine ⟨rec.pending, _, he, ?_⟩
    rw [show rec.pending = none by rw [hrec]]
    have H9 := H8.set (i := 2) (bk := w1.heap.size + 1) rfl (grownBy_putObj' w' _ (.loop { rec with state := .exhausted, pending := none })) (World.putObj_heap_same (Has.lt hl))
    show post _ _ _ .normal _ _
    rw [fr_mark]
    refine post_goal ?_
    refine Sx.l 4 0 H9 ?_
    exact Sx.rtM 4 [] H9 (.slice A xs.length cap) 3 w1.heap.size rfl fun w2 H10 => hK A cap w2 (H10.pick (a := [.own 52 2 A cap xs.length (prs xs), x1, x2]) [1, 3, 3] (by kernel_rfl))
end Go.Proofs.Ytokplpijjnkboaa
