/- A part of the proof (YtlddkcdjegcleaaHw5), printed by a program of ours. -/
import Derived.Test.YtlddkcdjegcleaaProg
import Derived.Test.YtlddkcdjegcleaaHq
import Derived.Test.YtlddkcdjegcleaaHc
import Derived.Test.YtlddkcdjegcleaaHw1
import Derived.Test.YtlddkcdjegcleaaHw2
import Derived.Test.YtlddkcdjegcleaaHw3
import Derived.Test.YtlddkcdjegcleaaHw4
set_option linter.unusedVariables false
set_option linter.unusedSimpArgs false
namespace Go.Proofs.Ytlddkcdjegcleaa
open Go.RowKit Go.Sx Go.Hp
attribute [local irreducible] Go.wpOps Go.Code.wp Go.wpOp Go.wpAnyH Go.Calls Go.Sx.Goal Go.Code.wpIn
set_option maxRecDepth 20000
theorem where_c (fbx hxb hb g N u gm nw gf : Nat) (i : Nat) (C : Nat → Cl) (W F : Nat → Int) (M : List Th) (f B : Nat → Bool) (w : World) (K : Ending → World → Prop) (H0 : Sp w [.blk fbx (.cells #[.slice (some ⟨gf, 0, none⟩) nw nw] 62), .blk hxb (.cells #[.pointer (some ⟨hb, 0, none⟩)] 23), .blk hb (.cells #[.slice (some ⟨g, 0, none⟩) N N, .int .i64 ((u : Nat) : Int), .slice (some ⟨gm, 0, none⟩) nw nw] 56), .own 43 2 (some ⟨g, 0, none⟩) N N (cls N C), .own 72 1 (some ⟨gm, 0, none⟩) nw nw (wds .u64 nw W), .own 21 1 (some ⟨gf, 0, none⟩) nw nw (wds .i32 nw F)]) (hi : i < M.length) (hf : f i = true) (hW : Words W B) (hB : ∀ i, i < M.length → B (adr M i) = f i) (hBs : ∀ a, B a = true → ∃ i, i < M.length ∧ a = adr M i) (hC : ∀ i t, M[i]? = some t → (C (adr M i)).n = hdv t) (hh : ∀ t ∈ M, HdOk t) (hF : ∀ i, i < M.length → f i = true → F (adr M i / 64) = (Sx M f (64 * (adr M i / 64)) : Int)) (hN : tots M ≤ N) (hNw : N < 64 * nw) (hz : 64 * nw < 1000000000000) (hK : K (.returned (.int .i64 ((nx M f i : Nat) : Int))) w) :
    Calls Try.prog 22 #[.int .i64 ((adr M i : Nat) : Int), .pointer (some ⟨fbx, 0, none⟩), .pointer (some ⟨hxb, 0, none⟩)] w K := by
  obtain ⟨L0, hL0, H⟩ : ∃ L0, L0 = [.blk fbx (.cells #[.slice (some ⟨gf, 0, none⟩) nw nw] 62), .blk hxb (.cells #[.pointer (some ⟨hb, 0, none⟩)] 23), .blk hb (.cells #[.slice (some ⟨g, 0, none⟩) N N, .int .i64 ((u : Nat) : Int), .slice (some ⟨gm, 0, none⟩) nw nw] 56), .own 43 2 (some ⟨g, 0, none⟩) N N (cls N C), .own 72 1 (some ⟨gm, 0, none⟩) nw nw (wds .u64 nw W), .own 21 1 (some ⟨gf, 0, none⟩) nw nw (wds .i32 nw F)] ∧ Hs w L0 w [.blk fbx (.cells #[.slice (some ⟨gf, 0, none⟩) nw nw] 62), .blk hxb (.cells #[.pointer (some ⟨hb, 0, none⟩)] 23), .blk hb (.cells #[.slice (some ⟨g, 0, none⟩) N N, .int .i64 ((u : Nat) : Int), .slice (some ⟨gm, 0, none⟩) nw nw] 56), .own 43 2 (some ⟨g, 0, none⟩) N N (cls N C), .own 72 1 (some ⟨gm, 0, none⟩) nw nw (wds .u64 nw W), .own 21 1 (some ⟨gf, 0, none⟩) nw nw (wds .i32 nw F)] := ⟨_, rfl, Hs.refl H0⟩
  refine Sx.en (vs := [.int .i64 ((adr M i : Nat) : Int), .pointer (some ⟨fbx, 0, none⟩), .pointer (some ⟨hxb, 0, none⟩)]) 31 Try.func22 ?_
  obtain ⟨ti, hti, hsti⟩ := adr_step hi; have hat := adr_lt_tots hti
  refine Sx.l 7 0 H ?_
  refine Sx.v 1 (.int .i64 (IntKind.i64.wrap (Int.tdiv ((adr M i : Nat) : Int) (64 : Int)))) (.int .i64 (((adr M i) / 64 : Nat) : Int)) (congrArg (Value.int .i64) (by rw [IntWalk.i64_quo _ _ (by omega)]; omega)) ?_
  refine Sx.ir 0 gf ((adr M i) / 64) 1 nw nw (by omega) ?_
  refine Sx.lr 0 5 21 1 21 gf nw nw (((adr M i) / 64) * 1) (wds .i32 nw F) H (.int .i32 (F ((adr M i) / 64))) (ld_w (W := F) (by omega)) ?_
  refine Sx.v 0 (.int .i64 (IntKind.i64.wrap (F ((adr M i) / 64)))) (.int .i64 ((Sx M f (adr M i / 64 * 64) : Nat) : Int)) (congrArg (Value.int .i64) (by rw [hF i hi hf, Nat.mul_comm]; exact IntWalk.i64_in _ (by have := Sx_le M f (adr M i / 64 * 64); omega))) ?_
  refine Sx.v 7 (.int .i64 (IntKind.i64.wrap (Int.tdiv ((adr M i : Nat) : Int) (64 : Int)))) (.int .i64 (((adr M i) / 64 : Nat) : Int)) (congrArg (Value.int .i64) (by rw [IntWalk.i64_quo _ _ (by omega)]; omega)) ?_
  refine Sx.v 0 (.int .i64 (IntKind.i64.wrap ((((adr M i) / 64 : Nat) : Int) * (64 : Int)))) (.int .i64 ((((adr M i) / 64) * 64 : Nat) : Int)) (congrArg (Value.int .i64) (Gx.i64n (by omega) (by omega))) ?_
  refine Sx.lp 4 (fun z l' w' => ∃ (b : Nat), l' = [(0, .int .i64 ((adr M i : Nat) : Int)), (2, .pointer (some ⟨hxb, 0, none⟩)), (5, .int .i64 ((Sx M f b : Nat) : Int)), (6, .int .i64 ((b : Nat) : Int))] ∧ z = adr M i - b ∧ w = w' ∧ (adr M i / 64 * 64 ≤ b) ∧ (b ≤ adr M i)) _ [(0, .int .i64 ((adr M i : Nat) : Int)), (2, .pointer (some ⟨hxb, 0, none⟩)), (5, .int .i64 ((Sx M f (adr M i / 64 * 64) : Nat) : Int)), (6, .int .i64 (((adr M i / 64 * 64) : Nat) : Int))] ⟨(adr M i / 64 * 64), rfl, rfl, rfl, (Nat.le_refl _), (by omega)⟩ (fun b1 z1 l1 w1 hI1 K1 hK1 => ?_)
  obtain ⟨b, rfl, rfl, rfl, hb1, hb2⟩ := hI1
  refine Sx.br 8 (decide (((b : Nat) : Int) < ((adr M i : Nat) : Int))) (fun h_c18 => ?_) (fun h_c18 => ?_)
  · skip
    refine Sx.l 6 1 H ?_
    have p_c18 := of_decide_eq_true h_c18
    refine Sx.c 1 [2, 3] H (fun Hp R hR => marked_c hb g N u gm nw W b (B b) w R Hp (by omega) (markB_eq hW b) (by omega) (hR _ _ _ (.refl Hp) fun _ => ?_))
    refine Sx.br 2 (B b) (fun h_c23 => ?_) (fun h_c23 => ?_)
    · skip
      obtain ⟨j, hj, ej⟩ := hBs b h_c23
      obtain ⟨t, ht, hst⟩ := adr_step hj; have hfj : f j = true := (hB j hj).symm.trans (ej ▸ h_c23); have hln := (hh t (List.mem_of_getElem? ht)).ln; have hsx := Sx_le M f b
      refine Sx.l 2 1 H ?_
      have p_c23 := h_c23; try simp [-List.getD_eq_getElem?_getD] at p_c23
      refine Sx.c 1 [2, 2] H (fun Hp R hR => Len_c hb g N u gm nw C b t.l.length w R Hp (by omega) (by rw [ej, hC j t ht]; exact hd_len (hh t (List.mem_of_getElem? ht))) (hR _ _ _ (.refl Hp) fun _ => ?_))
      refine Sx.v 0 (.int .i64 (IntKind.i64.wrap (((t.l.length : Nat) : Int) + (1 : Int)))) (.int .i64 ((t.l.length + 1 : Nat) : Int)) (congrArg (Value.int .i64) (Gx.i64n (by omega) (by omega))) ?_
      refine Sx.v 0 (.int .i64 (IntKind.i64.wrap (((Sx M f b : Nat) : Int) + ((t.l.length + 1 : Nat) : Int)))) (.int .i64 ((Sx M f (b + 1) : Nat) : Int)) (congrArg (Value.int .i64) (by rw [IntWalk.i64_in _ (by omega), ej, Sx_hit ht hfj]; unfold sz; omega)) ?_
      refine Sx.v 6 (.int .i64 (IntKind.i64.wrap (((b : Nat) : Int) + (1 : Int)))) (.int .i64 ((b + 1 : Nat) : Int)) (congrArg (Value.int .i64) (Gx.i64n (by omega) (by omega))) ?_
      exact Sx.to 2 [(0, .int .i64 ((adr M i : Nat) : Int)), (2, .pointer (some ⟨hxb, 0, none⟩)), (5, .int .i64 ((Sx M f (b + 1) : Nat) : Int)), (6, .int .i64 ((b + 1 : Nat) : Int))] (hK1 _ _ _ _ (by omega) ⟨b + 1, rfl, rfl, rfl, (by omega), (by omega)⟩)
    have hmk := h_c23
    have p_c23 := h_c23; try simp [-List.getD_eq_getElem?_getD] at p_c23
    refine Sx.v 5 (.int .i64 (IntKind.i64.wrap (((b : Nat) : Int) + (1 : Int)))) (.int .i64 ((b + 1 : Nat) : Int)) (congrArg (Value.int .i64) (Gx.i64n (by omega) (by omega))) ?_
    refine Sx.sl 0 5 (.int .i64 ((Sx M f b : Nat) : Int)) (.int .i64 ((Sx M f (b + 1) : Nat) : Int)) (by rw [Sx_miss (fun j hj hfj e => by have q := hB j hj; rw [e, hfj] at q; rw [q] at hmk; cases hmk)]) ?_
    exact Sx.to 2 [(0, .int .i64 ((adr M i : Nat) : Int)), (2, .pointer (some ⟨hxb, 0, none⟩)), (5, .int .i64 ((Sx M f (b + 1) : Nat) : Int)), (6, .int .i64 ((b + 1 : Nat) : Int))] (hK1 _ _ _ _ (by omega) ⟨b + 1, rfl, rfl, rfl, (by omega), (by omega)⟩)
  have p_c18 := of_decide_eq_false h_c18
  have hend : b = adr M i := by omega
  exact Sx.rt 12 [] H (.int .i64 ((Sx M f b : Nat) : Int)) (Gx.ret_as (v' := .int .i64 ((nx M f i : Nat) : Int)) (by rw [hend, Sx_adr (by omega)]) hK)
theorem turnC_c (wbx : Nat) (fbx hxb hb g N u gm nw gf : Nat) (x : Nat) (C : Nat → Cl) (W F : Nat → Int) (M : List Th) (f B : Nat → Bool) (w : World) (K : Ending → World → Prop) (H0 : Sp w [.blk wbx (.cells #[.func (.func 22) #[] #[.pointer (some ⟨fbx, 0, none⟩), .pointer (some ⟨hxb, 0, none⟩)]] 47), .blk fbx (.cells #[.slice (some ⟨gf, 0, none⟩) nw nw] 62), .blk hxb (.cells #[.pointer (some ⟨hb, 0, none⟩)] 23), .blk hb (.cells #[.slice (some ⟨g, 0, none⟩) N N, .int .i64 ((u : Nat) : Int), .slice (some ⟨gm, 0, none⟩) nw nw] 56), .own 43 2 (some ⟨g, 0, none⟩) N N (cls N C), .own 72 1 (some ⟨gm, 0, none⟩) nw nw (wds .u64 nw W), .own 21 1 (some ⟨gf, 0, none⟩) nw nw (wds .i32 nw F)]) (hx : x < N) (hok : Ok M (C x)) (hfx : ∀ j, tgt M (C x) j → f j = true) (hW : Words W B) (hB : ∀ i, i < M.length → B (adr M i) = f i) (hBs : ∀ a, B a = true → ∃ i, i < M.length ∧ a = adr M i) (hC : ∀ i t, M[i]? = some t → (C (adr M i)).n = hdv t) (hh : ∀ t ∈ M, HdOk t) (hF : ∀ i, i < M.length → f i = true → F (adr M i / 64) = (Sx M f (64 * (adr M i / 64)) : Int)) (hN : tots M ≤ N) (hNw : N < 64 * nw) (hz : 64 * nw < 1000000000000) (hK : ∀ w', Hs w [.blk wbx (.cells #[.func (.func 22) #[] #[.pointer (some ⟨fbx, 0, none⟩), .pointer (some ⟨hxb, 0, none⟩)]] 47), .blk fbx (.cells #[.slice (some ⟨gf, 0, none⟩) nw nw] 62), .blk hxb (.cells #[.pointer (some ⟨hb, 0, none⟩)] 23), .blk hb (.cells #[.slice (some ⟨g, 0, none⟩) N N, .int .i64 ((u : Nat) : Int), .slice (some ⟨gm, 0, none⟩) nw nw] 56), .own 43 2 (some ⟨g, 0, none⟩) N N (cls N C), .own 72 1 (some ⟨gm, 0, none⟩) nw nw (wds .u64 nw W), .own 21 1 (some ⟨gf, 0, none⟩) nw nw (wds .i32 nw F)] w' [.blk wbx (.cells #[.func (.func 22) #[] #[.pointer (some ⟨fbx, 0, none⟩), .pointer (some ⟨hxb, 0, none⟩)]] 47), .blk fbx (.cells #[.slice (some ⟨gf, 0, none⟩) nw nw] 62), .blk hxb (.cells #[.pointer (some ⟨hb, 0, none⟩)] 23), .blk hb (.cells #[.slice (some ⟨g, 0, none⟩) N N, .int .i64 ((u : Nat) : Int), .slice (some ⟨gm, 0, none⟩) nw nw] 56), .own 43 2 (some ⟨g, 0, none⟩) N N (cls N (upd C x (tn M f (C x)))), .own 72 1 (some ⟨gm, 0, none⟩) nw nw (wds .u64 nw W), .own 21 1 (some ⟨gf, 0, none⟩) nw nw (wds .i32 nw F)] → K (.returned (.tuple #[])) w') :
    Calls Try.prog 24 #[.pointer (some (⟨g, x * 2, none⟩)), .pointer (some ⟨wbx, 0, none⟩)] w K := by
  obtain ⟨L0, hL0, H⟩ : ∃ L0, L0 = [.blk wbx (.cells #[.func (.func 22) #[] #[.pointer (some ⟨fbx, 0, none⟩), .pointer (some ⟨hxb, 0, none⟩)]] 47), .blk fbx (.cells #[.slice (some ⟨gf, 0, none⟩) nw nw] 62), .blk hxb (.cells #[.pointer (some ⟨hb, 0, none⟩)] 23), .blk hb (.cells #[.slice (some ⟨g, 0, none⟩) N N, .int .i64 ((u : Nat) : Int), .slice (some ⟨gm, 0, none⟩) nw nw] 56), .own 43 2 (some ⟨g, 0, none⟩) N N (cls N C), .own 72 1 (some ⟨gm, 0, none⟩) nw nw (wds .u64 nw W), .own 21 1 (some ⟨gf, 0, none⟩) nw nw (wds .i32 nw F)] ∧ Hs w L0 w [.blk wbx (.cells #[.func (.func 22) #[] #[.pointer (some ⟨fbx, 0, none⟩), .pointer (some ⟨hxb, 0, none⟩)]] 47), .blk fbx (.cells #[.slice (some ⟨gf, 0, none⟩) nw nw] 62), .blk hxb (.cells #[.pointer (some ⟨hb, 0, none⟩)] 23), .blk hb (.cells #[.slice (some ⟨g, 0, none⟩) N N, .int .i64 ((u : Nat) : Int), .slice (some ⟨gm, 0, none⟩) nw nw] 56), .own 43 2 (some ⟨g, 0, none⟩) N N (cls N C), .own 72 1 (some ⟨gm, 0, none⟩) nw nw (wds .u64 nw W), .own 21 1 (some ⟨gf, 0, none⟩) nw nw (wds .i32 nw F)] := ⟨_, rfl, Hs.refl H0⟩
  refine Sx.en (vs := [.pointer (some (⟨g, x * 2, none⟩)), .pointer (some ⟨wbx, 0, none⟩)]) 16 Try.func24 ?_
  refine Sx.lr 5 4 43 2 4 g N N (x * 2) (cls N C) H (.bool ((C x).p)) (ld_p (C := C) (by omega)) ?_
  refine Sx.br 2 ((C x).p) (fun h_c6 => ?_) (fun h_c6 => ?_)
  · skip
    obtain ⟨j, hj⟩ := hok h_c6
    refine Sx.dr 0 H [0, 4] [9] (LJ := [.blk wbx (.cells #[.func (.func 22) #[] #[.pointer (some ⟨fbx, 0, none⟩), .pointer (some ⟨hxb, 0, none⟩)]] 47), .own 43 2 (some ⟨g, 0, none⟩) N N (cls N C)]) (by kernel_rfl) fun w1 H1 => ?_
    refine Sx.tk [(0, none), (1, some (0, [6, 7, 8, 9])), (2, none), (3, none), (4, none)] (fun _ => (H1.sub [0, 3] (by kernel_rfl))) ?_
    refine Sx.tvl 5 [6, 7, 8, 9] 1 43 2 3 g N N (x * 2 + 1) (cls N C) (.int .i64 ((adr M j : Nat) : Int)) (by have h := ld_n (P := Try.prog) (t := 3) (N := N) (C := C) hx; rw [hj.2.2] at h; exact h) (fun _ => (H1.sub [0, 3] (by kernel_rfl))) ?_
    refine Sx.nmx ?_
    intro zx1
    refine Sx.on 6 ?_
    have p_c6 := h_c6; try simp [-List.getD_eq_getElem?_getD] at p_c6
    refine Sx.c 0 [1, 1, 1, 1, 1, 1] H1 (fun Hp R hR => where_c fbx hxb hb g N u gm nw gf j C W F M f B w1 R Hp hj.2.1 (hfx j hj) hW hB hBs hC hh hF hN hNw hz (hR _ _ _ (.refl Hp) fun _ => ?_))
    refine Sx.bk (x := zx1) 6 (fun _ => (H1.sub [0, 3] (by kernel_rfl))) ?_
    refine Sx.tk [(7, none), (8, none)] (fun _ => (H1.sub [0, 3] (by kernel_rfl))) ?_
    refine Sx.nmx ?_
    intro zx2
    refine Sx.on 9 ?_
    refine Sx.sr 0 4 43 2 3 g N N (x * 2 + 1) (cls N C) H1 (.int .i64 ((nx M f j : Nat) : Int)) (by rw [cls_len]; omega) (cls_set C (by omega) _) fun w2 H2 => ?_
    refine Sx.bk (x := zx2) 9 (fun h => Sx.nope h (by kernel_rfl)) ?_
    refine Sx.dn ?_
    have H3 := H2; rw [← tn_yes hj] at H3
    exact Sx.rt 0 [] H3 _ (hK _ (pe H3 hL0 [0, 0, 0, 0, 0, 0, 0]))
  have p_c6 := h_c6; try simp [-List.getD_eq_getElem?_getD] at p_c6
  rw [upd_no (tn_no h_c6)] at hK
  exact Sx.rt 1 [] H _ (hK _ (pe H hL0 [0, 0, 0, 0, 0, 0, 0]))
theorem turnR_c (wbx : Nat) (fbx hxb hb g N u gm nw gf : Nat) (gr n : Nat) (Rt : Nat → Cl) (x : Nat) (C : Nat → Cl) (W F : Nat → Int) (M : List Th) (f B : Nat → Bool) (w : World) (K : Ending → World → Prop) (H0 : Sp w [.blk wbx (.cells #[.func (.func 22) #[] #[.pointer (some ⟨fbx, 0, none⟩), .pointer (some ⟨hxb, 0, none⟩)]] 47), .blk fbx (.cells #[.slice (some ⟨gf, 0, none⟩) nw nw] 62), .blk hxb (.cells #[.pointer (some ⟨hb, 0, none⟩)] 23), .blk hb (.cells #[.slice (some ⟨g, 0, none⟩) N N, .int .i64 ((u : Nat) : Int), .slice (some ⟨gm, 0, none⟩) nw nw] 56), .own 43 2 (some ⟨g, 0, none⟩) N N (cls N C), .own 72 1 (some ⟨gm, 0, none⟩) nw nw (wds .u64 nw W), .own 21 1 (some ⟨gf, 0, none⟩) nw nw (wds .i32 nw F), .own 43 2 (some ⟨gr, 0, none⟩) n n (cls n Rt)]) (hx : x < n) (hok : Ok M (Rt x)) (hfx : ∀ j, tgt M (Rt x) j → f j = true) (hW : Words W B) (hB : ∀ i, i < M.length → B (adr M i) = f i) (hBs : ∀ a, B a = true → ∃ i, i < M.length ∧ a = adr M i) (hC : ∀ i t, M[i]? = some t → (C (adr M i)).n = hdv t) (hh : ∀ t ∈ M, HdOk t) (hF : ∀ i, i < M.length → f i = true → F (adr M i / 64) = (Sx M f (64 * (adr M i / 64)) : Int)) (hN : tots M ≤ N) (hNw : N < 64 * nw) (hz : 64 * nw < 1000000000000) (hK : ∀ w', Hs w [.blk wbx (.cells #[.func (.func 22) #[] #[.pointer (some ⟨fbx, 0, none⟩), .pointer (some ⟨hxb, 0, none⟩)]] 47), .blk fbx (.cells #[.slice (some ⟨gf, 0, none⟩) nw nw] 62), .blk hxb (.cells #[.pointer (some ⟨hb, 0, none⟩)] 23), .blk hb (.cells #[.slice (some ⟨g, 0, none⟩) N N, .int .i64 ((u : Nat) : Int), .slice (some ⟨gm, 0, none⟩) nw nw] 56), .own 43 2 (some ⟨g, 0, none⟩) N N (cls N C), .own 72 1 (some ⟨gm, 0, none⟩) nw nw (wds .u64 nw W), .own 21 1 (some ⟨gf, 0, none⟩) nw nw (wds .i32 nw F), .own 43 2 (some ⟨gr, 0, none⟩) n n (cls n Rt)] w' [.blk wbx (.cells #[.func (.func 22) #[] #[.pointer (some ⟨fbx, 0, none⟩), .pointer (some ⟨hxb, 0, none⟩)]] 47), .blk fbx (.cells #[.slice (some ⟨gf, 0, none⟩) nw nw] 62), .blk hxb (.cells #[.pointer (some ⟨hb, 0, none⟩)] 23), .blk hb (.cells #[.slice (some ⟨g, 0, none⟩) N N, .int .i64 ((u : Nat) : Int), .slice (some ⟨gm, 0, none⟩) nw nw] 56), .own 43 2 (some ⟨g, 0, none⟩) N N (cls N C), .own 72 1 (some ⟨gm, 0, none⟩) nw nw (wds .u64 nw W), .own 21 1 (some ⟨gf, 0, none⟩) nw nw (wds .i32 nw F), .own 43 2 (some ⟨gr, 0, none⟩) n n (cls n (upd Rt x (tn M f (Rt x))))] → K (.returned (.tuple #[])) w') :
    Calls Try.prog 24 #[.pointer (some (⟨gr, x * 2, none⟩)), .pointer (some ⟨wbx, 0, none⟩)] w K := by
  obtain ⟨L0, hL0, H⟩ : ∃ L0, L0 = [.blk wbx (.cells #[.func (.func 22) #[] #[.pointer (some ⟨fbx, 0, none⟩), .pointer (some ⟨hxb, 0, none⟩)]] 47), .blk fbx (.cells #[.slice (some ⟨gf, 0, none⟩) nw nw] 62), .blk hxb (.cells #[.pointer (some ⟨hb, 0, none⟩)] 23), .blk hb (.cells #[.slice (some ⟨g, 0, none⟩) N N, .int .i64 ((u : Nat) : Int), .slice (some ⟨gm, 0, none⟩) nw nw] 56), .own 43 2 (some ⟨g, 0, none⟩) N N (cls N C), .own 72 1 (some ⟨gm, 0, none⟩) nw nw (wds .u64 nw W), .own 21 1 (some ⟨gf, 0, none⟩) nw nw (wds .i32 nw F), .own 43 2 (some ⟨gr, 0, none⟩) n n (cls n Rt)] ∧ Hs w L0 w [.blk wbx (.cells #[.func (.func 22) #[] #[.pointer (some ⟨fbx, 0, none⟩), .pointer (some ⟨hxb, 0, none⟩)]] 47), .blk fbx (.cells #[.slice (some ⟨gf, 0, none⟩) nw nw] 62), .blk hxb (.cells #[.pointer (some ⟨hb, 0, none⟩)] 23), .blk hb (.cells #[.slice (some ⟨g, 0, none⟩) N N, .int .i64 ((u : Nat) : Int), .slice (some ⟨gm, 0, none⟩) nw nw] 56), .own 43 2 (some ⟨g, 0, none⟩) N N (cls N C), .own 72 1 (some ⟨gm, 0, none⟩) nw nw (wds .u64 nw W), .own 21 1 (some ⟨gf, 0, none⟩) nw nw (wds .i32 nw F), .own 43 2 (some ⟨gr, 0, none⟩) n n (cls n Rt)] := ⟨_, rfl, Hs.refl H0⟩
  refine Sx.en (vs := [.pointer (some (⟨gr, x * 2, none⟩)), .pointer (some ⟨wbx, 0, none⟩)]) 16 Try.func24 ?_
  refine Sx.lr 5 7 43 2 4 gr n n (x * 2) (cls n Rt) H (.bool ((Rt x).p)) (ld_p (C := Rt) (by omega)) ?_
  refine Sx.br 2 ((Rt x).p) (fun h_c6 => ?_) (fun h_c6 => ?_)
  · skip
    obtain ⟨j, hj⟩ := hok h_c6
    refine Sx.dr 0 H [0, 7] [9] (LJ := [.blk wbx (.cells #[.func (.func 22) #[] #[.pointer (some ⟨fbx, 0, none⟩), .pointer (some ⟨hxb, 0, none⟩)]] 47), .own 43 2 (some ⟨gr, 0, none⟩) n n (cls n Rt)]) (by kernel_rfl) fun w1 H1 => ?_
    refine Sx.tk [(0, none), (1, some (0, [6, 7, 8, 9])), (2, none), (3, none), (4, none)] (fun _ => (H1.sub [0, 6] (by kernel_rfl))) ?_
    refine Sx.tvl 5 [6, 7, 8, 9] 1 43 2 3 gr n n (x * 2 + 1) (cls n Rt) (.int .i64 ((adr M j : Nat) : Int)) (by have h := ld_n (P := Try.prog) (t := 3) (N := n) (C := Rt) hx; rw [hj.2.2] at h; exact h) (fun _ => (H1.sub [0, 6] (by kernel_rfl))) ?_
    refine Sx.nmx ?_
    intro zx1
    refine Sx.on 6 ?_
    have p_c6 := h_c6; try simp [-List.getD_eq_getElem?_getD] at p_c6
    refine Sx.c 0 [1, 1, 1, 1, 1, 1] H1 (fun Hp R hR => where_c fbx hxb hb g N u gm nw gf j C W F M f B w1 R Hp hj.2.1 (hfx j hj) hW hB hBs hC hh hF hN hNw hz (hR _ _ _ (.refl Hp) fun _ => ?_))
    refine Sx.bk (x := zx1) 6 (fun _ => (H1.sub [0, 6] (by kernel_rfl))) ?_
    refine Sx.tk [(7, none), (8, none)] (fun _ => (H1.sub [0, 6] (by kernel_rfl))) ?_
    refine Sx.nmx ?_
    intro zx2
    refine Sx.on 9 ?_
    refine Sx.sr 0 7 43 2 3 gr n n (x * 2 + 1) (cls n Rt) H1 (.int .i64 ((nx M f j : Nat) : Int)) (by rw [cls_len]; omega) (cls_set Rt (by omega) _) fun w2 H2 => ?_
    refine Sx.bk (x := zx2) 9 (fun h => Sx.nope h (by kernel_rfl)) ?_
    refine Sx.dn ?_
    have H3 := H2; rw [← tn_yes hj] at H3
    exact Sx.rt 0 [] H3 _ (hK _ (pe H3 hL0 [0, 0, 0, 0, 0, 0, 0, 0]))
  have p_c6 := h_c6; try simp [-List.getD_eq_getElem?_getD] at p_c6
  rw [upd_no (tn_no h_c6)] at hK
  exact Sx.rt 1 [] H _ (hK _ (pe H hL0 [0, 0, 0, 0, 0, 0, 0, 0]))
end Go.Proofs.Ytlddkcdjegcleaa
