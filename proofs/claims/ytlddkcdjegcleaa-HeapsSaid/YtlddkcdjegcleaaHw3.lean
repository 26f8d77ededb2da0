/- A part of the proof (YtlddkcdjegcleaaHw3), printed by a program of ours. -/
import Derived.Test.YtlddkcdjegcleaaProg
import Derived.Test.YtlddkcdjegcleaaHq
import Derived.Test.YtlddkcdjegcleaaHw1
import Derived.Test.YtlddkcdjegcleaaHw2
set_option linter.unusedVariables false
set_option linter.unusedSimpArgs false
namespace Go.Proofs.Ytlddkcdjegcleaa
open Go.RowKit Go.Sx Go.Hp
attribute [local irreducible] Go.wpOps Go.Code.wp Go.wpOp Go.wpAnyH Go.Calls Go.Sx.Goal Go.Code.wpIn
set_option maxRecDepth 20000
theorem things_c (l hb g N u gm nw : Nat) (M : List Th) (f B : Nat → Bool) (W : Nat → Int) (Ck : Nat → Nat → Cl) (rst : (Nat → Prop) → Nat → Sx.Item) (acc : (Nat → Prop) → Nat → Sx.Item) (x y : Sx.Item) (S : Nat → Prop) (w : World) (K : Ending → World → Prop) (H0 : Sp w [acc S 0]) (hacc : ∀ S k, acc S k = comp (fun L => ∃ S', L = [hin hb g N u gm nw W Ck rst S' k, x, y]) S) (hx : x.wr = true) (hyw : y.wr = true) (hr : ∀ S k, (rst S k).wr = true) (hu : u = tots M) (hW : Words W B) (hB : ∀ i, i < M.length → B (adr M i) = f i) (hC : ∀ i t, M[i]? = some t → (Ck (ks f i).length (adr M i)).n = hdv t) (hh : ∀ t ∈ M, HdOk t) (hN : tots M ≤ N) (hNw : N < 64 * nw) (hz : 64 * nw < 1000000000000) (hy : Sx.Yv Try.prog l acc (ks f M.length).length (yvT M f)) (hK : ∀ (S' : Nat → Prop) w', Hs w [acc S 0] w' [acc S' (ks f M.length).length] → K (.returned (.tuple #[])) w') :
    Calls Try.prog 20 #[.pointer (some ⟨hb, 0, none⟩), .func (.yield l) #[] #[]] w K := by
  obtain ⟨L0, hL0, H⟩ : ∃ L0, L0 = [acc S 0] ∧ Hs w L0 w [acc S 0] := ⟨_, rfl, Hs.refl H0⟩
  refine Sx.en (vs := [.pointer (some ⟨hb, 0, none⟩), .func (.yield l) #[] #[]]) 31 Try.func20 ?_
  refine opn2 H 0 hb g N u gm nw W Ck rst S 0 x y acc hacc (by kernel_rfl) (fun S1 H1 => ?_)
  have H2 := H1.pick (a := [.blk hb (.cells #[.slice (some ⟨g, 0, none⟩) N N, .int .i64 ((u : Nat) : Int), .slice (some ⟨gm, 0, none⟩) nw nw] 56), .own 43 2 (some ⟨g, 0, none⟩) N N (cls N (Ck 0)), .own 72 1 (some ⟨gm, 0, none⟩) nw nw (wds .u64 nw W), rst S1 0, x, y]) [0, 0, 0, 0, 0, 0] (by kernel_rfl)
  refine Sx.lp 11 (fun z l' w' => ∃ (i : Nat) (S1 : Nat → Prop), l' = [(0, .pointer (some ⟨hb, 0, none⟩)), (1, .func (.yield l) #[] #[]), (4, .int .i64 ((nx M f i : Nat) : Int)), (5, .int .i64 ((adr M i : Nat) : Int))] ∧ z = M.length - i ∧ Hs w L0 w' [.blk hb (.cells #[.slice (some ⟨g, 0, none⟩) N N, .int .i64 ((u : Nat) : Int), .slice (some ⟨gm, 0, none⟩) nw nw] 56), .own 43 2 (some ⟨g, 0, none⟩) N N (cls N (Ck ((ks f i).length))), .own 72 1 (some ⟨gm, 0, none⟩) nw nw (wds .u64 nw W), rst S1 ((ks f i).length), x, y] ∧ (i ≤ M.length)) _ [(0, .pointer (some ⟨hb, 0, none⟩)), (1, .func (.yield l) #[] #[]), (4, .int .i64 ((nx M f 0 : Nat) : Int)), (5, .int .i64 ((adr M 0 : Nat) : Int))] ⟨0, S1, rfl, rfl, H2, (Nat.zero_le _)⟩ (fun b1 z1 l1 w1 hI1 K1 hK1 => ?_)
  obtain ⟨i, S1, rfl, rfl, H3, hi⟩ := hI1
  refine Sx.l 7 0 H3 ?_
  refine Sx.br 3 (decide (((adr M i : Nat) : Int) < ((u : Nat) : Int))) (fun h_c12 => ?_) (fun h_c12 => ?_)
  · skip
    have p_c12 := of_decide_eq_true h_c12
    have hau : adr M i < tots M := by omega
    have hlt := lt_of_adr hi hau
    obtain ⟨t, ht, hstep⟩ := adr_step hlt
    have hat := adr_lt_tots ht; have hnl := nx_le (M := M) (f := f) hi; have hht := hh t (List.mem_of_getElem? ht); have hln := hht.ln
    refine Sx.c 7 [0, 0] H3 (fun Hp R hR => Len_c hb g N u gm nw (Ck ((ks f i).length)) (adr M i) t.l.length w1 R Hp (by omega) (by rw [hC i t ht]; exact hd_len hht) (hR _ _ _ (.refl Hp) fun _ => ?_))
    refine Sx.v 0 (.int .i64 (IntKind.i64.wrap (((t.l.length : Nat) : Int) + (1 : Int)))) (.int .i64 ((t.l.length + 1 : Nat) : Int)) (congrArg (Value.int .i64) (Gx.i64n (by omega) (by omega))) ?_
    refine Sx.c 8 [0, 1] H3 (fun Hp R hR => marked_c hb g N u gm nw W (adr M i) (f i) w1 R Hp (by omega) ((markB_eq hW _).trans (hB i hlt)) (by omega) (hR _ _ _ (.refl Hp) fun _ => ?_))
    refine Sx.br 2 (f i) (fun h_c19 => ?_) (fun h_c19 => ?_)
    · skip
      have hf : f i = true := h_c19
      refine cls2 H3 [0, 0, 0, 0, 0, 0] hb g N u gm nw W Ck rst S1 ((ks f i).length) x y (hr _ _) hx hyw acc hacc (by kernel_rfl) (fun S2 H4 => ?_)
      have p_c19 := h_c19; try simp [-List.getD_eq_getElem?_getD] at p_c19
      refine Sx.y 6 [0] H4 (l := l) (args := [.int .i64 ((adr M i : Nat) : Int), .int .i64 ((nx M f i : Nat) : Int)]) (fun Hp R hR => (yvT_at hlt hf) ▸ hy ((ks f i).length) S2 w1 R (ks_len_lt hlt hf) Hp (fun S3 w2 G1 => hR _ _ _ G1 fun H5 => ?_))
      refine opn2 H5 0 hb g N u gm nw W Ck rst S3 ((ks f i).length + 1) x y acc hacc (by kernel_rfl) (fun S4 H6 => ?_)
      refine Sx.v 9 (.int .i64 (IntKind.i64.wrap (((nx M f i : Nat) : Int) + ((t.l.length + 1 : Nat) : Int)))) (.int .i64 ((nx M f (i + 1) : Nat) : Int)) (congrArg (Value.int .i64) (by rw [IntWalk.i64_in _ (by omega), nx_yes ht hf]; omega)) ?_
      refine Sx.v 6 (.int .i64 (IntKind.i64.wrap (((adr M i : Nat) : Int) + ((t.l.length + 1 : Nat) : Int)))) (.int .i64 ((adr M (i + 1) : Nat) : Int)) (congrArg (Value.int .i64) (by rw [IntWalk.i64_in _ (by omega), hstep]; unfold sz; omega)) ?_
      have H7 := H6
      rw [ks_yes hf] at H7
      have H8 := H7.pick (a := [.blk hb (.cells #[.slice (some ⟨g, 0, none⟩) N N, .int .i64 ((u : Nat) : Int), .slice (some ⟨gm, 0, none⟩) nw nw] 56), .own 43 2 (some ⟨g, 0, none⟩) N N (cls N (Ck ((ks f (i + 1)).length))), .own 72 1 (some ⟨gm, 0, none⟩) nw nw (wds .u64 nw W), rst S4 ((ks f (i + 1)).length), x, y]) [0, 0, 0, 0, 0, 0] (by kernel_rfl)
      exact Sx.to 3 [(0, .pointer (some ⟨hb, 0, none⟩)), (1, .func (.yield l) #[] #[]), (4, .int .i64 ((nx M f (i + 1) : Nat) : Int)), (5, .int .i64 ((adr M (i + 1) : Nat) : Int))] (hK1 _ _ _ _ (by omega) ⟨i + 1, S4, rfl, rfl, H8, hlt⟩)
    have hf : f i = false := h_c19
    have p_c19 := h_c19; try simp [-List.getD_eq_getElem?_getD] at p_c19
    refine Sx.v 5 (.int .i64 (IntKind.i64.wrap (((adr M i : Nat) : Int) + ((t.l.length + 1 : Nat) : Int)))) (.int .i64 ((adr M (i + 1) : Nat) : Int)) (congrArg (Value.int .i64) (by rw [IntWalk.i64_in _ (by omega), hstep]; unfold sz; omega)) ?_
    refine Sx.sl 0 4 (.int .i64 ((nx M f i : Nat) : Int)) (.int .i64 ((nx M f (i + 1) : Nat) : Int)) (by rw [nx_no hf]) ?_
    have H9 := H3
    rw [ks_no hf] at H9
    have H10 := H9.pick (a := [.blk hb (.cells #[.slice (some ⟨g, 0, none⟩) N N, .int .i64 ((u : Nat) : Int), .slice (some ⟨gm, 0, none⟩) nw nw] 56), .own 43 2 (some ⟨g, 0, none⟩) N N (cls N (Ck ((ks f (i + 1)).length))), .own 72 1 (some ⟨gm, 0, none⟩) nw nw (wds .u64 nw W), rst S1 ((ks f (i + 1)).length), x, y]) [0, 0, 0, 0, 0, 0] (by kernel_rfl)
    exact Sx.to 3 [(0, .pointer (some ⟨hb, 0, none⟩)), (1, .func (.yield l) #[] #[]), (4, .int .i64 ((nx M f (i + 1) : Nat) : Int)), (5, .int .i64 ((adr M (i + 1) : Nat) : Int))] (hK1 _ _ _ _ (by omega) ⟨i + 1, S1, rfl, rfl, H10, hlt⟩)
  have p_c12 := of_decide_eq_false h_c12
  have hend : i = M.length := len_of_adr hi (by omega)
  subst hend
  refine cls2 H3 [0, 0, 0, 0, 0, 0] hb g N u gm nw W Ck rst S1 ((ks f M.length).length) x y (hr _ _) hx hyw acc hacc (by kernel_rfl) (fun S5 H11 => ?_)
  exact Sx.rt 4 [] H11 _ (hK S5 _ (pe H11 hL0 [0]))
end Go.Proofs.Ytlddkcdjegcleaa
