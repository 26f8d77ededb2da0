/- The library's sort of a row of names that nobody else has (the shelf's contract, in the form of the walks). -/
import Derived.Test.YtfkkocjheeoobaaShelf
import Derived.Test.YtfkkocjheeoobaaSw1
set_option linter.unusedVariables false
set_option linter.unusedSimpArgs false
set_option linter.unusedVariables false
set_option linter.unusedSimpArgs false
namespace Go.Slv
open Go.RowKit Go.Sx Go.Inf Go.Gx
theorem srt_names (l : List Nm) : ((l.map fun x => x.data.toList).mergeSort fun x y => decide (x ≤ y)).map (fun x => (⟨x.toArray⟩ : Nm)) = putAll [] l := by
  refine srt_putAll ?_ ?_
  · have h := List.pairwise_mergeSort (le := fun x y : List UInt8 => decide (x ≤ y)) (fun a b c h1 h2 => by simp only [decide_eq_true_eq] at *; exact List.le_trans h1 h2) (fun a b => by simpa using List.le_total a b) (l.map fun x => x.data.toList)
    refine List.pairwise_map.2 (h.imp fun h => ?_)
    exact leN_iff.2 (by simpa using h)
  · refine ((List.mergeSort_perm _ _).map _).trans ?_
    rw [List.map_map]
    exact List.Perm.of_eq ((List.map_congr_left fun x _ => rfl).trans (List.map_id l))
theorem Sort_p (A : Option Addr) (cap n : Nat) (l : List Nm) (w : World) (K : Ending → World → Prop) (H0 : Sp w [.own 9 1 A cap n (strs l)]) (hl : l.length < 1000000000)
    (hK : ∀ w', Hs w [.own 9 1 A cap n (strs l)] w' [.own 9 1 A cap n (strs (putAll [] l))] → K (.returned (.tuple #[])) w') : Calls Proofs.Try.prog 49 #[.slice A n cap] w K := by
  have ho := H0.all _ (.head _)
  have hn : l.length = n := by have := ho.1; simpa [strs] using this
  rcases ho.2 with ⟨h1, h2⟩ | ⟨g, cap', cur, hv, a1, hg, hnc, hcm, hcs, ht⟩
  · subst h2
    have : l = [] := List.length_eq_zero_iff.1 hn
    subst this
    refine Calls.mono (Proofs.Try.slices_Sort_string_none A cap w) ?_
    rintro e w' ⟨rfl, rfl⟩
    exact hK _ (Hs.refl H0)
  · injection hv with e1 e2 e3
    subst e1 e3 hn
    have hcell : ∀ j, j < l.length → cur[j]? = some (.string (gn l j)) := fun j hj => by
      have : (cur.toList.take (l.length * 1))[j]? = some (.string (gn l j)) := by rw [ht, strs, List.getElem?_map, gn_at hj]; rfl
      rw [List.getElem?_take, if_pos (by omega)] at this
      simpa using this
    have key := Proofs.Try.slices_Sort_string g 0 cap (l.map fun x => x.data.toList) w (fun j hj => ?_) (Has.lt hg) (by simp; omega)
    · rw [List.length_map] at key
      refine Calls.mono key ?_
      rintro e w' ⟨rfl, m, os, rfl⟩
      refine hK _ ((Hs.refl H0).put 0 rfl rfl ?_ ?_ (fun c hc => .inl hc))
      · refine ⟨rfl, rfl, rfl, ?_, fun i hi hS => ?_⟩
        · simp [Sort.grow, Sort.putRow, Sort.mapBlock, Sort.ahead]
        · have hne : g ≠ i := fun q => hS (by rw [← q]; rfl)
          simp only [Sort.grow, Sort.putRow, Sort.mapBlock, Sort.ahead]
          rw [Array.getElem?_append_left (by simpa using hi), Array.getElem?_modify, if_neg hne]
      · have hs := srt_names l
        generalize hss : ((l.map fun x => x.data.toList).mergeSort fun x y => decide (x ≤ y)) = ss at hs
        have hlen : ss.length = l.length := by rw [← hss, List.length_mergeSort, List.length_map]
        refine ⟨by rw [← hs]; simp [strs, hlen], .inr ⟨g, cap, Sort.putCells Proofs.encStr 0 ss.toArray cur, rfl, a1, ?_, hnc, hcm, ?_, ?_⟩⟩
        · show (Sort.grow _ _).heap[g]? = _
          have hgl : g < w.heap.size := Has.lt hg
          simp only [Sort.grow, Sort.putRow, Sort.mapBlock, Sort.ahead]
          rw [Array.getElem?_append_left (by simpa using hgl)]
          have hg' : w.heap[g]? = some (.cells cur 9 (0, 0)) := hg
          rw [Array.getElem?_modify, if_pos rfl, hg']
          rfl
        · rw [Sort.putCells, Array.size_mapIdx]; exact hcs
        · rw [← hs]
          have hcz : l.length ≤ cur.size := by rw [hcs]; omega
          apply List.ext_getElem?
          intro i
          rw [List.getElem?_take]
          by_cases hi : i < l.length
          · rw [if_pos (by omega)]
            simp only [Sort.putCells, Array.getElem?_toList, Array.getElem?_mapIdx, strs, List.getElem?_map]
            have h1 : cur[i]? = some cur[i] := Array.getElem?_eq_getElem (by omega)
            have h2 : ss[i]? = some ss[i] := List.getElem?_eq_getElem (by omega)
            rw [h1, h2]
            simp [hlen, hi]
          · rw [if_neg (by omega)]
            simp [strs, hlen, hi]
    · simp only [List.size_toArray, List.length_map] at hj
      have h1 := hcell j hj
      have h2 : gn l j = l[j] := by simp [gn, hj]
      refine ⟨?_, ?_⟩
      · rw [cell_of_row w g (0 + j) cur 9 (0, 0) hg, Nat.zero_add, h1, h2]
        simp [hj, Proofs.encStr]
      · simp only [World.frozen?]
        rw [show w.heap[(⟨g, 0 + j, none⟩ : Addr).block]? = some (.cells cur 9 (0, 0)) from hg]
        simp
end Go.Slv
set_option linter.unusedVariables false
set_option linter.unusedSimpArgs false
namespace Go.Proofs.Ytfkkocjheeoobaa
open Go.RowKit Go.Sx Go.Inf Go.Slv
attribute [local irreducible] Go.wpOps Go.Code.wp Go.wpOp Go.wpAnyH Go.Calls Go.Sx.Goal
set_option maxRecDepth 20000
theorem and2' {a b : Bool} (h : (a && b) = true) : a = true ∧ b = true := by cases a <;> cases b <;> simp_all
theorem and0' {a b : Bool} (h : (a && b) = false) : a = false ∨ b = false := by cases a <;> cases b <;> simp_all
theorem numberTy_p (S : Nat → Prop) (Z : List Slot) (T R : List Nat) (g : G) (bt b n : Nat) (l : List (Int × Nat)) (w : World) (K : Ending → World → Prop) (H0 : Sp w [PI S Z T R g, pkI bt (kvB T l)]) (hb : T[n]? = some b) (hl : NmOk T.length [] l) (hlen : l.length < 1000000000) (hK : ∀ (S' : Nat → Prop) w', Hs w [PI S Z T R g, pkI bt (kvB T l)] w' [PI S' Z T R g, pkI bt (kvB T (numb l n).1)] → K (.returned (.int .i64 ((numb l n).2 : Int))) w') :
    Calls Try.prog 34 #[.map (some bt), .pointer (some ⟨b, 0, none⟩)] w K := by
  obtain ⟨L0, hL0, H⟩ : ∃ L0, L0 = [PI S Z T R g, pkI bt (kvB T l)] ∧ Hs w L0 w [PI S Z T R g, pkI bt (kvB T l)] := ⟨_, rfl, Hs.refl H0⟩
  refine Sx.en (vs := [.map (some bt), .pointer (some ⟨b, 0, none⟩)]) 17 Try.func34 ?_
  obtain ⟨pm1, hpm1, hzpm1, H1⟩ := P_open H 0 (S := S) (Z := Z) (T := T) (R := R) (g := g) (by kernel_rfl)
  obtain ⟨o, ho⟩ : ∃ o, lookI (n : Int) l = o := ⟨_, rfl⟩
  refine Sx.lkB (bt := bt) (t := 83) (kt := 52) (et := 3) (te := 78) 10 4 b (kvB T l) (.int .i64 0) H1 (bank_cb (H1.at 0 (it := bankI 78 T (ndC T R g pm1) []) (by kernel_rfl)) hb nz0) (kv_cb (H1.at 0 (it := bankI 78 T (ndC T R g pm1) []) (by kernel_rfl)) hl) (by kernel_rfl) (look_num (H1.at 0 (it := bankI 78 T (ndC T R g pm1) []) (by kernel_rfl)) hl hb nz0 ho) ?_
  refine Sx.br 3 ((((o.getD 0) : Nat) : Int) == (0 : Int)) (fun h_c8 => ?_) (fun h_c8 => ?_)
  · skip
    have ho' := num0 hl ho h_c8
    rw [numb_none (ho.trans ho')] at hK
    have hl2 := hl.numb (i := n) (List.getElem?_eq_some_iff.1 hb).1 nz0
    rw [numb_none (ho.trans ho')] at hl2
    refine Sx.mlB (bt := bt) (t := 83) (kt := 52) (et := 3) 4 4 (kvB T l) H1 (by kernel_rfl) kvB_len ?_
    refine Sx.v 0 (.int .i64 (IntKind.i64.wrap (((l.length : Nat) : Int) + (1 : Int)))) (.int .i64 ((l.length + 1 : Nat) : Int)) (congrArg (Value.int .i64) (Gx.i64n (by omega) (by omega))) ?_
    refine Sx.muB (bt := bt) (t := 83) (kt := 52) (et := 3) (te := 78) 0 4 b (kvB T l) (.int .i64 ((l.length + 1 : Nat) : Int)) H1 (bank_cb (H1.at 0 (it := bankI 78 T (ndC T R g pm1) []) (by kernel_rfl)) hb nz0) (kv_cb (H1.at 0 (it := bankI 78 T (ndC T R g pm1) []) (by kernel_rfl)) hl) (by kernel_rfl) (mp' := kvB T (l ++ [((n : Int), l.length + 1)])) (upd_kvB (H1.at 0 (it := bankI 78 T (ndC T R g pm1) []) (by kernel_rfl)) hl hb nz0 (ho.trans ho') (l.length + 1)) fun w1 H2 => ?_
    refine Sx.lkB (bt := bt) (t := 83) (kt := 52) (et := 3) (te := 78) 6 4 b (kvB T (l ++ [((n : Int), l.length + 1)])) (.int .i64 0) H2 (bank_cb (H2.at 0 (it := bankI 78 T (ndC T R g pm1) []) (by kernel_rfl)) hb nz0) (kv_cb (H2.at 0 (it := bankI 78 T (ndC T R g pm1) []) (by kernel_rfl)) hl2) (by kernel_rfl) (look_num (H2.at 0 (it := bankI 78 T (ndC T R g pm1) []) (by kernel_rfl)) hl2 hb nz0 (look_new (ho.trans ho'))) ?_
    refine Sx.rt 4 [] H2 (.int .i64 (((l.length + 1) : Nat) : Int)) ?_
    obtain ⟨S1, H3⟩ := P_close H2 [0, 0, 0, 0] (Z := Z) (T := T) (R := R) (g := g) pm1 hpm1 hzpm1 (by kernel_rfl)
    subst hL0
    exact hK S1 _ (H3.pick [0, 0] (by kernel_rfl))
  obtain ⟨q, hq⟩ := num1 h_c8
  rw [numb_some (ho.trans hq)] at hK
  refine Sx.lkB (bt := bt) (t := 83) (kt := 52) (et := 3) (te := 78) 6 4 b (kvB T l) (.int .i64 0) H1 (bank_cb (H1.at 0 (it := bankI 78 T (ndC T R g pm1) []) (by kernel_rfl)) hb nz0) (kv_cb (H1.at 0 (it := bankI 78 T (ndC T R g pm1) []) (by kernel_rfl)) hl) (by kernel_rfl) (look_num (H1.at 0 (it := bankI 78 T (ndC T R g pm1) []) (by kernel_rfl)) hl hb nz0 (ho.trans hq)) ?_
  refine Sx.rt 4 [] H1 (.int .i64 ((q : Nat) : Int)) ?_
  obtain ⟨S2, H4⟩ := P_close H1 [0, 0, 0, 0] (Z := Z) (T := T) (R := R) (g := g) pm1 hpm1 hzpm1 (by kernel_rfl)
  subst hL0
  exact hK S2 _ (H4.pick [0, 0] (by kernel_rfl))
theorem numberRow_p (S : Nat → Prop) (Z : List Slot) (T R : List Nat) (g : G) (bt b n : Nat) (l : List (Int × Nat)) (w : World) (K : Ending → World → Prop) (H0 : Sp w [PI S Z T R g, pkI bt (kvB R l)]) (hb : R[n]? = some b) (hnz : n ≠ 0) (hl : NmOk R.length [0] l) (hlen : l.length < 1000000000) (hK : ∀ (S' : Nat → Prop) w', Hs w [PI S Z T R g, pkI bt (kvB R l)] w' [PI S' Z T R g, pkI bt (kvB R (numb l n).1)] → K (.returned (.int .i64 ((numb l n).2 : Int))) w') :
    Calls Try.prog 35 #[.map (some bt), .pointer (some ⟨b, 0, none⟩)] w K := by
  obtain ⟨L0, hL0, H⟩ : ∃ L0, L0 = [PI S Z T R g, pkI bt (kvB R l)] ∧ Hs w L0 w [PI S Z T R g, pkI bt (kvB R l)] := ⟨_, rfl, Hs.refl H0⟩
  refine Sx.en (vs := [.map (some bt), .pointer (some ⟨b, 0, none⟩)]) 17 Try.func35 ?_
  obtain ⟨pm1, hpm1, hzpm1, H1⟩ := P_open H 0 (S := S) (Z := Z) (T := T) (R := R) (g := g) (by kernel_rfl)
  obtain ⟨o, ho⟩ : ∃ o, lookI (n : Int) l = o := ⟨_, rfl⟩
  refine Sx.lkB (bt := bt) (t := 87) (kt := 76) (et := 3) (te := 80) 10 4 b (kvB R l) (.int .i64 0) H1 (bank_cb (H1.at 2 (it := bankI 80 R (rwC R g pm1) [0]) (by kernel_rfl)) hb (nz1 hnz)) (kv_cb (H1.at 2 (it := bankI 80 R (rwC R g pm1) [0]) (by kernel_rfl)) hl) (by kernel_rfl) (look_num (H1.at 2 (it := bankI 80 R (rwC R g pm1) [0]) (by kernel_rfl)) hl hb (nz1 hnz) ho) ?_
  refine Sx.br 3 ((((o.getD 0) : Nat) : Int) == (0 : Int)) (fun h_c8 => ?_) (fun h_c8 => ?_)
  · skip
    have ho' := num0 hl ho h_c8
    rw [numb_none (ho.trans ho')] at hK
    have hl2 := hl.numb (i := n) (List.getElem?_eq_some_iff.1 hb).1 (nz1 hnz)
    rw [numb_none (ho.trans ho')] at hl2
    refine Sx.mlB (bt := bt) (t := 87) (kt := 76) (et := 3) 4 4 (kvB R l) H1 (by kernel_rfl) kvB_len ?_
    refine Sx.v 0 (.int .i64 (IntKind.i64.wrap (((l.length : Nat) : Int) + (1 : Int)))) (.int .i64 ((l.length + 1 : Nat) : Int)) (congrArg (Value.int .i64) (Gx.i64n (by omega) (by omega))) ?_
    refine Sx.muB (bt := bt) (t := 87) (kt := 76) (et := 3) (te := 80) 0 4 b (kvB R l) (.int .i64 ((l.length + 1 : Nat) : Int)) H1 (bank_cb (H1.at 2 (it := bankI 80 R (rwC R g pm1) [0]) (by kernel_rfl)) hb (nz1 hnz)) (kv_cb (H1.at 2 (it := bankI 80 R (rwC R g pm1) [0]) (by kernel_rfl)) hl) (by kernel_rfl) (mp' := kvB R (l ++ [((n : Int), l.length + 1)])) (upd_kvB (H1.at 2 (it := bankI 80 R (rwC R g pm1) [0]) (by kernel_rfl)) hl hb (nz1 hnz) (ho.trans ho') (l.length + 1)) fun w1 H2 => ?_
    refine Sx.lkB (bt := bt) (t := 87) (kt := 76) (et := 3) (te := 80) 6 4 b (kvB R (l ++ [((n : Int), l.length + 1)])) (.int .i64 0) H2 (bank_cb (H2.at 2 (it := bankI 80 R (rwC R g pm1) [0]) (by kernel_rfl)) hb (nz1 hnz)) (kv_cb (H2.at 2 (it := bankI 80 R (rwC R g pm1) [0]) (by kernel_rfl)) hl2) (by kernel_rfl) (look_num (H2.at 2 (it := bankI 80 R (rwC R g pm1) [0]) (by kernel_rfl)) hl2 hb (nz1 hnz) (look_new (ho.trans ho'))) ?_
    refine Sx.rt 4 [] H2 (.int .i64 (((l.length + 1) : Nat) : Int)) ?_
    obtain ⟨S1, H3⟩ := P_close H2 [0, 0, 0, 0] (Z := Z) (T := T) (R := R) (g := g) pm1 hpm1 hzpm1 (by kernel_rfl)
    subst hL0
    exact hK S1 _ (H3.pick [0, 0] (by kernel_rfl))
  obtain ⟨q, hq⟩ := num1 h_c8
  rw [numb_some (ho.trans hq)] at hK
  refine Sx.lkB (bt := bt) (t := 87) (kt := 76) (et := 3) (te := 80) 6 4 b (kvB R l) (.int .i64 0) H1 (bank_cb (H1.at 2 (it := bankI 80 R (rwC R g pm1) [0]) (by kernel_rfl)) hb (nz1 hnz)) (kv_cb (H1.at 2 (it := bankI 80 R (rwC R g pm1) [0]) (by kernel_rfl)) hl) (by kernel_rfl) (look_num (H1.at 2 (it := bankI 80 R (rwC R g pm1) [0]) (by kernel_rfl)) hl hb (nz1 hnz) (ho.trans hq)) ?_
  refine Sx.rt 4 [] H1 (.int .i64 ((q : Nat) : Int)) ?_
  obtain ⟨S2, H4⟩ := P_close H1 [0, 0, 0, 0] (Z := Z) (T := T) (R := R) (g := g) pm1 hpm1 hzpm1 (by kernel_rfl)
  subst hL0
  exact hK S2 _ (H4.pick [0, 0] (by kernel_rfl))
theorem becomeN_p (b : Nat) (A : Option Addr) (nn cap : Nat)  (u0 u1 u2 : Value) (w : World) (K : Ending → World → Prop) (H0 : Sp w [.blk b (.cells #[u0, u1, u2] 80)]) (hK : ∀ w', Hs w [.blk b (.cells #[u0, u1, u2] 80)] w' [.blk b (.cells #[.slice A nn cap, .pointer none, .bool false] 80)] → K (.returned (.tuple #[])) w') :
    Calls Try.prog 48 #[.pointer (some ⟨b, 0, none⟩), .slice A nn cap, .pointer none] w K := by
  obtain ⟨L0, hL0, H⟩ : ∃ L0, L0 = [.blk b (.cells #[u0, u1, u2] 80)] ∧ Hs w L0 w [.blk b (.cells #[u0, u1, u2] 80)] := ⟨_, rfl, Hs.refl H0⟩
  refine Sx.en (vs := [.pointer (some ⟨b, 0, none⟩), .slice A nn cap, .pointer none]) 17 Try.func48 ?_
  refine Sx.s 8 0 H fun w1 H1 => ?_
  refine Sx.s 2 0 H1 fun w2 H2 => ?_
  refine Sx.s 2 0 H2 fun w3 H3 => ?_
  refine Sx.rt 1 [] H3 (.tuple #[]) ?_
  subst hL0
  exact hK _ (H3.pick [0] (by kernel_rfl))
theorem becomeS_p (b : Nat) (A : Option Addr) (nn cap : Nat) (tb : Nat)  (u0 u1 u2 : Value) (w : World) (K : Ending → World → Prop) (H0 : Sp w [.blk b (.cells #[u0, u1, u2] 80)]) (hK : ∀ w', Hs w [.blk b (.cells #[u0, u1, u2] 80)] w' [.blk b (.cells #[.slice A nn cap, bp tb, .bool false] 80)] → K (.returned (.tuple #[])) w') :
    Calls Try.prog 48 #[.pointer (some ⟨b, 0, none⟩), .slice A nn cap, .pointer (some ⟨tb, 0, none⟩)] w K := by
  obtain ⟨L0, hL0, H⟩ : ∃ L0, L0 = [.blk b (.cells #[u0, u1, u2] 80)] ∧ Hs w L0 w [.blk b (.cells #[u0, u1, u2] 80)] := ⟨_, rfl, Hs.refl H0⟩
  refine Sx.en (vs := [.pointer (some ⟨b, 0, none⟩), .slice A nn cap, .pointer (some ⟨tb, 0, none⟩)]) 17 Try.func48 ?_
  refine Sx.s 8 0 H fun w1 H1 => ?_
  refine Sx.s 2 0 H1 fun w2 H2 => ?_
  refine Sx.s 2 0 H2 fun w3 H3 => ?_
  refine Sx.rt 1 [] H3 (.tuple #[]) ?_
  subst hL0
  exact hK _ (H3.pick [0] (by kernel_rfl))
theorem differ_p (Sa : Nat → Prop) (Aa : Option Addr) (an ac : Nat) (a : List Nm) (Sb : Nat → Prop) (Ab : Option Addr) (bn bc : Nat) (b : List Nm) (w : World) (K : Ending → World → Prop) (H0 : Sp w [strI Sa Aa a, strI Sb Ab b]) (han : an = a.length) (hac : an ≤ ac) (hbn : bn = b.length) (hbc : bn ≤ bc) (haz : a.length < 1000000000) (hbz : b.length < 1000000000) (hK : ∀ (S1 : Nat → Prop) (A1 : Option Addr) (n1 : Nat) (c1 : Nat) (S2 : Nat → Prop) (A2 : Option Addr) (n2 : Nat) (c2 : Nat) w', Hs w [strI Sa Aa a, strI Sb Ab b] w' [strI Sa Aa a, strI Sb Ab b, strI S1 A1 (Slv.differ a b).1, strI S2 A2 (Slv.differ a b).2] → (n1 = (Slv.differ a b).1.length) → (n1 ≤ c1) → (n2 = (Slv.differ a b).2.length) → (n2 ≤ c2) → K (.returned (.tuple #[.slice A1 n1 c1, .slice A2 n2 c2])) w') :
    Calls Try.prog 47 #[.slice Aa an ac, .slice Ab bn bc] w K := by
  obtain ⟨L0, hL0, H⟩ : ∃ L0, L0 = [strI Sa Aa a, strI Sb Ab b] ∧ Hs w L0 w [strI Sa Aa a, strI Sb Ab b] := ⟨_, rfl, Hs.refl H0⟩
  refine Sx.en (vs := [.slice Aa an ac, .slice Ab bn bc]) 56 Try.func47 ?_
  have H1 := H.add (Gx.Ext.refl _) (it := .own 9 1 none 0 0 []) (World.ownsRow_nil _ _ _ _) (fun _ h => by cases h)
  have H2 := H1.add (Gx.Ext.refl _) (it := .own 9 1 none 0 0 []) (World.ownsRow_nil _ _ _ _) (fun _ h => by cases h)
  refine Sx.lp 8 (fun z l' w' => ∃ (i : Nat) (j : Nat) (Ca : Option Addr) (Cb : Option Addr) (A4 : Option Addr) (c4 : Nat) (n4 : Nat) (da : List Nm) (A5 : Option Addr) (c5 : Nat) (n5 : Nat) (db : List Nm), l' = [(0, .slice Ca (an - i) (ac - i)), (1, .slice Cb (bn - j) (bc - j)), (4, .slice A4 n4 c4), (5, .slice A5 n5 c5)] ∧ z = (a.length - i) + (b.length - j) ∧ Hs w L0 w' [strI Sa Aa a, strI Sb Ab b, .own 9 1 A4 c4 n4 (strs da), .own 9 1 A5 c5 n5 (strs db)] ∧ (Df a b da db i j) ∧ (Suf Aa Ca i a.length) ∧ (Suf Ab Cb j b.length) ∧ (n4 = da.length) ∧ (n5 = db.length)) _ [(0, .slice Aa (an - 0) (ac - 0)), (1, .slice Ab (bn - 0) (bc - 0)), (4, .slice none 0 0), (5, .slice none 0 0)] ⟨0, 0, Aa, Ab, none, 0, 0, [], none, 0, 0, [], rfl, rfl, H2, df0, (suf0 _ _), (suf0 _ _), rfl, rfl⟩ (fun b1 z1 l1 w1 hI1 K1 hK1 => ?_)
  obtain ⟨i, j, Ca, Cb, A4, c4, n4, da, A5, c5, n5, db, rfl, rfl, H3, hd, hsa, hsb, hn4, hn5⟩ := hI1
  refine Sx.cut 1 (fun l' w' => l' = [(0, .slice Ca (an - i) (ac - i)), (1, .slice Cb (bn - j) (bc - j)), (4, .slice A4 n4 c4), (5, .slice A5 n5 c5), (13, .bool ((decide ((((an - i) : Nat) : Int) > (0 : Int))) && (decide ((((bn - j) : Nat) : Int) > (0 : Int)))))] ∧ w1 = w') (fun K2 hK2 => ?_) (fun b2 l2 w2 hI2 => ?_)
  · skip
    refine Sx.sp 5 9 (decide ((((an - i) : Nat) : Int) > (0 : Int))) (fun h_g9 => ?_) (fun h_g9 => ?_)
    · skip
      exact Sx.to 5 [(0, .slice Ca (an - i) (ac - i)), (1, .slice Cb (bn - j) (bc - j)), (4, .slice A4 n4 c4), (5, .slice A5 n5 c5), (13, .bool ((decide ((((an - i) : Nat) : Int) > (0 : Int))) && (decide ((((bn - j) : Nat) : Int) > (0 : Int)))))] (hK2 _ _ _ ⟨rfl, rfl⟩) (h2 := (by rw [h_g9]; try kernel_rfl))
    exact Sx.to 5 [(0, .slice Ca (an - i) (ac - i)), (1, .slice Cb (bn - j) (bc - j)), (4, .slice A4 n4 c4), (5, .slice A5 n5 c5), (13, .bool ((decide ((((an - i) : Nat) : Int) > (0 : Int))) && (decide ((((bn - j) : Nat) : Int) > (0 : Int)))))] (hK2 _ _ _ ⟨rfl, rfl⟩) (h2 := (by rw [h_g9]; try kernel_rfl))
  obtain ⟨rfl, rfl⟩ := hI2
  refine Sx.br 0 ((decide ((((an - i) : Nat) : Int) > (0 : Int))) && (decide ((((bn - j) : Nat) : Int) > (0 : Int)))) (fun h_c13 => ?_) (fun h_c13 => ?_)
  · skip
    obtain ⟨pa, pb⟩ := and2' h_c13
    have hi : i < a.length := by have := of_decide_eq_true pa; omega
    have hj : j < b.length := by have := of_decide_eq_true pb; omega
    have hdl := hd.hl
    have hdm := hd.hm
    obtain ⟨ax, hax⟩ := hsa.some (H3.at 0 (it := strI Sa Aa a) (by kernel_rfl)).1 hi
    obtain ⟨bx, hbx⟩ := hsb.some (H3.at 1 (it := strI Sb Ab b) (by kernel_rfl)).1 hj
    refine Sx.dr 5 H3 [0, 1] [] (LJ := [strI Sa Aa a, strI Sb Ab b]) (by kernel_rfl) fun w3 H4 => ?_
    refine Sx.tk [(0, none)] (fun _ => (H4.sub [0, 0] (by kernel_rfl))) ?_
    refine Sx.tvi 1 [] ax 0 1 (an - i) (ac - i) hax (by omega) (fun _ => (H4.sub [0, 0] (by kernel_rfl))) ?_
    refine Sx.tvo (c := 1) (t := 9) 2 [] [.string (gn a i)] (.string (gn a i)) (fun w' hs => (hsa.cell (sp_at hs 0 (it := strI Sa Aa a) (by kernel_rfl)).1 hi hax)) (fun _ => (H4.sub [0, 0] (by kernel_rfl))) ?_
    refine Sx.tk [(3, none)] (fun _ => (H4.sub [0, 0] (by kernel_rfl))) ?_
    refine Sx.tvi 4 [] bx 0 1 (bn - j) (bc - j) hbx (by omega) (fun _ => (H4.sub [0, 0] (by kernel_rfl))) ?_
    refine Sx.tvo (c := 1) (t := 9) 5 [] [.string (gn b j)] (.string (gn b j)) (fun w' hs => (hsb.cell (sp_at hs 1 (it := strI Sb Ab b) (by kernel_rfl)).1 hj hbx)) (fun _ => (H4.sub [0, 0] (by kernel_rfl))) ?_
    refine Sx.tk [(6, none), (7, none)] (fun _ => (H4.sub [0, 0] (by kernel_rfl))) ?_
    refine Sx.dn ?_
    refine Sx.br 1 ((gn a i).toList == (gn b j).toList) (fun h_c22 => ?_) (fun h_c22 => ?_)
    · skip
      refine Sx.dr 0 H4 [] [] (LJ := []) (by kernel_rfl) fun w4 H5 => ?_
      refine Sx.tk [(0, none)] (fun _ => (Sx.spN (by kernel_rfl))) ?_
      refine Sx.tvsf 1 [] Ca (an - i) (ac - i) 1 1 (by omega) (by omega) (fun _ => (Sx.spN (by kernel_rfl))) ?_
      refine Sx.tk [(2, none)] (fun _ => (Sx.spN (by kernel_rfl))) ?_
      refine Sx.tvsf 3 [] Cb (bn - j) (bc - j) 1 1 (by omega) (by omega) (fun _ => (Sx.spN (by kernel_rfl))) ?_
      refine Sx.tk [(4, none), (5, none)] (fun _ => (Sx.spN (by kernel_rfl))) ?_
      refine Sx.dn ?_
      have H6 := H5.pick (a := [strI Sa Aa a, strI Sb Ab b, .own 9 1 A4 c4 n4 (strs da), .own 9 1 A5 c5 n5 (strs db)]) [0, 0, 0, 0] (by kernel_rfl)
      exact Sx.to 2 [(0, .slice (sfC Ca (ac - i) 1 1) (an - (i + 1)) (ac - (i + 1))), (1, .slice (sfC Cb (bc - j) 1 1) (bn - (j + 1)) (bc - (j + 1))), (4, .slice A4 n4 c4), (5, .slice A5 n5 c5)] (hK1 _ _ _ _ (by omega) ⟨(i + 1), (j + 1), (sfC Ca (ac - i) 1 1), (sfC Cb (bc - j) 1 1), A4, c4, n4, da, A5, c5, n5, db, rfl, rfl, H6, (hd.eq hi hj h_c22), (hsa.step hi (by omega)), (hsb.step hj (by omega)), hn4, hn5⟩)
    refine Sx.dr 1 H4 [0, 1] [] (LJ := [strI Sa Aa a, strI Sb Ab b]) (by kernel_rfl) fun w5 H7 => ?_
    refine Sx.tk [(0, none)] (fun _ => (H7.sub [0, 0] (by kernel_rfl))) ?_
    refine Sx.tvi 1 [] ax 0 1 (an - i) (ac - i) hax (by omega) (fun _ => (H7.sub [0, 0] (by kernel_rfl))) ?_
    refine Sx.tvo (c := 1) (t := 9) 2 [] [.string (gn a i)] (.string (gn a i)) (fun w' hs => (hsa.cell (sp_at hs 0 (it := strI Sa Aa a) (by kernel_rfl)).1 hi hax)) (fun _ => (H7.sub [0, 0] (by kernel_rfl))) ?_
    refine Sx.tk [(3, none)] (fun _ => (H7.sub [0, 0] (by kernel_rfl))) ?_
    refine Sx.tvi 4 [] bx 0 1 (bn - j) (bc - j) hbx (by omega) (fun _ => (H7.sub [0, 0] (by kernel_rfl))) ?_
    refine Sx.tvo (c := 1) (t := 9) 5 [] [.string (gn b j)] (.string (gn b j)) (fun w' hs => (hsb.cell (sp_at hs 1 (it := strI Sb Ab b) (by kernel_rfl)).1 hj hbx)) (fun _ => (H7.sub [0, 0] (by kernel_rfl))) ?_
    refine Sx.tk [(6, none), (7, none)] (fun _ => (H7.sub [0, 0] (by kernel_rfl))) ?_
    refine Sx.dn ?_
    refine Sx.br 1 (Go.Op.bytesLess (gn a i).toList (gn b j).toList) (fun h_c34 => ?_) (fun h_c34 => ?_)
    · skip
      refine Sx.dr 0 H7 [0] [] (LJ := [strI Sa Aa a]) (by kernel_rfl) fun w6 H8 => ?_
      refine Sx.tk [(0, none), (1, none)] (fun _ => (H8.sub [0] (by kernel_rfl))) ?_
      refine Sx.tvi 2 [] ax 0 1 (an - i) (ac - i) hax (by omega) (fun _ => (H8.sub [0] (by kernel_rfl))) ?_
      refine Sx.tvo (c := 1) (t := 9) 3 [] [.string (gn a i)] (.string (gn a i)) (fun w' hs => (hsa.cell (sp_at hs 0 (it := strI Sa Aa a) (by kernel_rfl)).1 hi hax)) (fun _ => (H8.sub [0] (by kernel_rfl))) ?_
      refine Sx.tk [(6, none)] (fun _ => (H8.sub [0] (by kernel_rfl))) ?_
      refine Sx.tvsf 7 [] Ca (an - i) (ac - i) 1 1 (by omega) (by omega) (fun _ => (H8.sub [0] (by kernel_rfl))) ?_
      refine Sx.nmx ?_
      intro zx1
      refine Sx.on 4 ?_
      refine Sx.nw 0 H8 fun k1 w7 H9 => ?_
      refine Sx.bk (x := zx1) 4 (fun _ => (H9.sub [0] (by kernel_rfl))) ?_
      refine Sx.nmx ?_
      intro zx2
      refine Sx.on 5 ?_
      refine Sx.ap 0 2 4 16 1 0 9 1 30 1 k1 A4 c4 n4 (strs da) [.string (gn a i)] H9 (by omega) (by omega) (strs_app _ _) fun A1 cap1 w8 H10 => ?_
      refine Sx.bk (x := zx2) 5 (fun _ => (H10.sub [0] (by kernel_rfl))) ?_
      refine Sx.tk [(8, none), (9, none)] (fun _ => (H10.sub [0] (by kernel_rfl))) ?_
      refine Sx.dn ?_
      have H11 := H10.pick (a := [strI Sa Aa a, strI Sb Ab b, .own 9 1 A1 cap1 (n4 + 1) (strs (da ++ [gn a i])), .own 9 1 A5 c5 n5 (strs db)]) [0, 0, 0, 0] (by kernel_rfl)
      exact Sx.to 2 [(0, .slice (sfC Ca (ac - i) 1 1) (an - (i + 1)) (ac - (i + 1))), (1, .slice Cb (bn - j) (bc - j)), (4, .slice A1 (n4 + 1) cap1), (5, .slice A5 n5 c5)] (hK1 _ _ _ _ (by omega) ⟨(i + 1), j, (sfC Ca (ac - i) 1 1), Cb, A1, cap1, n4 + 1, (da ++ [gn a i]), A5, c5, n5, db, rfl, rfl, H11, (hd.lt hi hj h_c22 h_c34), (hsa.step hi (by omega)), hsb, (by rw [List.length_append, hn4]; rfl), hn5⟩)
    refine Sx.dr 0 H7 [1] [] (LJ := [strI Sb Ab b]) (by kernel_rfl) fun w9 H12 => ?_
    refine Sx.tk [(0, none), (1, none)] (fun _ => (H12.sub [1] (by kernel_rfl))) ?_
    refine Sx.tvi 2 [] bx 0 1 (bn - j) (bc - j) hbx (by omega) (fun _ => (H12.sub [1] (by kernel_rfl))) ?_
    refine Sx.tvo (c := 1) (t := 9) 3 [] [.string (gn b j)] (.string (gn b j)) (fun w' hs => (hsb.cell (sp_at hs 0 (it := strI Sb Ab b) (by kernel_rfl)).1 hj hbx)) (fun _ => (H12.sub [1] (by kernel_rfl))) ?_
    refine Sx.tk [(6, none)] (fun _ => (H12.sub [1] (by kernel_rfl))) ?_
    refine Sx.tvsf 7 [] Cb (bn - j) (bc - j) 1 1 (by omega) (by omega) (fun _ => (H12.sub [1] (by kernel_rfl))) ?_
    refine Sx.nmx ?_
    intro zx3
    refine Sx.on 4 ?_
    refine Sx.nw 0 H12 fun k2 w10 H13 => ?_
    refine Sx.bk (x := zx3) 4 (fun _ => (H13.sub [1] (by kernel_rfl))) ?_
    refine Sx.nmx ?_
    intro zx4
    refine Sx.on 5 ?_
    refine Sx.ap 0 3 4 16 1 0 9 1 30 1 k2 A5 c5 n5 (strs db) [.string (gn b j)] H13 (by omega) (by omega) (strs_app _ _) fun A2 cap2 w11 H14 => ?_
    refine Sx.bk (x := zx4) 5 (fun _ => (H14.sub [1] (by kernel_rfl))) ?_
    refine Sx.tk [(8, none), (9, none)] (fun _ => (H14.sub [1] (by kernel_rfl))) ?_
    refine Sx.dn ?_
    have H15 := H14.pick (a := [strI Sa Aa a, strI Sb Ab b, .own 9 1 A4 c4 n4 (strs da), .own 9 1 A2 cap2 (n5 + 1) (strs (db ++ [gn b j]))]) [0, 0, 0, 0] (by kernel_rfl)
    exact Sx.to 2 [(0, .slice Ca (an - i) (ac - i)), (1, .slice (sfC Cb (bc - j) 1 1) (bn - (j + 1)) (bc - (j + 1))), (4, .slice A4 n4 c4), (5, .slice A2 (n5 + 1) cap2)] (hK1 _ _ _ _ (by omega) ⟨i, (j + 1), Ca, (sfC Cb (bc - j) 1 1), A4, c4, n4, da, A2, cap2, n5 + 1, (db ++ [gn b j]), rfl, rfl, H15, (hd.gt hi hj h_c22 h_c34), hsa, (hsb.step hj (by omega)), hn4, (by rw [List.length_append, hn5]; rfl)⟩)
  have hni : ¬ (i < a.length ∧ j < b.length) := by rintro ⟨h1, h2⟩; rcases and0' h_c13 with q | q <;> (have := of_decide_eq_false q; omega)
  have hdi := hd.hi
  have hdj := hd.hj
  have hdl := hd.hl
  have hdm := hd.hm
  obtain ⟨he1, he2⟩ := hd.end hni
  have hst1 := hsa.strs (H3.at 0 (it := strI Sa Aa a) (by kernel_rfl)).1
  have hcc1 : n4 ≤ c4 := own_cap (H3.at 2 (it := .own 9 1 A4 c4 n4 (strs da)) (by kernel_rfl))
  refine Sx.aps 9 2 16 ((an - i)) 9 1 30 (ac - i) Ca A4 c4 n4 (strs da) (strs (a.drop i)) H3 (fun h => by have := hst1; rw [h] at this; have := congrArg List.length this.nil; simp at this; omega) (fun a ha => hst1.cell ha) (by rw [strs, List.length_map, List.length_drop]; omega) (strs_one _) (by omega) (by omega) hcc1 (xs' := strs ((Slv.differ a b).1)) (by rw [strs_cat, he1]) fun A3 cap3 w12 H16 => ?_
  have hst2 := hsb.strs (H16.at 1 (it := strI Sb Ab b) (by kernel_rfl)).1
  have hcc2 : n5 ≤ c5 := own_cap (H16.at 3 (it := .own 9 1 A5 c5 n5 (strs db)) (by kernel_rfl))
  refine Sx.aps 2 3 16 ((bn - j)) 9 1 30 (bc - j) Cb A5 c5 n5 (strs db) (strs (b.drop j)) H16 (fun h => by have := hst2; rw [h] at this; have := congrArg List.length this.nil; simp at this; omega) (fun a ha => hst2.cell ha) (by rw [strs, List.length_map, List.length_drop]; omega) (strs_one _) (by omega) (by omega) hcc2 (xs' := strs ((Slv.differ a b).2)) (by rw [strs_cat, he2]) fun A4 cap4 w13 H17 => ?_
  refine Sx.rt 5 [] H17 (.tuple #[.slice A3 (n4 + (an - i)) cap3, .slice A4 (n5 + (bn - j)) cap4]) ?_
  have hcp1 := own_cap (H17.at 2 (it := .own 9 1 A3 cap3 (n4 + (an - i)) (strs ((Slv.differ a b).1))) (by kernel_rfl))
  have hnn1 := (H17.at 2 (it := .own 9 1 A3 cap3 (n4 + (an - i)) (strs ((Slv.differ a b).1))) (by kernel_rfl)).1
  have H18 := Hs.toStr H17 2 (e := 9) (n := (n4 + (an - i))) (cap := cap3) (A := A3) (l := (Slv.differ a b).1) (by kernel_rfl)
  have hcp2 := own_cap (H18.at 3 (it := .own 9 1 A4 cap4 (n5 + (bn - j)) (strs ((Slv.differ a b).2))) (by kernel_rfl))
  have hnn2 := (H18.at 3 (it := .own 9 1 A4 cap4 (n5 + (bn - j)) (strs ((Slv.differ a b).2))) (by kernel_rfl)).1
  have H19 := Hs.toStr H18 3 (e := 9) (n := (n5 + (bn - j))) (cap := cap4) (A := A4) (l := (Slv.differ a b).2) (by kernel_rfl)
  subst hL0
  exact hK (fun c => (Value.slice A3 (n4 + (an - i)) cap3).ownBlock = some c) A3 (n4 + (an - i)) cap3 (fun c => (Value.slice A4 (n5 + (bn - j)) cap4).ownBlock = some c) A4 (n5 + (bn - j)) cap4 _ (H19.pick (a := [strI Sa Aa a, strI Sb Ab b, strI (fun c => (Value.slice A3 (n4 + (an - i)) cap3).ownBlock = some c) A3 ((Slv.differ a b).1), strI (fun c => (Value.slice A4 (n5 + (bn - j)) cap4).ownBlock = some c) A4 ((Slv.differ a b).2)]) [0, 0, 0, 0] (by kernel_rfl)) (by rw [strs, List.length_map, Nat.mul_one] at hnn1; omega) hcp1 (by rw [strs, List.length_map, Nat.mul_one] at hnn2; omega) hcp2
end Go.Proofs.Ytfkkocjheeoobaa
set_option linter.unusedVariables false
set_option linter.unusedSimpArgs false
namespace Go.Inf
open Go.RowKit Go.Sx
abbrev srB (v w : Nat) (d e : List Nm) : Bool := ((v == 0) && !e.isEmpty) || ((w == 0) && !d.isEmpty)
theorem sameRow_cases {k r s : Nat} {g g' : G} {t : Bool} (h : sameRow k g r s = some (g', t)) :
    ∃ a v b u, whole k g r [] = some (a, v) ∧ whole k g s [] = some (b, u) ∧
      (v = u → g = g' ∧ ((less a b).isEmpty && (less b a).isEmpty) = t) ∧
      (v ≠ u → srB v u (less a b) (less b a) = true → g = g' ∧ false = t) ∧
      (v ≠ u → srB v u (less a b) (less b a) = false → v = 0 → g.stands u (less a b) (some 0) = g' ∧ true = t) ∧
      (v ≠ u → srB v u (less a b) (less b a) = false → v ≠ 0 → u = 0 → g.stands v (less b a) (some 0) = g' ∧ true = t) ∧
      (v ≠ u → srB v u (less a b) (less b a) = false → v ≠ 0 → u ≠ 0 → ∃ g1 x, g.opn = some (g1, x) ∧ (g1.stands v (less b a) (some x)).stands u (less a b) (some x) = g' ∧ true = t) := by
  unfold sameRow at h
  split at h <;> try contradiction
  rename_i a v b u h1 h2
  refine ⟨a, v, b, u, h1, h2, ?_⟩
  simp only at h
  split at h
  · rename_i e; cases h; simp [e]
  · rename_i e
    split at h
    · rename_i e2; cases h
      exact ⟨fun q => absurd q e, fun _ _ => ⟨rfl, rfl⟩, fun _ q => by simp [srB, e2] at q, fun _ q => by simp [srB, e2] at q, fun _ q => by simp [srB, e2] at q⟩
    · rename_i e2
      have e2 : srB v u (less a b) (less b a) = false := by simpa using e2
      split at h
      · rename_i e3; cases h
        exact ⟨fun q => absurd q e, fun _ q => by simp [e2] at q, fun _ _ _ => ⟨rfl, rfl⟩, fun _ _ q => absurd e3 q, fun _ _ q => absurd e3 q⟩
      · rename_i e3
        split at h
        · rename_i e4; cases h
          exact ⟨fun q => absurd q e, fun _ q => by simp [e2] at q, fun _ _ q => absurd q e3, fun _ _ _ _ => ⟨rfl, rfl⟩, fun _ _ _ q => absurd e4 q⟩
        · rename_i e4
          split at h <;> try contradiction
          rename_i g1 x h5
          cases h
          exact ⟨fun q => absurd q e, fun _ q => by simp [e2] at q, fun _ _ q => absurd q e3, fun _ _ _ q => absurd q e4, fun _ _ _ _ => ⟨g1, x, h5, rfl, rfl⟩⟩
theorem whole_v {k r v : Nat} {g : G} {acc l : List Nm} (h : whole k g r acc = some (l, v)) : v = 0 ∨ v < g.ops.length := by
  induction k generalizing r acc with
  | zero => simp [whole] at h
  | succ z ih =>
    obtain ⟨lr, nx, ho, hb, _, h1, h2, h3⟩ := whole_cases h
    rcases nx with _ | q
    · rw [← (h1 rfl).2]; exact .inr (List.getElem?_eq_some_iff.1 ho).1
    · cases q with
      | zero => exact .inl (h2 rfl).2.symm
      | succ q => exact ih (h3 q rfl)
end Go.Inf
namespace Go.Inf
open Go.RowKit Go.Sx
abbrev lnk0 (g : G) (m n : Nat) : G := ⟨g.kind, g.a, g.b, g.row, g.link.set m (some n), g.ops, g.next, g.tv, g.rv⟩
theorem lnk_eq (g : G) (m n : Nat) : g.lnk m n = lnk0 g m n := by simp only [G.lnk, wN_eq, wL_eq]
theorem ne6 {km : Nat} (h : km ≠ 6) : (((km : Nat) : Int) != (6 : Int)) = true := by simp; omega
end Go.Inf
set_option linter.unusedVariables false
set_option linter.unusedSimpArgs false
namespace Go.Slv
open Go.RowKit Go.Sx Go.Inf Go.Gx
section
variable {w0 w : World} {L0 L : List Sx.Item} {T R : List Nat} {g : G} {m : Pm}
/-- What is known of a row. -/
theorem P_rw (h0 : (rowsI m.S2 m.sl g.ops).holds w) {r : Nat} {l : List Nm} (hl : g.ops[r]? = some l) : ∃ A n c, m.sl[r]? = some (A, n, c) ∧ n = l.length ∧ Strs w m.S2 A l := by
  have h := h0.1
  have hr : r < m.sl.length := by rw [h.1]; exact (List.getElem?_eq_some_iff.1 hl).1
  obtain ⟨⟨A, n, c⟩, h1⟩ : ∃ s, m.sl[r]? = some s := ⟨_, List.getElem?_eq_getElem hr⟩
  exact ⟨A, n, c, h1, (h.2 r _ _ h1 hl).1, (h.2 r _ _ h1 hl).2⟩
theorem P_rs (h0 : (rowsI m.S2 m.sl g.ops).holds w) {r n c : Nat} {A : Option Addr} {l : List Nm} (h1 : m.sl[r]? = some (A, n, c)) (hl : g.ops[r]? = some l) : Strs w m.S2 A l := (h0.1.2 r _ _ h1 hl).2
theorem rwC_eq {r n c : Nat} {A : Option Addr} {nx tl : Option Nat} {b : Bool} (h1 : m.sl[r]? = some (A, n, c)) (hn : g.next[r]? = some nx) (ht : tlB R nx = tl) (hb : nx.isNone = b) : rwC R g m r = [.slice A n c, pB tl, .bool b] := by
  unfold rwC slD nxD; rw [h1, hn]; simp only [Option.getD_some, ht, hb, slV]
theorem bank_as {ty : Nat} {C C' : Nat → List Value} {hs : List Nat} (H : Hs w0 L0 w L) (i : Nat) (hi : L[i]? = some (bankI ty T C hs)) (hC : ∀ j b, T[j]? = some b → C' j = C j) : Hs w0 L0 w (L.set i (bankI ty T C' hs)) :=
  H.as i _ hi rfl (bank_holds (fun j b hj hn => by rw [hC j b hj]; exact (H.at i hi).1.1 j b hj hn) (H.at i hi).1.2) (fun _ h => h)
theorem bank_ne {ty : Nat} {C : Nat → List Value} {hs : List Nat} {i j a b : Nat} (h : (bankI ty T C hs).holds w) (hi : T[i]? = some a) (hj : T[j]? = some b) (ni : i ∉ hs) (nj : j ∉ hs) (hne : i ≠ j) : decide (a = b) = false :=
  decide_eq_false fun e => hne (bank_inj h hi (by rw [e]; exact hj) ni nj)
/-- A row's variable, as a block. -/
def vB (R : List Nat) (v : Nat) : Option Nat := if v = 0 then none else R[v]?
theorem vB_0 : vB R 0 = none := rfl
theorem vB_n {v b : Nat} (h : v ≠ 0) (hb : R[v]? = some b) : vB R v = some b := by unfold vB; rw [if_neg h, hb]
theorem tl_q {q b : Nat} (hb : R[q + 1]? = some b) : tlB R (some (q + 1)) = some b := hb
theorem whole_srt {k r v : Nat} {acc l : List Nm} (ha : Srt acc) (h : whole k g r acc = some (l, v)) : Srt l := by
  induction k generalizing r acc with
  | zero => simp [whole] at h
  | succ z ih =>
    obtain ⟨lr, nx, _, _, _, h1, h2, h3⟩ := whole_cases h
    rcases nx with _ | q
    · rw [← (h1 rfl).1]; exact putAll_srt ha lr
    · cases q with
      | zero => rw [← (h2 rfl).1]; exact putAll_srt ha lr
      | succ q => exact ih (putAll_srt ha lr) (h3 q rfl)
/-- A row variable stands for something now. -/
abbrev gset (g : G) (v : Nat) (l : List Nm) (o : Option Nat) : G := ⟨g.kind, g.a, g.b, g.row, g.link, g.ops.set v l, g.next.set v o, g.tv, g.rv⟩
theorem stands_set (g : G) (v : Nat) (l : List Nm) (o : Option Nat) : g.stands v l o = gset g v l o := by simp only [G.stands, wL_eq, wO_eq, wN_eq]
abbrev gop1 (g : G) (l : List Nm) (q : Option Nat) : G := ⟨g.kind, g.a, g.b, g.row, g.link, g.ops ++ [l], g.next ++ [q], g.tv, g.rv⟩
theorem opn_op1 {g g' : G} {x : Nat} (h : g.opn = some (g', x)) : g.ops.length < 1000000000 ∧ g' = gop1 g [] none ∧ x = g.ops.length := by
  unfold G.opn G.putRow big at h
  split at h
  · rename_i hz
    simp only [wO_eq, wN_eq, wL_eq, Option.some.injEq, Prod.mk.injEq] at h
    exact ⟨hz, h.1.symm, h.2.symm⟩
  · cases h
theorem PR.set (hm : PR T R g m) {v n c : Nat} {A : Option Addr} {S : Nat → Prop} (l : List Nm) {o : Option Nat} (ho : ∀ q, o = some (q + 1) → q + 1 < g.next.length) : PR T R (gset g v l o) { m with sl := m.sl.set v (A, n, c), S2 := S } := by
  refine ⟨hm.lT, ?_, hm.la, hm.lb, hm.lr, hm.ll, hm.li, hm.en, hm.al, hm.ka, fun n h => ?_, fun r q h => ?_, ?_, ?_, hm.ar⟩
  · show R.length = (g.next.set v o).length; rw [List.length_set]; exact hm.lR
  · obtain ⟨r, h1, h2, h3⟩ := hm.kr n h
    exact ⟨r, h1, by show r < (g.next.set v o).length; rw [List.length_set]; exact h2, h3⟩
  · change (g.next.set v o)[r]? = some (some (q + 1)) at h
    show q + 1 < (g.next.set v o).length
    rw [List.length_set]
    rw [List.getElem?_set] at h
    split at h
    · split at h
      · exact ho q (Option.some.inj h)
      · cases h
    · exact hm.kn r q h
  · show 0 < (g.next.set v o).length; rw [List.length_set]; exact hm.z
  · show (g.ops.set v l).length = (g.next.set v o).length; rw [List.length_set, List.length_set]; exact hm.lo
theorem rwC_set {S : Nat → Prop} {v i n c : Nat} {A : Option Addr} {l : List Nm} {o : Option Nat} (h : i ≠ v) : rwC R (gset g v l o) { m with sl := m.sl.set v (A, n, c), S2 := S } i = rwC R g m i := by
  unfold rwC slD nxD; simp only [List.getElem?_set_ne (Ne.symm h)]
theorem rwC_at {S : Nat → Prop} {v n c : Nat} {A : Option Addr} {l : List Nm} {o tl : Option Nat} {b : Bool} (hv : v < m.sl.length) (hv2 : v < g.next.length) (ht : tlB R o = tl) (hb : o.isNone = b) : rwC R (gset g v l o) { m with sl := m.sl.set v (A, n, c), S2 := S } v = [.slice A n c, pB tl, .bool b] :=
  rwC_eq (List.getElem?_set_self hv) (List.getElem?_set_self hv2) ht hb
/-- A new row. -/
theorem PR.add (hm : PR T R g m) (b : Nat) (l : List Nm) {s : Slot} {S : Nat → Prop} {q : Option Nat} (hq : ∀ p, q = some (p + 1) → p + 1 < g.next.length) : PR T (R ++ [b]) (gop1 g l q) { m with sl := m.sl ++ [s], S2 := S } := by
  refine ⟨hm.lT, ?_, hm.la, hm.lb, hm.lr, hm.ll, hm.li, hm.en, hm.al, hm.ka, fun n h => ?_, fun r p h => ?_, ?_, ?_, hm.ar⟩
  · show (R ++ [b]).length = (g.next ++ [q]).length; simp [hm.lR]
  · obtain ⟨r, h1, h2, h3⟩ := hm.kr n h
    exact ⟨r, h1, by show r < (g.next ++ [q]).length; simp; omega, h3⟩
  · change (g.next ++ [q])[r]? = some (some (p + 1)) at h
    show p + 1 < (g.next ++ [q]).length
    rw [List.length_append, List.length_singleton]
    rcases app_at h with ⟨_, e⟩ | ⟨_, e⟩
    · have := hm.kn r p e; omega
    · have := hq p e.symm; omega
  · show 0 < (g.next ++ [q]).length; simp
  · show (g.ops ++ [l]).length = (g.next ++ [q]).length; simp [hm.lo]
theorem rowB_add (hm : PR T R g m) (b : Nat) (l : List Nm) (q : Option Nat) (n : Nat) : rowB (R ++ [b]) (gop1 g l q) n = rowB R g n := by
  unfold rowB
  cases hk : g.kind[n]? with
  | none => simp
  | some k =>
    by_cases e : k = 6
    · subst e
      obtain ⟨r, h1, h2, _⟩ := hm.kr n hk
      simp only [Option.getD_some, h1, if_true]
      rw [app_l (by rw [hm.lR]; exact h2)]
    · simp [e]
theorem ndC_add (hm : PR T R g m) (b : Nat) (l : List Nm) (q : Option Nat) (s : Slot) (S : Nat → Prop) (n : Nat) : ndC T (R ++ [b]) (gop1 g l q) { m with sl := m.sl ++ [s], S2 := S } n = ndC T R g m n := by
  unfold ndC; rw [rowB_add hm]
theorem rwC_add (hm : PR T R g m) (hl : m.sl.length = g.ops.length) (b : Nat) (l : List Nm) (q : Option Nat) (s : Slot) (S : Nat → Prop) {i : Nat} (hi : i < R.length) : rwC (R ++ [b]) (gop1 g l q) { m with sl := m.sl ++ [s], S2 := S } i = rwC R g m i := by
  have h1 := hm.lR
  have hl2 := hm.lo
  unfold rwC slD nxD
  simp only [app_l (show i < m.sl.length by omega), app_l (show i < g.next.length by omega)]
  congr 2
  cases hn : g.next[i]? with
  | none => rfl
  | some o => cases o with
    | none => rfl
    | some p => cases p with
      | zero => rfl
      | succ p => show pB ((R ++ [b])[p + 1]?) = pB (R[p + 1]?); rw [app_l (by rw [hm.lR]; exact hm.kn i p hn)]
theorem rwC_new (hm : PR T R g m) (hl : m.sl.length = g.ops.length) (b : Nat) (l : List Nm) (q : Option Nat) {A : Option Addr} {n c : Nat} {S : Nat → Prop} {tl : Option Nat} {t : Bool} (ht : tlB (R ++ [b]) q = tl) (hb : q.isNone = t) : rwC (R ++ [b]) (gop1 g l q) { m with sl := m.sl ++ [(A, n, c)], S2 := S } R.length = [.slice A n c, pB tl, .bool t] :=
  rwC_eq (by have := hm.lR; have := hm.lo; show (m.sl ++ [_])[_]? = _; rw [show R.length = m.sl.length by omega]; simp) (by show (g.next ++ [q])[_]? = _; rw [hm.lR]; simp) ht hb
/-- Where the rows are still found. -/
def Pre (R R' : List Nat) : Prop := ∀ i b : Nat, R[i]? = some b → R'[i]? = some b
theorem Pre.refl (R : List Nat) : Pre R R := fun _ _ h => h
theorem Pre.app (R : List Nat) (b : Nat) : Pre R (R ++ [b]) := fun i c h => by rw [app_l (List.getElem?_eq_some_iff.1 h).1]; exact h
theorem Pre.trans {R R' R2 : List Nat} (h : Pre R R') (k : Pre R' R2) : Pre R R2 := fun i c q => k i c (h i c q)
theorem whole_open {k r v : Nat} {acc l : List Nm} (h : whole k g r acc = some (l, v)) : v = 0 ∨ g.next[v]? = some none := by
  induction k generalizing r acc with
  | zero => simp [whole] at h
  | succ z ih =>
    obtain ⟨lr, nx, _, _, hn, h1, h2, h3⟩ := whole_cases h
    rcases nx with _ | q
    · rw [← (h1 rfl).2]; exact .inr hn
    · cases q with
      | zero => exact .inl (h2 rfl).2.symm
      | succ q => exact ih (h3 q rfl)
theorem sr5 (v u : Nat) : (v = 0 ∧ u = 0) ∨ (v = u ∧ v ≠ 0) ∨ (v ≠ u ∧ v = 0) ∨ (v ≠ u ∧ v ≠ 0 ∧ u = 0) ∨ (v ≠ u ∧ v ≠ 0 ∧ u ≠ 0) := by omega
theorem len01 (a b : List Nm) : (((a.length + b.length : Nat) : Int) == (0 : Int)) = (a.isEmpty && b.isEmpty) := by cases a <;> cases b <;> simp <;> omega
theorem tb2 {α : Type} {l : List α} {n : Nat} (h : n < l.length) : ∃ b, l[n]? = some b := ⟨_, List.getElem?_eq_getElem h⟩
end
end Go.Slv
set_option linter.unusedVariables false
set_option linter.unusedSimpArgs false
namespace Go.Proofs.Ytfkkocjheeoobaa
open Go.RowKit Go.Sx Go.Inf Go.Slv
attribute [local irreducible] Go.wpOps Go.Code.wp Go.wpOp Go.wpAnyH Go.Calls Go.Sx.Goal
set_option maxRecDepth 20000
set_option maxHeartbeats 4000000 in
theorem Whole_p (S : Nat → Prop) (Z : List Slot) (T R : List Nat) (g : G) (k r0 b0 v : Nat) (l : List Nm) (vb : Option Nat) (w : World) (K : Ending → World → Prop) (H0 : Sp w [PI S Z T R g]) (hbr0 : R[r0]? = some b0) (hr0 : r0 ≠ 0) (hvb : vB R v = vb) (hf : whole k g r0 [] = some (l, v)) (hK : ∀ (S' : Nat → Prop) (S2 : Nat → Prop) (A : Option Addr) (n : Nat) (cap : Nat) w', Hs w [PI S Z T R g] w' [PI S' Z T R g, strI S2 A l] → (n = l.length) → (n ≤ cap) → K (.returned (.tuple #[.slice A n cap, pB vb])) w') :
    Calls Try.prog 33 #[.pointer (some ⟨b0, 0, none⟩)] w K := by
  obtain ⟨L0, hL0, H⟩ : ∃ L0, L0 = [PI S Z T R g] ∧ Hs w L0 w [PI S Z T R g] := ⟨_, rfl, Hs.refl H0⟩
  refine Sx.en (vs := [.pointer (some ⟨b0, 0, none⟩)]) 29 Try.func33 ?_
  obtain ⟨pm1, hpm1, hzpm1, H1⟩ := P_open H 0 (S := S) (Z := Z) (T := T) (R := R) (g := g) (by kernel_rfl)
  have hb0 := whole_len hf
  have H2 := H1.add (Gx.Ext.refl _) (it := .own 9 1 none 0 0 []) (World.ownsRow_nil _ _ _ _) (fun _ h => by cases h)
  refine Sx.lp 13 (fun z l' w' => ∃ (kk : Nat) (r : Nat) (br : Nat) (A4 : Option Addr) (c4 : Nat) (n4 : Nat) (acc : List Nm), l' = [(0, .pointer (some ⟨br, 0, none⟩)), (4, .slice A4 n4 c4)] ∧ z = kk ∧ Hs w L0 w' [bankI 78 T (ndC T R g pm1) [], kidsI pm1.S1 pm1.as (ksL T g), bankI 80 R (rwC R g pm1) [0], rowsI pm1.S2 pm1.sl g.ops, .own 9 1 A4 c4 n4 (strs acc)] ∧ (R[r]? = some br) ∧ (r ≠ 0) ∧ (whole kk g r (putAll [] acc) = some (l, v)) ∧ (n4 = acc.length)) _ [(0, .pointer (some ⟨b0, 0, none⟩)), (4, .slice none 0 0)] ⟨k, r0, b0, none, 0, 0, [], rfl, rfl, H2, hbr0, hr0, hf, rfl⟩ (fun b1 z1 l1 w1 hI1 K1 hK1 => ?_)
  obtain ⟨kk, r, br, A4, c4, n4, acc, rfl, rfl, H3, hbr, hrz, hw0, hn4⟩ := hI1
  obtain ⟨k2, rfl⟩ : ∃ k2, z1 = k2 + 1 := by cases z1 with | zero => simp [whole] at hw0 | succ k2 => exact ⟨k2, rfl⟩
  obtain ⟨lr, nx, hol, hbz, hnx, hw1, hw2, hw3⟩ := whole_cases hw0
  rw [putAll_len] at hbz
  rw [putAll_putAll] at hw1 hw2 hw3
  rcases nx with _ | _ | q
  · skip
    obtain ⟨rA1, rn1, rc1, hsl1, hrn1, hst1⟩ := P_rw (m := pm1) (g := g) (H3.at 3 (it := rowsI pm1.S2 pm1.sl g.ops) (by kernel_rfl)) hol
    have H4 := bank_take (ty := 80) (T := R) (C := (rwC R g pm1)) (hs := [0]) H3 2 (by kernel_rfl) (n := r) (b := br) hbr (nz1 hrz) (rwC_eq hsl1 hnx (tl := none) rfl (b := true) rfl)
    refine Sx.l 7 0 H4 ?_
    have hst2 := P_rs (m := pm1) (g := g) (H4.at 4 (it := rowsI pm1.S2 pm1.sl g.ops) (by kernel_rfl)) hsl1 hol
    have hcc1 : n4 ≤ c4 := own_cap (H4.at 5 (it := .own 9 1 A4 c4 n4 (strs acc)) (by kernel_rfl))
    refine Sx.aps 0 5 16 rn1 9 1 30 rc1 rA1 A4 c4 n4 (strs acc) (strs lr) H4 (fun h => by have := hst2; rw [h] at this; rw [hrn1, this.nil]; rfl) (fun a ha => hst2.cell ha) (by rw [strs, List.length_map]; omega) (strs_one _) (by omega) (by omega) hcc1 (xs' := strs (acc ++ lr)) (strs_cat _ _) fun A1 cap1 w2 H5 => ?_
    refine Sx.l 9 0 H5 ?_
    refine Sx.c 13 [5] H5 (fun Hp1 R1 hR1 => Slv.Sort_p A1 cap1 (n4 + rn1) (acc ++ lr) w2 R1 Hp1 (by rw [List.length_append]; omega) (fun w3 G1 => hR1 _ _ _ G1 fun H6 => ?_))
    refine Sx.l 8 1 H6 ?_
    refine Sx.rt 13 [] H6 (.tuple #[.slice A1 (n4 + rn1) cap1, .pointer (some ⟨br, 0, none⟩)]) ?_
    have H7 := bank_put (ty := 80) (T := R) (C := (rwC R g pm1)) (C' := (rwC R g pm1)) (hs := [0]) H6 [1, 1] (by kernel_rfl) (n := r) (b := br) hbr (nz1 hrz) (rwC_eq hsl1 hnx (tl := none) rfl (b := true) rfl) (fun _ _ _ => rfl)
    obtain ⟨S1, H8⟩ := P_close H7 [2, 2, 0, 1] (Z := Z) (T := T) (R := R) (g := g) pm1 hpm1 hzpm1 (by kernel_rfl)
    obtain ⟨he1, rfl⟩ := (hw1 rfl)
    have H9 := H8.pick (a := [PI S1 Z T R g, .own 9 1 A1 cap1 (n4 + rn1) (strs l)]) [0, 0] (by rw [← he1]; kernel_rfl)
    have hcp := own_cap (H9.at 1 rfl)
    have hnn := (H9.at 1 rfl).1
    have H10 := Hs.toStr H9 1 (e := 9) (n := (n4 + rn1)) (cap := cap1) (A := A1) (l := l) rfl
    obtain rfl := hvb.symm.trans (vB_n hrz hbr)
    subst hL0
    exact hK S1 (fun c => (Value.slice A1 (n4 + rn1) cap1).ownBlock = some c) A1 (n4 + rn1) cap1 _ H10 (by rw [strs, List.length_map, Nat.mul_one] at hnn; exact hnn.symm) hcp
  · skip
    obtain ⟨rA2, rn2, rc2, hsl2, hrn2, hst3⟩ := P_rw (m := pm1) (g := g) (H3.at 3 (it := rowsI pm1.S2 pm1.sl g.ops) (by kernel_rfl)) hol
    have H11 := bank_take (ty := 80) (T := R) (C := (rwC R g pm1)) (hs := [0]) H3 2 (by kernel_rfl) (n := r) (b := br) hbr (nz1 hrz) (rwC_eq hsl2 hnx (tl := none) rfl (b := false) rfl)
    refine Sx.l 7 0 H11 ?_
    have hst4 := P_rs (m := pm1) (g := g) (H11.at 4 (it := rowsI pm1.S2 pm1.sl g.ops) (by kernel_rfl)) hsl2 hol
    have hcc2 : n4 ≤ c4 := own_cap (H11.at 5 (it := .own 9 1 A4 c4 n4 (strs acc)) (by kernel_rfl))
    refine Sx.aps 0 5 16 rn2 9 1 30 rc2 rA2 A4 c4 n4 (strs acc) (strs lr) H11 (fun h => by have := hst4; rw [h] at this; rw [hrn2, this.nil]; rfl) (fun a ha => hst4.cell ha) (by rw [strs, List.length_map]; omega) (strs_one _) (by omega) (by omega) hcc2 (xs' := strs (acc ++ lr)) (strs_cat _ _) fun A2 cap2 w4 H12 => ?_
    refine Sx.l 9 0 H12 ?_
    refine Sx.c 13 [5] H12 (fun Hp2 R2 hR2 => Slv.Sort_p A2 cap2 (n4 + rn2) (acc ++ lr) w4 R2 Hp2 (by rw [List.length_append]; omega) (fun w5 G2 => hR2 _ _ _ G2 fun H13 => ?_))
    refine Sx.l 8 1 H13 ?_
    refine Sx.rt 13 [] H13 (.tuple #[.slice A2 (n4 + rn2) cap2, .pointer none]) ?_
    have H14 := bank_put (ty := 80) (T := R) (C := (rwC R g pm1)) (C' := (rwC R g pm1)) (hs := [0]) H13 [1, 1] (by kernel_rfl) (n := r) (b := br) hbr (nz1 hrz) (rwC_eq hsl2 hnx (tl := none) rfl (b := false) rfl) (fun _ _ _ => rfl)
    obtain ⟨S2, H15⟩ := P_close H14 [2, 2, 0, 1] (Z := Z) (T := T) (R := R) (g := g) pm1 hpm1 hzpm1 (by kernel_rfl)
    obtain ⟨he1, rfl⟩ := (hw2 rfl)
    have H16 := H15.pick (a := [PI S2 Z T R g, .own 9 1 A2 cap2 (n4 + rn2) (strs l)]) [0, 0] (by rw [← he1]; kernel_rfl)
    have hcp := own_cap (H16.at 1 rfl)
    have hnn := (H16.at 1 rfl).1
    have H17 := Hs.toStr H16 1 (e := 9) (n := (n4 + rn2)) (cap := cap2) (A := A2) (l := l) rfl
    obtain rfl := hvb.symm.trans vB_0
    subst hL0
    exact hK S2 (fun c => (Value.slice A2 (n4 + rn2) cap2).ownBlock = some c) A2 (n4 + rn2) cap2 _ H17 (by rw [strs, List.length_map, Nat.mul_one] at hnn; exact hnn.symm) hcp
  have hq2 := hpm1.kn _ _ hnx
  obtain ⟨bq, hbq⟩ := tb (T := R) (n := q + 1) (by rw [hpm1.lR]; exact hq2)
  obtain ⟨rA3, rn3, rc3, hsl3, hrn3, hst5⟩ := P_rw (m := pm1) (g := g) (H3.at 3 (it := rowsI pm1.S2 pm1.sl g.ops) (by kernel_rfl)) hol
  have H18 := bank_take (ty := 80) (T := R) (C := (rwC R g pm1)) (hs := [0]) H3 2 (by kernel_rfl) (n := r) (b := br) hbr (nz1 hrz) (rwC_eq hsl3 hnx (tl := some bq) (tl_q hbq) (b := false) rfl)
  refine Sx.l 7 0 H18 ?_
  have hst6 := P_rs (m := pm1) (g := g) (H18.at 4 (it := rowsI pm1.S2 pm1.sl g.ops) (by kernel_rfl)) hsl3 hol
  have hcc3 : n4 ≤ c4 := own_cap (H18.at 5 (it := .own 9 1 A4 c4 n4 (strs acc)) (by kernel_rfl))
  refine Sx.aps 0 5 16 rn3 9 1 30 rc3 rA3 A4 c4 n4 (strs acc) (strs lr) H18 (fun h => by have := hst6; rw [h] at this; rw [hrn3, this.nil]; rfl) (fun a ha => hst6.cell ha) (by rw [strs, List.length_map]; omega) (strs_one _) (by omega) (by omega) hcc3 (xs' := strs (acc ++ lr)) (strs_cat _ _) fun A3 cap3 w6 H19 => ?_
  refine Sx.l 9 0 H19 ?_
  refine Sx.l 10 0 H19 ?_
  have H20 := bank_put (ty := 80) (T := R) (C := (rwC R g pm1)) (C' := (rwC R g pm1)) (hs := [0]) H19 [0, 0] (by kernel_rfl) (n := r) (b := br) hbr (nz1 hrz) (rwC_eq hsl3 hnx (tl := some bq) (tl_q hbq) (b := false) rfl) (fun _ _ _ => rfl)
  have H21 := H20.pick (a := [bankI 78 T (ndC T R g pm1) [], kidsI pm1.S1 pm1.as (ksL T g), bankI 80 R (rwC R g pm1) [0], rowsI pm1.S2 pm1.sl g.ops, .own 9 1 A3 cap3 (n4 + rn3) (strs (acc ++ lr))]) [1, 1, 0, 0, 0] (by kernel_rfl)
  exact Sx.to 3 [(0, .pointer (some ⟨bq, 0, none⟩)), (4, .slice A3 (n4 + rn3) cap3)] (hK1 _ _ _ _ (by omega) ⟨k2, (q + 1), bq, A3, cap3, (n4 + rn3), (acc ++ lr), rfl, rfl, H21, hbq, (Nat.succ_ne_zero q), (hw3 q rfl), (by rw [List.length_append]; omega)⟩)
set_option maxHeartbeats 8000000 in
theorem SameRow_p (S : Nat → Prop) (Z : List Slot) (T R : List Nat) (g : G) (k r0 s0 b1 b2 : Nat) (w : World) (K : Ending → World → Prop) (H0 : Sp w [PI S Z T R g]) (g' : G) (t : Bool) (hbr : R[r0]? = some b1) (hr : r0 ≠ 0) (hbs : R[s0]? = some b2) (hs : s0 ≠ 0) (hf : sameRow k g r0 s0 = some (g', t)) (hK : ∀ (S' : Nat → Prop) (R' : List Nat) w', Hs w [PI S Z T R g] w' [PI S' Z T R' g'] → (Pre R R') → K (.returned (.bool t)) w') :
    Calls Try.prog 31 #[.pointer (some ⟨b1, 0, none⟩), .pointer (some ⟨b2, 0, none⟩)] w K := by
  obtain ⟨L0, hL0, H⟩ : ∃ L0, L0 = [PI S Z T R g] ∧ Hs w L0 w [PI S Z T R g] := ⟨_, rfl, Hs.refl H0⟩
  refine Sx.en (vs := [.pointer (some ⟨b1, 0, none⟩), .pointer (some ⟨b2, 0, none⟩)]) 65 Try.func31 ?_
  obtain ⟨a, v, b, u, hw1, hw2, hs1, hs2, hs3, hs4, hs5⟩ := sameRow_cases hf
  have hz1 := whole_len hw1
  have hz2 := whole_len hw2
  have hv1 := whole_v hw1
  have hv2 := whole_v hw2
  have ho1 := whole_open hw1
  have ho2 := whole_open hw2
  have hdf := differ_less (whole_srt .nil hw1) (whole_srt .nil hw2)
  obtain ⟨_, hP, _, _⟩ := P_open H 0 (S := S) (Z := Z) (T := T) (R := R) (g := g) (by kernel_rfl)
  have hRl : R.length = g.ops.length := by rw [hP.lR, hP.lo]
  simp only [stands_set] at hs3 hs4 hs5
  rcases sr5 v u with h5 | h5 | h5 | h5 | h5
  · skip
    obtain ⟨rfl, rfl⟩ := h5
    obtain ⟨rfl, rfl⟩ := hs1 rfl
    refine Sx.c 8 [0] H (fun Hp1 R1 hR1 => Whole_p S Z T R g _ r0 b1 0 a none w R1 Hp1 hbr hr vB_0 hw1 (fun S1 S2 wA1 wn1 wc1 w1 G1 hwn1 hwc1 => hR1 _ _ _ G1 fun H1 => ?_))
    refine Sx.c 10 [0] H1 (fun Hp2 R2 hR2 => Whole_p S1 Z T R g _ s0 b2 0 b none w1 R2 Hp2 hbs hs vB_0 hw2 (fun S3 S4 wA2 wn2 wc2 w2 G2 hwn2 hwc2 => hR2 _ _ _ G2 fun H2 => ?_))
    refine Sx.c 11 [2, 1] H2 (fun Hp3 R3 hR3 => differ_p S2 wA1 wn1 wc1 a S4 wA2 wn2 wc2 b w2 R3 Hp3 hwn1 hwc1 hwn2 hwc2 hz1 hz2 (fun S5 dA1 dn1 dc1 S6 eA1 en1 ec1 w3 G3 hd1 hd2 hd3 hd4 => hR3 _ _ _ G3 fun H3 => ?_))
    rw [hdf] at hd1; dsimp only at hd1
    rw [hdf] at hd3; dsimp only at hd3
    have hle1 := Slv.less_le a b
    have hle2 := Slv.less_le b a
    have H4 := H3.pick (a := [strI S2 wA1 a, strI S4 wA2 b, strI S5 dA1 (less a b), strI S6 eA1 (less b a), PI S3 Z T R g]) [0, 0, 0, 0, 0] (by rw [hdf]; kernel_rfl)
    obtain ⟨pm1, hpm1, hzpm1, H5⟩ := P_open H4 4 (S := S3) (Z := Z) (T := T) (R := R) (g := g) (by kernel_rfl)
    refine Sx.v 24 (.int .i64 (IntKind.i64.wrap (((dn1 : Nat) : Int) + ((en1 : Nat) : Int)))) (.int .i64 ((dn1 + en1 : Nat) : Int)) (congrArg (Value.int .i64) (Gx.i64n (by omega) (by omega))) ?_
    refine Sx.rt 7 [] H5 (.bool (((dn1 + en1 : Nat) : Int) == (0 : Int))) ?_
    obtain ⟨S7, H6⟩ := P_close H5 [0, 0, 0, 0] (Z := Z) (T := T) (R := R) (g := g) pm1 hpm1 hzpm1 (by kernel_rfl)
    subst hL0
    exact Gx.ret_as (v' := .bool ((less a b).isEmpty && (less b a).isEmpty)) (by rw [hd1, hd3, len01]) (hK S7 R _ (H6.pick (a := [PI S7 Z T R g]) [0] (by kernel_rfl)) (Pre.refl R))
  · skip
    obtain ⟨rfl, hv0⟩ := h5
    obtain ⟨rfl, rfl⟩ := hs1 rfl
    obtain ⟨bv, hbv⟩ := tb (T := R) (n := v) (by omega)
    refine Sx.c 8 [0] H (fun Hp4 R4 hR4 => Whole_p S Z T R g _ r0 b1 v a (some bv) w R4 Hp4 hbr hr (vB_n hv0 hbv) hw1 (fun S8 S9 wA3 wn3 wc3 w4 G4 hwn3 hwc3 => hR4 _ _ _ G4 fun H7 => ?_))
    refine Sx.c 10 [0] H7 (fun Hp5 R5 hR5 => Whole_p S8 Z T R g _ s0 b2 v b (some bv) w4 R5 Hp5 hbs hs (vB_n hv0 hbv) hw2 (fun S10 S11 wA4 wn4 wc4 w5 G5 hwn4 hwc4 => hR5 _ _ _ G5 fun H8 => ?_))
    refine Sx.c 11 [2, 1] H8 (fun Hp6 R6 hR6 => differ_p S9 wA3 wn3 wc3 a S11 wA4 wn4 wc4 b w5 R6 Hp6 hwn3 hwc3 hwn4 hwc4 hz1 hz2 (fun S12 dA2 dn2 dc2 S13 eA2 en2 ec2 w6 G6 hd5 hd6 hd7 hd8 => hR6 _ _ _ G6 fun H9 => ?_))
    rw [hdf] at hd5; dsimp only at hd5
    rw [hdf] at hd7; dsimp only at hd7
    have hle1 := Slv.less_le a b
    have hle2 := Slv.less_le b a
    have H10 := H9.pick (a := [strI S9 wA3 a, strI S11 wA4 b, strI S12 dA2 (less a b), strI S13 eA2 (less b a), PI S10 Z T R g]) [0, 0, 0, 0, 0] (by rw [hdf]; kernel_rfl)
    obtain ⟨pm2, hpm2, hzpm2, H11⟩ := P_open H10 4 (S := S10) (Z := Z) (T := T) (R := R) (g := g) (by kernel_rfl)
    refine Sx.peq (kt := 76) (te := 80) 13 bv bv true (bank_cb (H11.at 2 (it := bankI 80 R (rwC R g pm2) [0]) (by kernel_rfl)) hbv (nz1 hv0)) (bank_cb (H11.at 2 (it := bankI 80 R (rwC R g pm2) [0]) (by kernel_rfl)) hbv (nz1 hv0)) (decide_eq_true rfl) ?_
    refine Sx.v 10 (.int .i64 (IntKind.i64.wrap (((dn2 : Nat) : Int) + ((en2 : Nat) : Int)))) (.int .i64 ((dn2 + en2 : Nat) : Int)) (congrArg (Value.int .i64) (Gx.i64n (by omega) (by omega))) ?_
    refine Sx.rt 7 [] H11 (.bool (((dn2 + en2 : Nat) : Int) == (0 : Int))) ?_
    obtain ⟨S14, H12⟩ := P_close H11 [0, 0, 0, 0] (Z := Z) (T := T) (R := R) (g := g) pm2 hpm2 hzpm2 (by kernel_rfl)
    subst hL0
    exact Gx.ret_as (v' := .bool ((less a b).isEmpty && (less b a).isEmpty)) (by rw [hd5, hd7, len01]) (hK S14 R _ (H12.pick (a := [PI S14 Z T R g]) [0] (by kernel_rfl)) (Pre.refl R))
  · skip
    obtain ⟨hne, rfl⟩ := h5
    have hu0 : u ≠ 0 := Ne.symm hne
    obtain ⟨bu, hbu⟩ := tb (T := R) (n := u) (by omega)
    have hou := ho2.resolve_left hu0
    refine Sx.c 8 [0] H (fun Hp7 R7 hR7 => Whole_p S Z T R g _ r0 b1 0 a none w R7 Hp7 hbr hr vB_0 hw1 (fun S15 S16 wA5 wn5 wc5 w7 G7 hwn5 hwc5 => hR7 _ _ _ G7 fun H13 => ?_))
    refine Sx.c 10 [0] H13 (fun Hp8 R8 hR8 => Whole_p S15 Z T R g _ s0 b2 u b (some bu) w7 R8 Hp8 hbs hs (vB_n hu0 hbu) hw2 (fun S17 S18 wA6 wn6 wc6 w8 G8 hwn6 hwc6 => hR8 _ _ _ G8 fun H14 => ?_))
    refine Sx.c 11 [2, 1] H14 (fun Hp9 R9 hR9 => differ_p S16 wA5 wn5 wc5 a S18 wA6 wn6 wc6 b w8 R9 Hp9 hwn5 hwc5 hwn6 hwc6 hz1 hz2 (fun S19 dA3 dn3 dc3 S20 eA3 en3 ec3 w9 G9 hd9 hd10 hd11 hd12 => hR9 _ _ _ G9 fun H15 => ?_))
    rw [hdf] at hd9; dsimp only at hd9
    rw [hdf] at hd11; dsimp only at hd11
    have hle1 := Slv.less_le a b
    have hle2 := Slv.less_le b a
    have H16 := H15.pick (a := [strI S16 wA5 a, strI S18 wA6 b, strI S19 dA3 (less a b), strI S20 eA3 (less b a), PI S17 Z T R g]) [0, 0, 0, 0, 0] (by rw [hdf]; kernel_rfl)
    obtain ⟨pm3, hpm3, hzpm3, H17⟩ := P_open H16 4 (S := S17) (Z := Z) (T := T) (R := R) (g := g) (by kernel_rfl)
    refine Sx.br 34 (decide (((en3 : Nat) : Int) > (0 : Int))) (fun h_c52 => ?_) (fun h_c52 => ?_)
    · skip
      have hsr : srB 0 u (less a b) (less b a) = true := by have h := of_decide_eq_true h_c52; unfold srB; cases hle : less b a with | nil => rw [hle] at hd11; simp at hd11; omega | cons x l => simp
      obtain ⟨rfl, rfl⟩ := hs2 hne hsr
      refine Sx.rt 9 [] H17 (.bool false) ?_
      obtain ⟨S21, H18⟩ := P_close H17 [0, 0, 0, 0] (Z := Z) (T := T) (R := R) (g := g) pm3 hpm3 hzpm3 (by kernel_rfl)
      subst hL0
      exact (hK S21 R _ (H18.pick (a := [PI S21 Z T R g]) [0] (by kernel_rfl)) (Pre.refl R))
    have hsr : srB 0 u (less a b) (less b a) = false := by have h := of_decide_eq_false h_c52; simp only [srB, beq_self_eq_true, Bool.true_and, Bool.or_eq_false_iff, Bool.and_eq_false_iff, beq_eq_false_iff_ne, ne_eq]; refine ⟨?_, .inl hu0⟩; cases hle : less b a with | nil => rfl | cons x l => rw [hle] at hd11; simp at hd11; omega
    have hg' := (hs3 hne hsr rfl)
    obtain ⟨rfl, rfl⟩ := hg'
    obtain ⟨lo1, hlo1⟩ := tb2 (l := g.ops) (n := u) (by first | omega | (simp only [List.length_set, List.length_append]; omega))
    obtain ⟨rA1, rn1, rc1, hsl1, hrn1, hst1⟩ := P_rw (m := pm3) (g := g) (H17.at 3 (it := rowsI pm3.S2 pm3.sl g.ops) (by kernel_rfl)) hlo1
    have H19 := bank_take (ty := 80) (T := R) (C := (rwC R g pm3)) (hs := [0]) H17 2 (by kernel_rfl) (n := u) (b := bu) hbu (nz1 hu0) (rwC_eq hsl1 hou (tl := none) rfl (b := true) rfl)
    refine Sx.c 5 [0] H19 (fun Hp10 R10 hR10 => becomeN_p bu dA3 dn3 dc3 (.slice rA1 rn1 rc1) (.pointer none) (.bool true) w9 R10 Hp10  (fun w10 G10 => hR10 _ _ _ G10 fun H20 => ?_))
    obtain ⟨S22, H21⟩ := rows_set H20 [4, 6] u (c := dc3) (n := dn3) (S := pm3.S2) (sl := pm3.sl) (ops := (g).ops) (S2 := S19) (A := dA3) (l := (less a b)) (by kernel_rfl) hd9
    have hm1 : PR T R (gset g u (less a b) (some 0)) ({ pm3 with sl := pm3.sl.set u (dA3, dn3, dc3), S2 := S22 } : Pm) := hpm3.set (less a b) (fun q h => by cases h)
    have hl1 := (List.getElem?_eq_some_iff.1 hsl1).1
    have hl2 := (List.getElem?_eq_some_iff.1 hou).1
    have H22 := bank_put (ty := 80) (T := R) (C := (rwC R g pm3)) (C' := (rwC R (gset g u (less a b) (some 0)) ({ pm3 with sl := pm3.sl.set u (dA3, dn3, dc3), S2 := S22 } : Pm))) (hs := [0]) H21 [1, 1] (by kernel_rfl) (n := u) (b := bu) hbu (nz1 hu0) (rwC_at hl1 hl2 (tl := none) rfl (b := false) rfl) (fun i hi _ => rwC_set hi)
    have H23 := H22.pick (a := [bankI 78 T (ndC T R (gset g u (less a b) (some 0)) ({ pm3 with sl := pm3.sl.set u (dA3, dn3, dc3), S2 := S22 } : Pm)) [], kidsI ({ pm3 with sl := pm3.sl.set u (dA3, dn3, dc3), S2 := S22 } : Pm).S1 ({ pm3 with sl := pm3.sl.set u (dA3, dn3, dc3), S2 := S22 } : Pm).as (ksL T (gset g u (less a b) (some 0))), bankI 80 R (rwC R (gset g u (less a b) (some 0)) ({ pm3 with sl := pm3.sl.set u (dA3, dn3, dc3), S2 := S22 } : Pm)) [0], rowsI ({ pm3 with sl := pm3.sl.set u (dA3, dn3, dc3), S2 := S22 } : Pm).S2 ({ pm3 with sl := pm3.sl.set u (dA3, dn3, dc3), S2 := S22 } : Pm).sl (gset g u (less a b) (some 0)).ops, strI S16 wA5 a, strI S18 wA6 b, strI S20 eA3 (less b a)]) [2, 2, 0, 0, 0, 0, 0] (by kernel_rfl)
    refine Sx.rt 9 [] H23 (.bool true) ?_
    obtain ⟨S23, H24⟩ := P_close H23 [0, 0, 0, 0] (Z := Z) (T := T) (R := R) (g := (gset g u (less a b) (some 0))) ({ pm3 with sl := pm3.sl.set u (dA3, dn3, dc3), S2 := S22 } : Pm) hm1 hzpm3 (by kernel_rfl)
    subst hL0
    exact (hK S23 R _ (H24.pick (a := [PI S23 Z T R (gset g u (less a b) (some 0))]) [0] (by kernel_rfl)) (Pre.refl R))
  · skip
    obtain ⟨hne, hv0, rfl⟩ := h5
    obtain ⟨bv, hbv⟩ := tb (T := R) (n := v) (by omega)
    have hov := ho1.resolve_left hv0
    refine Sx.c 8 [0] H (fun Hp11 R11 hR11 => Whole_p S Z T R g _ r0 b1 v a (some bv) w R11 Hp11 hbr hr (vB_n hv0 hbv) hw1 (fun S24 S25 wA7 wn7 wc7 w11 G11 hwn7 hwc7 => hR11 _ _ _ G11 fun H25 => ?_))
    refine Sx.c 10 [0] H25 (fun Hp12 R12 hR12 => Whole_p S24 Z T R g _ s0 b2 0 b none w11 R12 Hp12 hbs hs vB_0 hw2 (fun S26 S27 wA8 wn8 wc8 w12 G12 hwn8 hwc8 => hR12 _ _ _ G12 fun H26 => ?_))
    refine Sx.c 11 [2, 1] H26 (fun Hp13 R13 hR13 => differ_p S25 wA7 wn7 wc7 a S27 wA8 wn8 wc8 b w12 R13 Hp13 hwn7 hwc7 hwn8 hwc8 hz1 hz2 (fun S28 dA4 dn4 dc4 S29 eA4 en4 ec4 w13 G13 hd13 hd14 hd15 hd16 => hR13 _ _ _ G13 fun H27 => ?_))
    rw [hdf] at hd13; dsimp only at hd13
    rw [hdf] at hd15; dsimp only at hd15
    have hle1 := Slv.less_le a b
    have hle2 := Slv.less_le b a
    have H28 := H27.pick (a := [strI S25 wA7 a, strI S27 wA8 b, strI S28 dA4 (less a b), strI S29 eA4 (less b a), PI S26 Z T R g]) [0, 0, 0, 0, 0] (by rw [hdf]; kernel_rfl)
    obtain ⟨pm5, hpm5, hzpm5, H29⟩ := P_open H28 4 (S := S26) (Z := Z) (T := T) (R := R) (g := g) (by kernel_rfl)
    refine Sx.br 42 (decide (((dn4 : Nat) : Int) > (0 : Int))) (fun h_c61 => ?_) (fun h_c61 => ?_)
    · skip
      have hsr : srB v 0 (less a b) (less b a) = true := by have h := of_decide_eq_true h_c61; unfold srB; cases hle : less a b with | nil => rw [hle] at hd13; simp at hd13; omega | cons x l => simp
      obtain ⟨rfl, rfl⟩ := hs2 hne hsr
      refine Sx.rt 9 [] H29 (.bool false) ?_
      obtain ⟨S30, H30⟩ := P_close H29 [0, 0, 0, 0] (Z := Z) (T := T) (R := R) (g := g) pm5 hpm5 hzpm5 (by kernel_rfl)
      subst hL0
      exact (hK S30 R _ (H30.pick (a := [PI S30 Z T R g]) [0] (by kernel_rfl)) (Pre.refl R))
    have hsr : srB v 0 (less a b) (less b a) = false := by have h := of_decide_eq_false h_c61; simp only [srB, beq_self_eq_true, Bool.true_and, Bool.or_eq_false_iff, Bool.and_eq_false_iff, beq_eq_false_iff_ne, ne_eq]; refine ⟨.inl hv0, ?_⟩; cases hle : less a b with | nil => rfl | cons x l => rw [hle] at hd13; simp at hd13; omega
    have hg' := (hs4 hne hsr hv0 rfl)
    obtain ⟨rfl, rfl⟩ := hg'
    obtain ⟨lo2, hlo2⟩ := tb2 (l := g.ops) (n := v) (by first | omega | (simp only [List.length_set, List.length_append]; omega))
    obtain ⟨rA2, rn2, rc2, hsl2, hrn2, hst2⟩ := P_rw (m := pm5) (g := g) (H29.at 3 (it := rowsI pm5.S2 pm5.sl g.ops) (by kernel_rfl)) hlo2
    have H31 := bank_take (ty := 80) (T := R) (C := (rwC R g pm5)) (hs := [0]) H29 2 (by kernel_rfl) (n := v) (b := bv) hbv (nz1 hv0) (rwC_eq hsl2 hov (tl := none) rfl (b := true) rfl)
    refine Sx.c 5 [0] H31 (fun Hp14 R14 hR14 => becomeN_p bv eA4 en4 ec4 (.slice rA2 rn2 rc2) (.pointer none) (.bool true) w13 R14 Hp14  (fun w14 G14 => hR14 _ _ _ G14 fun H32 => ?_))
    obtain ⟨S31, H33⟩ := rows_set H32 [4, 7] v (c := ec4) (n := en4) (S := pm5.S2) (sl := pm5.sl) (ops := (g).ops) (S2 := S29) (A := eA4) (l := (less b a)) (by kernel_rfl) hd15
    have hm2 : PR T R (gset g v (less b a) (some 0)) ({ pm5 with sl := pm5.sl.set v (eA4, en4, ec4), S2 := S31 } : Pm) := hpm5.set (less b a) (fun q h => by cases h)
    have hl3 := (List.getElem?_eq_some_iff.1 hsl2).1
    have hl4 := (List.getElem?_eq_some_iff.1 hov).1
    have H34 := bank_put (ty := 80) (T := R) (C := (rwC R g pm5)) (C' := (rwC R (gset g v (less b a) (some 0)) ({ pm5 with sl := pm5.sl.set v (eA4, en4, ec4), S2 := S31 } : Pm))) (hs := [0]) H33 [1, 1] (by kernel_rfl) (n := v) (b := bv) hbv (nz1 hv0) (rwC_at hl3 hl4 (tl := none) rfl (b := false) rfl) (fun i hi _ => rwC_set hi)
    have H35 := H34.pick (a := [bankI 78 T (ndC T R (gset g v (less b a) (some 0)) ({ pm5 with sl := pm5.sl.set v (eA4, en4, ec4), S2 := S31 } : Pm)) [], kidsI ({ pm5 with sl := pm5.sl.set v (eA4, en4, ec4), S2 := S31 } : Pm).S1 ({ pm5 with sl := pm5.sl.set v (eA4, en4, ec4), S2 := S31 } : Pm).as (ksL T (gset g v (less b a) (some 0))), bankI 80 R (rwC R (gset g v (less b a) (some 0)) ({ pm5 with sl := pm5.sl.set v (eA4, en4, ec4), S2 := S31 } : Pm)) [0], rowsI ({ pm5 with sl := pm5.sl.set v (eA4, en4, ec4), S2 := S31 } : Pm).S2 ({ pm5 with sl := pm5.sl.set v (eA4, en4, ec4), S2 := S31 } : Pm).sl (gset g v (less b a) (some 0)).ops, strI S25 wA7 a, strI S27 wA8 b, strI S28 dA4 (less a b)]) [2, 2, 0, 0, 0, 0, 0] (by kernel_rfl)
    refine Sx.rt 9 [] H35 (.bool true) ?_
    obtain ⟨S32, H36⟩ := P_close H35 [0, 0, 0, 0] (Z := Z) (T := T) (R := R) (g := (gset g v (less b a) (some 0))) ({ pm5 with sl := pm5.sl.set v (eA4, en4, ec4), S2 := S31 } : Pm) hm2 hzpm5 (by kernel_rfl)
    subst hL0
    exact (hK S32 R _ (H36.pick (a := [PI S32 Z T R (gset g v (less b a) (some 0))]) [0] (by kernel_rfl)) (Pre.refl R))
  obtain ⟨hne, hv0, hu0⟩ := h5
  obtain ⟨bv, hbv⟩ := tb (T := R) (n := v) (by omega)
  obtain ⟨bu, hbu⟩ := tb (T := R) (n := u) (by omega)
  have hov := ho1.resolve_left hv0
  have hou := ho2.resolve_left hu0
  have hsr : srB v u (less a b) (less b a) = false := by simp [srB, hv0, hu0]
  refine Sx.c 8 [0] H (fun Hp15 R15 hR15 => Whole_p S Z T R g _ r0 b1 v a (some bv) w R15 Hp15 hbr hr (vB_n hv0 hbv) hw1 (fun S33 S34 wA9 wn9 wc9 w15 G15 hwn9 hwc9 => hR15 _ _ _ G15 fun H37 => ?_))
  refine Sx.c 10 [0] H37 (fun Hp16 R16 hR16 => Whole_p S33 Z T R g _ s0 b2 u b (some bu) w15 R16 Hp16 hbs hs (vB_n hu0 hbu) hw2 (fun S35 S36 wA10 wn10 wc10 w16 G16 hwn10 hwc10 => hR16 _ _ _ G16 fun H38 => ?_))
  refine Sx.c 11 [2, 1] H38 (fun Hp17 R17 hR17 => differ_p S34 wA9 wn9 wc9 a S36 wA10 wn10 wc10 b w16 R17 Hp17 hwn9 hwc9 hwn10 hwc10 hz1 hz2 (fun S37 dA5 dn5 dc5 S38 eA5 en5 ec5 w17 G17 hd17 hd18 hd19 hd20 => hR17 _ _ _ G17 fun H39 => ?_))
  rw [hdf] at hd17; dsimp only at hd17
  rw [hdf] at hd19; dsimp only at hd19
  have hle1 := Slv.less_le a b
  have hle2 := Slv.less_le b a
  have H40 := H39.pick (a := [strI S34 wA9 a, strI S36 wA10 b, strI S37 dA5 (less a b), strI S38 eA5 (less b a), PI S35 Z T R g]) [0, 0, 0, 0, 0] (by rw [hdf]; kernel_rfl)
  obtain ⟨pm7, hpm7, hzpm7, H41⟩ := P_open H40 4 (S := S35) (Z := Z) (T := T) (R := R) (g := g) (by kernel_rfl)
  refine Sx.peq (kt := 76) (te := 80) 13 bv bu false (bank_cb (H41.at 2 (it := bankI 80 R (rwC R g pm7) [0]) (by kernel_rfl)) hbv (nz1 hv0)) (bank_cb (H41.at 2 (it := bankI 80 R (rwC R g pm7) [0]) (by kernel_rfl)) hbu (nz1 hu0)) (bank_ne (H41.at 2 (it := bankI 80 R (rwC R g pm7) [0]) (by kernel_rfl)) hbv hbu (nz1 hv0) (nz1 hu0) hne) ?_
  refine Sx.c 22 [] H41 (fun Hp18 R18 hR18 => Any_p  w17 R18 Hp18  (fun bx1 w18 G18 => hR18 _ _ _ G18 fun H42 => ?_))
  obtain ⟨g1, x, hop, hg', rfl⟩ := hs5 hne hsr hv0 hu0
  obtain ⟨hzo, rfl, rfl⟩ := opn_op1 hop
  subst hg'
  obtain ⟨q, hq⟩ : ∃ q, g.ops.length = q + 1 := ⟨g.ops.length - 1, by have := hP.z; have := hP.lo; omega⟩
  have H43 := H42.add (Gx.Ext.refl _) (it := strI (fun _ => False) none []) strI_nil (fun _ h => h.elim)
  have hsl3 := (H43.at 4 (it := rowsI pm7.S2 pm7.sl g.ops) (by kernel_rfl)).1.1
  obtain ⟨S39, H44⟩ := rows_add H43 [4, 8] (c := 0) (n := 0) (S := pm7.S2) (sl := pm7.sl) (ops := g.ops) (S2 := fun _ => False) (A := none) (l := []) (by kernel_rfl) rfl
  have hm3 : PR T (R ++ [bx1]) (gop1 g [] none) ({ pm7 with sl := pm7.sl ++ [(none, 0, 0)], S2 := S39 } : Pm) := hpm7.add bx1 [] (fun _ h => by cases h)
  have H45 := bank_add (b := bx1) (ty := 80) (T := R) (C := (rwC R g pm7)) (C' := rwC (R ++ [bx1]) (gop1 g [] none) ({ pm7 with sl := pm7.sl ++ [(none, 0, 0)], S2 := S39 } : Pm)) (hs := [0]) H44 [1, 3] (by kernel_rfl) (rwC_new hpm7 hsl3 bx1 [] none (tl := none) rfl (t := true) rfl) (fun i hi => rwC_add hpm7 hsl3 bx1 [] none _ _ hi)
  have H46 := bank_as (ty := 78) (T := T) (hs := []) (C := (ndC T R g pm7)) (C' := ndC T (R ++ [bx1]) (gop1 g [] none) ({ pm7 with sl := pm7.sl ++ [(none, 0, 0)], S2 := S39 } : Pm)) H45 2 (by kernel_rfl) (fun j _ _ => ndC_add hpm7 bx1 [] none _ _ j)
  have H47 := H46.pick (a := [bankI 78 T (ndC T (R ++ [bx1]) (gop1 g [] none) ({ pm7 with sl := pm7.sl ++ [(none, 0, 0)], S2 := S39 } : Pm)) [], kidsI ({ pm7 with sl := pm7.sl ++ [(none, 0, 0)], S2 := S39 } : Pm).S1 ({ pm7 with sl := pm7.sl ++ [(none, 0, 0)], S2 := S39 } : Pm).as (ksL T (gop1 g [] none)), bankI 80 (R ++ [bx1]) (rwC (R ++ [bx1]) (gop1 g [] none) ({ pm7 with sl := pm7.sl ++ [(none, 0, 0)], S2 := S39 } : Pm)) [0], rowsI ({ pm7 with sl := pm7.sl ++ [(none, 0, 0)], S2 := S39 } : Pm).S2 ({ pm7 with sl := pm7.sl ++ [(none, 0, 0)], S2 := S39 } : Pm).sl (gop1 g [] none).ops, strI S34 wA9 a, strI S36 wA10 b, strI S37 dA5 (less a b), strI S38 eA5 (less b a)]) [2, 2, 0, 0, 0, 0, 0, 0] (by kernel_rfl)
  have hbx : (R ++ [bx1])[q + 1]? = some bx1 := by rw [← hq, ← hRl]; simp
  have hvl := (List.getElem?_eq_some_iff.1 hbv).1
  have hul := (List.getElem?_eq_some_iff.1 hbu).1
  have hnl := hP.lR
  have hbv2 : (R ++ [bx1])[v]? = some bv := by rw [app_l hvl]; exact hbv
  have hbu2 : (R ++ [bx1])[u]? = some bu := by rw [app_l hul]; exact hbu
  have hov2 : (g.next ++ [none])[v]? = some none := by rw [app_l (by omega)]; exact hov
  have hou2 : (g.next ++ [none])[u]? = some none := by rw [app_l (by omega)]; exact hou
  have hou3 : ((g.next ++ [none]).set v (some g.ops.length))[u]? = some none := by rw [List.getElem?_set_ne hne]; exact hou2
  obtain ⟨lo3, hlo3⟩ := tb2 (l := ((gop1 g [] none)).ops) (n := v) (by first | omega | (simp only [List.length_set, List.length_append]; omega))
  obtain ⟨rA3, rn3, rc3, hsl4, hrn3, hst3⟩ := P_rw (m := ({ pm7 with sl := pm7.sl ++ [(none, 0, 0)], S2 := S39 } : Pm)) (g := (gop1 g [] none)) (H47.at 3 (it := rowsI ({ pm7 with sl := pm7.sl ++ [(none, 0, 0)], S2 := S39 } : Pm).S2 ({ pm7 with sl := pm7.sl ++ [(none, 0, 0)], S2 := S39 } : Pm).sl (gop1 g [] none).ops) (by kernel_rfl)) hlo3
  have H48 := bank_take (ty := 80) (T := (R ++ [bx1])) (C := (rwC (R ++ [bx1]) (gop1 g [] none) ({ pm7 with sl := pm7.sl ++ [(none, 0, 0)], S2 := S39 } : Pm))) (hs := [0]) H47 2 (by kernel_rfl) (n := v) (b := bv) hbv2 (nz1 hv0) (rwC_eq hsl4 hov2 (tl := none) rfl (b := true) rfl)
  refine Sx.c 8 [0] H48 (fun Hp19 R19 hR19 => becomeS_p bv eA5 en5 ec5 bx1 (.slice rA3 rn3 rc3) (.pointer none) (.bool true) w18 R19 Hp19  (fun w19 G19 => hR19 _ _ _ G19 fun H49 => ?_))
  obtain ⟨S40, H50⟩ := rows_set H49 [4, 7] v (c := ec5) (n := en5) (S := ({ pm7 with sl := pm7.sl ++ [(none, 0, 0)], S2 := S39 } : Pm).S2) (sl := ({ pm7 with sl := pm7.sl ++ [(none, 0, 0)], S2 := S39 } : Pm).sl) (ops := ((gop1 g [] none)).ops) (S2 := S38) (A := eA5) (l := (less b a)) (by kernel_rfl) hd19
  have hm4 : PR T (R ++ [bx1]) (gset (gop1 g [] none) v (less b a) (some g.ops.length)) ({ ({ pm7 with sl := pm7.sl ++ [(none, 0, 0)], S2 := S39 } : Pm) with sl := ({ pm7 with sl := pm7.sl ++ [(none, 0, 0)], S2 := S39 } : Pm).sl.set v (eA5, en5, ec5), S2 := S40 } : Pm) := hm3.set (less b a) (fun q' h => by first | (have h := Option.some.inj h; show q' + 1 < (g.next ++ [none]).length; rw [List.length_append, List.length_singleton]; have := hP.lo; omega) | (have h := Option.some.inj h; show q' + 1 < ((g.next ++ [none]).set v _).length; rw [List.length_set, List.length_append, List.length_singleton]; have := hP.lo; omega))
  have hl5 := (List.getElem?_eq_some_iff.1 hsl4).1
  have hl6 := (List.getElem?_eq_some_iff.1 hov2).1
  have H51 := bank_put (ty := 80) (T := (R ++ [bx1])) (C := (rwC (R ++ [bx1]) (gop1 g [] none) ({ pm7 with sl := pm7.sl ++ [(none, 0, 0)], S2 := S39 } : Pm))) (C' := (rwC (R ++ [bx1]) (gset (gop1 g [] none) v (less b a) (some g.ops.length)) ({ ({ pm7 with sl := pm7.sl ++ [(none, 0, 0)], S2 := S39 } : Pm) with sl := ({ pm7 with sl := pm7.sl ++ [(none, 0, 0)], S2 := S39 } : Pm).sl.set v (eA5, en5, ec5), S2 := S40 } : Pm))) (hs := [0]) H50 [1, 1] (by kernel_rfl) (n := v) (b := bv) hbv2 (nz1 hv0) (rwC_at hl5 hl6 (tl := (some bx1)) (by rw [hq]; exact hbx) (b := false) rfl) (fun i hi _ => rwC_set hi)
  have H52 := H51.pick (a := [bankI 78 T (ndC T (R ++ [bx1]) (gset (gop1 g [] none) v (less b a) (some g.ops.length)) ({ ({ pm7 with sl := pm7.sl ++ [(none, 0, 0)], S2 := S39 } : Pm) with sl := ({ pm7 with sl := pm7.sl ++ [(none, 0, 0)], S2 := S39 } : Pm).sl.set v (eA5, en5, ec5), S2 := S40 } : Pm)) [], kidsI ({ ({ pm7 with sl := pm7.sl ++ [(none, 0, 0)], S2 := S39 } : Pm) with sl := ({ pm7 with sl := pm7.sl ++ [(none, 0, 0)], S2 := S39 } : Pm).sl.set v (eA5, en5, ec5), S2 := S40 } : Pm).S1 ({ ({ pm7 with sl := pm7.sl ++ [(none, 0, 0)], S2 := S39 } : Pm) with sl := ({ pm7 with sl := pm7.sl ++ [(none, 0, 0)], S2 := S39 } : Pm).sl.set v (eA5, en5, ec5), S2 := S40 } : Pm).as (ksL T (gset (gop1 g [] none) v (less b a) (some g.ops.length))), bankI 80 (R ++ [bx1]) (rwC (R ++ [bx1]) (gset (gop1 g [] none) v (less b a) (some g.ops.length)) ({ ({ pm7 with sl := pm7.sl ++ [(none, 0, 0)], S2 := S39 } : Pm) with sl := ({ pm7 with sl := pm7.sl ++ [(none, 0, 0)], S2 := S39 } : Pm).sl.set v (eA5, en5, ec5), S2 := S40 } : Pm)) [0], rowsI ({ ({ pm7 with sl := pm7.sl ++ [(none, 0, 0)], S2 := S39 } : Pm) with sl := ({ pm7 with sl := pm7.sl ++ [(none, 0, 0)], S2 := S39 } : Pm).sl.set v (eA5, en5, ec5), S2 := S40 } : Pm).S2 ({ ({ pm7 with sl := pm7.sl ++ [(none, 0, 0)], S2 := S39 } : Pm) with sl := ({ pm7 with sl := pm7.sl ++ [(none, 0, 0)], S2 := S39 } : Pm).sl.set v (eA5, en5, ec5), S2 := S40 } : Pm).sl (gset (gop1 g [] none) v (less b a) (some g.ops.length)).ops, strI S34 wA9 a, strI S36 wA10 b, strI S37 dA5 (less a b)]) [2, 2, 0, 0, 0, 0, 0] (by kernel_rfl)
  obtain ⟨lo4, hlo4⟩ := tb2 (l := ((gset (gop1 g [] none) v (less b a) (some g.ops.length))).ops) (n := u) (by first | omega | (simp only [List.length_set, List.length_append]; omega))
  obtain ⟨rA4, rn4, rc4, hsl5, hrn4, hst4⟩ := P_rw (m := ({ ({ pm7 with sl := pm7.sl ++ [(none, 0, 0)], S2 := S39 } : Pm) with sl := ({ pm7 with sl := pm7.sl ++ [(none, 0, 0)], S2 := S39 } : Pm).sl.set v (eA5, en5, ec5), S2 := S40 } : Pm)) (g := (gset (gop1 g [] none) v (less b a) (some g.ops.length))) (H52.at 3 (it := rowsI ({ ({ pm7 with sl := pm7.sl ++ [(none, 0, 0)], S2 := S39 } : Pm) with sl := ({ pm7 with sl := pm7.sl ++ [(none, 0, 0)], S2 := S39 } : Pm).sl.set v (eA5, en5, ec5), S2 := S40 } : Pm).S2 ({ ({ pm7 with sl := pm7.sl ++ [(none, 0, 0)], S2 := S39 } : Pm) with sl := ({ pm7 with sl := pm7.sl ++ [(none, 0, 0)], S2 := S39 } : Pm).sl.set v (eA5, en5, ec5), S2 := S40 } : Pm).sl (gset (gop1 g [] none) v (less b a) (some g.ops.length)).ops) (by kernel_rfl)) hlo4
  have H53 := bank_take (ty := 80) (T := (R ++ [bx1])) (C := (rwC (R ++ [bx1]) (gset (gop1 g [] none) v (less b a) (some g.ops.length)) ({ ({ pm7 with sl := pm7.sl ++ [(none, 0, 0)], S2 := S39 } : Pm) with sl := ({ pm7 with sl := pm7.sl ++ [(none, 0, 0)], S2 := S39 } : Pm).sl.set v (eA5, en5, ec5), S2 := S40 } : Pm))) (hs := [0]) H52 2 (by kernel_rfl) (n := u) (b := bu) hbu2 (nz1 hu0) (rwC_eq hsl5 hou3 (tl := none) rfl (b := true) rfl)
  refine Sx.c 6 [0] H53 (fun Hp20 R20 hR20 => becomeS_p bu dA5 dn5 dc5 bx1 (.slice rA4 rn4 rc4) (.pointer none) (.bool true) w19 R20 Hp20  (fun w20 G20 => hR20 _ _ _ G20 fun H54 => ?_))
  obtain ⟨S41, H55⟩ := rows_set H54 [4, 6] u (c := dc5) (n := dn5) (S := ({ ({ pm7 with sl := pm7.sl ++ [(none, 0, 0)], S2 := S39 } : Pm) with sl := ({ pm7 with sl := pm7.sl ++ [(none, 0, 0)], S2 := S39 } : Pm).sl.set v (eA5, en5, ec5), S2 := S40 } : Pm).S2) (sl := ({ ({ pm7 with sl := pm7.sl ++ [(none, 0, 0)], S2 := S39 } : Pm) with sl := ({ pm7 with sl := pm7.sl ++ [(none, 0, 0)], S2 := S39 } : Pm).sl.set v (eA5, en5, ec5), S2 := S40 } : Pm).sl) (ops := ((gset (gop1 g [] none) v (less b a) (some g.ops.length))).ops) (S2 := S37) (A := dA5) (l := (less a b)) (by kernel_rfl) hd17
  have hm5 : PR T (R ++ [bx1]) (gset (gset (gop1 g [] none) v (less b a) (some g.ops.length)) u (less a b) (some g.ops.length)) ({ ({ ({ pm7 with sl := pm7.sl ++ [(none, 0, 0)], S2 := S39 } : Pm) with sl := ({ pm7 with sl := pm7.sl ++ [(none, 0, 0)], S2 := S39 } : Pm).sl.set v (eA5, en5, ec5), S2 := S40 } : Pm) with sl := ({ ({ pm7 with sl := pm7.sl ++ [(none, 0, 0)], S2 := S39 } : Pm) with sl := ({ pm7 with sl := pm7.sl ++ [(none, 0, 0)], S2 := S39 } : Pm).sl.set v (eA5, en5, ec5), S2 := S40 } : Pm).sl.set u (dA5, dn5, dc5), S2 := S41 } : Pm) := hm4.set (less a b) (fun q' h => by first | (have h := Option.some.inj h; show q' + 1 < (g.next ++ [none]).length; rw [List.length_append, List.length_singleton]; have := hP.lo; omega) | (have h := Option.some.inj h; show q' + 1 < ((g.next ++ [none]).set v _).length; rw [List.length_set, List.length_append, List.length_singleton]; have := hP.lo; omega))
  have hl7 := (List.getElem?_eq_some_iff.1 hsl5).1
  have hl8 := (List.getElem?_eq_some_iff.1 hou3).1
  have H56 := bank_put (ty := 80) (T := (R ++ [bx1])) (C := (rwC (R ++ [bx1]) (gset (gop1 g [] none) v (less b a) (some g.ops.length)) ({ ({ pm7 with sl := pm7.sl ++ [(none, 0, 0)], S2 := S39 } : Pm) with sl := ({ pm7 with sl := pm7.sl ++ [(none, 0, 0)], S2 := S39 } : Pm).sl.set v (eA5, en5, ec5), S2 := S40 } : Pm))) (C' := (rwC (R ++ [bx1]) (gset (gset (gop1 g [] none) v (less b a) (some g.ops.length)) u (less a b) (some g.ops.length)) ({ ({ ({ pm7 with sl := pm7.sl ++ [(none, 0, 0)], S2 := S39 } : Pm) with sl := ({ pm7 with sl := pm7.sl ++ [(none, 0, 0)], S2 := S39 } : Pm).sl.set v (eA5, en5, ec5), S2 := S40 } : Pm) with sl := ({ ({ pm7 with sl := pm7.sl ++ [(none, 0, 0)], S2 := S39 } : Pm) with sl := ({ pm7 with sl := pm7.sl ++ [(none, 0, 0)], S2 := S39 } : Pm).sl.set v (eA5, en5, ec5), S2 := S40 } : Pm).sl.set u (dA5, dn5, dc5), S2 := S41 } : Pm))) (hs := [0]) H55 [1, 1] (by kernel_rfl) (n := u) (b := bu) hbu2 (nz1 hu0) (rwC_at hl7 hl8 (tl := (some bx1)) (by rw [hq]; exact hbx) (b := false) rfl) (fun i hi _ => rwC_set hi)
  have H57 := H56.pick (a := [bankI 78 T (ndC T (R ++ [bx1]) (gset (gset (gop1 g [] none) v (less b a) (some g.ops.length)) u (less a b) (some g.ops.length)) ({ ({ ({ pm7 with sl := pm7.sl ++ [(none, 0, 0)], S2 := S39 } : Pm) with sl := ({ pm7 with sl := pm7.sl ++ [(none, 0, 0)], S2 := S39 } : Pm).sl.set v (eA5, en5, ec5), S2 := S40 } : Pm) with sl := ({ ({ pm7 with sl := pm7.sl ++ [(none, 0, 0)], S2 := S39 } : Pm) with sl := ({ pm7 with sl := pm7.sl ++ [(none, 0, 0)], S2 := S39 } : Pm).sl.set v (eA5, en5, ec5), S2 := S40 } : Pm).sl.set u (dA5, dn5, dc5), S2 := S41 } : Pm)) [], kidsI ({ ({ ({ pm7 with sl := pm7.sl ++ [(none, 0, 0)], S2 := S39 } : Pm) with sl := ({ pm7 with sl := pm7.sl ++ [(none, 0, 0)], S2 := S39 } : Pm).sl.set v (eA5, en5, ec5), S2 := S40 } : Pm) with sl := ({ ({ pm7 with sl := pm7.sl ++ [(none, 0, 0)], S2 := S39 } : Pm) with sl := ({ pm7 with sl := pm7.sl ++ [(none, 0, 0)], S2 := S39 } : Pm).sl.set v (eA5, en5, ec5), S2 := S40 } : Pm).sl.set u (dA5, dn5, dc5), S2 := S41 } : Pm).S1 ({ ({ ({ pm7 with sl := pm7.sl ++ [(none, 0, 0)], S2 := S39 } : Pm) with sl := ({ pm7 with sl := pm7.sl ++ [(none, 0, 0)], S2 := S39 } : Pm).sl.set v (eA5, en5, ec5), S2 := S40 } : Pm) with sl := ({ ({ pm7 with sl := pm7.sl ++ [(none, 0, 0)], S2 := S39 } : Pm) with sl := ({ pm7 with sl := pm7.sl ++ [(none, 0, 0)], S2 := S39 } : Pm).sl.set v (eA5, en5, ec5), S2 := S40 } : Pm).sl.set u (dA5, dn5, dc5), S2 := S41 } : Pm).as (ksL T (gset (gset (gop1 g [] none) v (less b a) (some g.ops.length)) u (less a b) (some g.ops.length))), bankI 80 (R ++ [bx1]) (rwC (R ++ [bx1]) (gset (gset (gop1 g [] none) v (less b a) (some g.ops.length)) u (less a b) (some g.ops.length)) ({ ({ ({ pm7 with sl := pm7.sl ++ [(none, 0, 0)], S2 := S39 } : Pm) with sl := ({ pm7 with sl := pm7.sl ++ [(none, 0, 0)], S2 := S39 } : Pm).sl.set v (eA5, en5, ec5), S2 := S40 } : Pm) with sl := ({ ({ pm7 with sl := pm7.sl ++ [(none, 0, 0)], S2 := S39 } : Pm) with sl := ({ pm7 with sl := pm7.sl ++ [(none, 0, 0)], S2 := S39 } : Pm).sl.set v (eA5, en5, ec5), S2 := S40 } : Pm).sl.set u (dA5, dn5, dc5), S2 := S41 } : Pm)) [0], rowsI ({ ({ ({ pm7 with sl := pm7.sl ++ [(none, 0, 0)], S2 := S39 } : Pm) with sl := ({ pm7 with sl := pm7.sl ++ [(none, 0, 0)], S2 := S39 } : Pm).sl.set v (eA5, en5, ec5), S2 := S40 } : Pm) with sl := ({ ({ pm7 with sl := pm7.sl ++ [(none, 0, 0)], S2 := S39 } : Pm) with sl := ({ pm7 with sl := pm7.sl ++ [(none, 0, 0)], S2 := S39 } : Pm).sl.set v (eA5, en5, ec5), S2 := S40 } : Pm).sl.set u (dA5, dn5, dc5), S2 := S41 } : Pm).S2 ({ ({ ({ pm7 with sl := pm7.sl ++ [(none, 0, 0)], S2 := S39 } : Pm) with sl := ({ pm7 with sl := pm7.sl ++ [(none, 0, 0)], S2 := S39 } : Pm).sl.set v (eA5, en5, ec5), S2 := S40 } : Pm) with sl := ({ ({ pm7 with sl := pm7.sl ++ [(none, 0, 0)], S2 := S39 } : Pm) with sl := ({ pm7 with sl := pm7.sl ++ [(none, 0, 0)], S2 := S39 } : Pm).sl.set v (eA5, en5, ec5), S2 := S40 } : Pm).sl.set u (dA5, dn5, dc5), S2 := S41 } : Pm).sl (gset (gset (gop1 g [] none) v (less b a) (some g.ops.length)) u (less a b) (some g.ops.length)).ops, strI S34 wA9 a, strI S36 wA10 b]) [2, 2, 0, 0, 0, 0] (by kernel_rfl)
  refine Sx.rt 9 [] H57 (.bool true) ?_
  obtain ⟨S42, H58⟩ := P_close H57 [0, 0, 0, 0] (Z := Z) (T := T) (R := (R ++ [bx1])) (g := (gset (gset (gop1 g [] none) v (less b a) (some g.ops.length)) u (less a b) (some g.ops.length))) ({ ({ ({ pm7 with sl := pm7.sl ++ [(none, 0, 0)], S2 := S39 } : Pm) with sl := ({ pm7 with sl := pm7.sl ++ [(none, 0, 0)], S2 := S39 } : Pm).sl.set v (eA5, en5, ec5), S2 := S40 } : Pm) with sl := ({ ({ pm7 with sl := pm7.sl ++ [(none, 0, 0)], S2 := S39 } : Pm) with sl := ({ pm7 with sl := pm7.sl ++ [(none, 0, 0)], S2 := S39 } : Pm).sl.set v (eA5, en5, ec5), S2 := S40 } : Pm).sl.set u (dA5, dn5, dc5), S2 := S41 } : Pm) hm5 hzpm7 (by kernel_rfl)
  subst hL0
  exact (hK S42 (R ++ [bx1]) _ (H58.pick (a := [PI S42 Z T (R ++ [bx1]) (gset (gset (gop1 g [] none) v (less b a) (some g.ops.length)) u (less a b) (some g.ops.length))]) [0] (by kernel_rfl)) (Pre.app R bx1))
end Go.Proofs.Ytfkkocjheeoobaa
set_option linter.unusedVariables false
set_option linter.unusedSimpArgs false
namespace Go.Slv
open Go.RowKit Go.Sx Go.Inf Go.Gx
def kidsN (g : G) (n : Nat) : List Nat := ((g.a[n]?).getD none).toList ++ ((g.b[n]?).getD none).toList
/-- Parts, one after the other. -/
def argsX (k : Nat) (g : G) : List (Nat × Nat) → Option (G × Bool)
  | [] => some (g, true)
  | (p, q) :: r => match sameX true k g p q with
    | some (g, true) => argsX k g r
    | some (g, false) => some (g, false)
    | none => none
/-- What stays. -/
structure Kept (g g' : G) : Prop where
  kind : g'.kind = g.kind
  a : g'.a = g.a
  b : g'.b = g.b
  row : g'.row = g.row
theorem Kept.refl (g : G) : Kept g g := ⟨rfl, rfl, rfl, rfl⟩
theorem Kept.trans {g g1 g2 : G} (h : Kept g g1) (k : Kept g1 g2) : Kept g g2 := ⟨k.kind.trans h.kind, k.a.trans h.a, k.b.trans h.b, k.row.trans h.row⟩
theorem sameRow_kept {k r s : Nat} {g g' : G} {t : Bool} (h : sameRow k g r s = some (g', t)) : Kept g g' := by
  obtain ⟨a, v, b, u, _, _, h1, h2, h3, h4, h5⟩ := sameRow_cases h
  simp only [stands_set] at h3 h4 h5
  by_cases e1 : v = u
  · rw [(h1 e1).1]; exact .refl _
  · cases e2 : srB v u (less a b) (less b a) with
    | true => rw [(h2 e1 e2).1]; exact .refl _
    | false =>
      by_cases e3 : v = 0
      · rw [← (h3 e1 e2 e3).1]; exact ⟨rfl, rfl, rfl, rfl⟩
      · by_cases e4 : u = 0
        · rw [← (h4 e1 e2 e3 e4).1]; exact ⟨rfl, rfl, rfl, rfl⟩
        · obtain ⟨g1, x, ho, hg, _⟩ := h5 e1 e2 e3 e4
          obtain ⟨_, rfl, _⟩ := opn_op1 ho
          rw [← hg]; exact ⟨rfl, rfl, rfl, rfl⟩
theorem rwX_cases {k km m n : Nat} {g g' : G} {t : Bool} (h : rwX k g km m n = some (g', t)) : (km ≠ 6 ∧ g = g' ∧ true = t) ∨ (km = 6 ∧ ∃ r s, g.row[m]? = some r ∧ g.row[n]? = some s ∧ sameRow k g r s = some (g', t)) := by
  unfold rwX at h
  split at h
  · rename_i e
    split at h <;> try contradiction
    rename_i r s hr hs
    exact .inr ⟨e, r, s, hr, hs, h⟩
  · rename_i e; cases h; exact .inl ⟨e, rfl, rfl⟩
theorem lkX_true (g : G) (m n : Nat) : lkX true g m n = lnk0 g n m := lnk_eq g n m
theorem sameX_kept : ∀ {k m n : Nat} {g g' : G} {t : Bool}, sameX true k g m n = some (g', t) → Kept g g'
  | 0, _, _, _, _, _, h => by cases h
  | k + 1, m, n, g, g', t, h => by
    unfold sameX at h
    split at h <;> try contradiction
    split at h
    · cases h; exact .refl _
    split at h <;> try contradiction
    split at h
    · cases h; rw [lnk_eq]; exact ⟨rfl, rfl, rfl, rfl⟩
    split at h
    · cases h; rw [lnk_eq]; exact ⟨rfl, rfl, rfl, rfl⟩
    split at h
    · cases h; exact .refl _
    simp only [lkX_true] at h
    have hl : ∀ m n, Kept g (lnk0 g m n) := fun _ _ => ⟨rfl, rfl, rfl, rfl⟩
    have hA : ∀ {g0 g1 : G} {x y : Option (Option Nat)} {t1 : Bool}, argX (sameX true k) g0 x y = some (g1, t1) → Kept g0 g1 := fun {g0 g1 x y t1} h => by
      unfold argX at h
      split at h <;> try contradiction
      · cases h; exact .refl _
      · exact sameX_kept h
    split at h <;> try contradiction
    · rename_i h1; cases h; exact (hl _ _).trans (hA h1)
    · rename_i g1 h1
      split at h <;> try contradiction
      · rename_i h2; cases h; exact ((hl _ _).trans (hA h1)).trans (hA h2)
      · rename_i g2 h2
        refine ((hl _ _).trans (hA h1)).trans ((hA h2).trans ?_)
        rcases rwX_cases h with ⟨_, rfl, _⟩ | ⟨_, r, s, _, _, h3⟩
        · exact .refl _
        · exact sameRow_kept h3
theorem argX_none (f : G → Nat → Nat → Option (G × Bool)) (g : G) (y : Option (Option Nat)) : argX f g (some none) y = some (g, true) := rfl
theorem argX_some (f : G → Nat → Nat → Option (G × Bool)) (g : G) (p q : Nat) : argX f g (some (some p)) (some (some q)) = f g p q := rfl
/-- What one goes on with. -/
def SXR (k : Nat) (g : G) (m n km : Nat) (g' : G) (t : Bool) : Prop := ∃ gr tr, argsX k (lnk0 g n m) ((kidsN g m).zip (kidsN g n)) = some (gr, tr) ∧ (tr = false → gr = g' ∧ false = t) ∧ (tr = true → rwX k gr km m n = some (g', t))
theorem sameX_cases {k m n : Nat} {g g' : G} {t : Bool} {T R : List Nat} {pm : Pm} (hP : PR T R g pm) (h : sameX true (k + 1) g m n = some (g', t)) : ∃ m1 n1, find k g m = some m1 ∧ find k g n = some n1 ∧
    ((m1 = n1 ∧ g = g' ∧ true = t) ∨ (m1 ≠ n1 ∧ ∃ km kn, g.kind[m1]? = some km ∧ g.kind[n1]? = some kn ∧ ((km = 0 ∧ lnk0 g m1 n1 = g' ∧ true = t) ∨ (km ≠ 0 ∧ kn = 0 ∧ lnk0 g n1 m1 = g' ∧ true = t) ∨ (km ≠ 0 ∧ kn ≠ 0 ∧ km ≠ kn ∧ g = g' ∧ false = t) ∨ (km ≠ 0 ∧ km = kn ∧ km ≠ 6 ∧ SXR k g m1 n1 km g' t) ∨ (km = 6 ∧ kn = 6 ∧ SXR k g m1 n1 km g' t)))) := by
  unfold sameX at h
  split at h <;> try contradiction
  rename_i m1 n1 hm hn
  refine ⟨m1, n1, hm, hn, ?_⟩
  split at h
  · rename_i e; cases h; exact .inl ⟨e, rfl, rfl⟩
  rename_i e
  refine .inr ⟨e, ?_⟩
  split at h <;> try contradiction
  rename_i km kn hkm hkn
  refine ⟨km, kn, hkm, hkn, ?_⟩
  split at h
  · rename_i e1; cases h; rw [lnk_eq]; exact .inl ⟨e1, rfl, rfl⟩
  rename_i e1
  split at h
  · rename_i e2; cases h; rw [lnk_eq]; exact .inr (.inl ⟨e1, e2, rfl, rfl⟩)
  rename_i e2
  split at h
  · rename_i e3; cases h; exact .inr (.inr (.inl ⟨e1, e2, e3, rfl, rfl⟩))
  rename_i e3
  have e3 : km = kn := Classical.not_not.1 e3
  subst e3
  simp only [lkX_true] at h
  have key : SXR k g m1 n1 km g' t := by
    unfold SXR kidsN
    rcases hP.ar m1 km hkm with ⟨q4, q5, q6, ha, hb⟩ | ⟨rfl, p, ha, hb⟩ | ⟨q, p, p', ha, hb⟩
    · simp only [ha, hb, argX_none] at h
      rw [ha, hb]
      exact ⟨lnk0 g n1 m1, true, rfl, fun e => (by cases e), fun _ => h⟩
    · rcases hP.ar n1 4 hkn with ⟨q4, _⟩ | ⟨_, r, ha2, hb2⟩ | ⟨q, _⟩
      · exact absurd rfl q4
      · simp only [ha, ha2, argX_some] at h
        split at h <;> try contradiction
        · rename_i g2 h2; cases h
          exact ⟨g', false, by simp [ha, hb, ha2, hb2, argsX, h2], fun _ => ⟨rfl, rfl⟩, fun e => by cases e⟩
        · rename_i g2 h2
          have hk := (sameX_kept h2).b
          change g2.b = g.b at hk
          simp only [hk, hb, argX_none] at h
          exact ⟨g2, true, by simp [ha, hb, ha2, hb2, argsX, h2], fun e => (by cases e), fun _ => h⟩
      · omega
    · rcases hP.ar n1 km hkn with ⟨_, q5, q6, _⟩ | ⟨q4, _⟩ | ⟨_, r, r', ha2, hb2⟩
      · omega
      · omega
      · simp only [ha, ha2, argX_some] at h
        split at h <;> try contradiction
        · rename_i g2 h2; cases h
          exact ⟨g', false, by simp [ha, hb, ha2, hb2, argsX, h2], fun _ => ⟨rfl, rfl⟩, fun e => by cases e⟩
        · rename_i g2 h2
          have hk := (sameX_kept h2).b
          change g2.b = g.b at hk
          simp only [hk, hb, hb2, argX_some] at h
          split at h <;> try contradiction
          · rename_i g3 h3; cases h
            exact ⟨g', false, by simp [ha, hb, ha2, hb2, argsX, h2, h3], fun _ => ⟨rfl, rfl⟩, fun e => by cases e⟩
          · rename_i g3 h3
            exact ⟨g3, true, by simp [ha, hb, ha2, hb2, argsX, h2, h3], fun e => (by cases e), fun _ => h⟩
  by_cases q : km = 6
  · exact .inr (.inr (.inr (.inr ⟨q, q, key⟩)))
  · exact .inr (.inr (.inr (.inl ⟨e1, rfl, q, key⟩)))
theorem argsX_step {k i : Nat} {g gr : G} {tr : Bool} {K1 K2 : List Nat} (h : argsX k g ((K1.zip K2).drop i) = some (gr, tr)) (hi : i < K1.length) (hl : K1.length = K2.length) : ∃ p q g2 t2, K1[i]? = some p ∧ K2[i]? = some q ∧ sameX true k g p q = some (g2, t2) ∧ (t2 = false → g2 = gr ∧ false = tr) ∧ (t2 = true → argsX k g2 ((K1.zip K2).drop (i + 1)) = some (gr, tr)) := by
  have hz : i < (K1.zip K2).length := by rw [List.length_zip]; omega
  rw [List.drop_eq_getElem_cons hz, List.getElem_zip] at h
  unfold argsX at h
  refine ⟨K1[i], K2[i], ?_⟩
  split at h <;> try contradiction
  · rename_i g2 h2; exact ⟨g2, true, by simp, by simp [← hl, hi], h2, fun e => (by cases e), fun _ => h⟩
  · rename_i g2 h2; cases h; exact ⟨_, false, by simp, by simp [← hl, hi], h2, fun _ => ⟨rfl, rfl⟩, fun e => by cases e⟩
theorem argsX_end {k i : Nat} {g gr : G} {tr : Bool} {K1 K2 : List Nat} (h : argsX k g ((K1.zip K2).drop i) = some (gr, tr)) (hi : K1.length ≤ i) : g = gr ∧ true = tr := by
  rw [List.drop_of_length_le (by rw [List.length_zip]; omega)] at h
  cases h; exact ⟨rfl, rfl⟩
theorem PR.kids_len {T R : List Nat} {g : G} {pm : Pm} (hP : PR T R g pm) {m n km : Nat} (h1 : g.kind[m]? = some km) (h2 : g.kind[n]? = some km) : (kidsN g m).length = (kidsN g n).length := by
  unfold kidsN
  rcases hP.ar m km h1 with ⟨_, _, _, ha, hb⟩ | ⟨_, _, ha, hb⟩ | ⟨_, _, _, ha, hb⟩ <;> rcases hP.ar n km h2 with ⟨_, _, _, ha2, hb2⟩ | ⟨_, _, ha2, hb2⟩ | ⟨_, _, _, ha2, hb2⟩ <;> rw [ha, hb, ha2, hb2] <;> first | rfl | omega
theorem PR.kid {T R : List Nat} {g : G} {pm : Pm} (hP : PR T R g pm) {n i p : Nat} (h : (kidsN g n)[i]? = some p) : ∃ b, T[p]? = some b := by
  have hm : p ∈ kidsN g n := List.mem_of_getElem? h
  have : p < g.kind.length := by
    unfold kidsN at hm
    rcases List.mem_append.1 hm with q | q
    · cases ha : g.a[n]? with
      | none => simp [ha] at q
      | some o => cases o with
        | none => simp [ha] at q
        | some z => simp [ha] at q; subst q; exact hP.ka n _ (.inl ha)
    · cases ha : g.b[n]? with
      | none => simp [ha] at q
      | some o => cases o with
        | none => simp [ha] at q
        | some z => simp [ha] at q; subst q; exact hP.ka n _ (.inr ha)
  exact tb (by rw [hP.lT]; exact this)
theorem kid_at {w : World} {S : Nat → Prop} {sa : List Slot} {T : List Nat} {g : G} (h0 : (kidsI S sa (ksL T g)).holds w) {n na ca : Nat} {A : Option Addr} (has : sa[n]? = some (A, na, ca)) (hn : n < g.kind.length) {i p b : Nat} (hp : (kidsN g n)[i]? = some p) (hb : T[p]? = some b) :
    ∃ a, A = some a ∧ w.cells? 0 (a.add (i * 1)) 1 = some [.pointer (some ⟨b, 0, none⟩)] := by
  obtain ⟨_, h⟩ := h0.1.2 n _ (ksO T ((g.a[n]?).getD none) ((g.b[n]?).getD none)) has (by simp [ksL, hn])
  obtain ⟨a, h1, _, h2⟩ := h i b (by unfold ksO; rw [List.getElem?_map]; unfold kidsN at hp; rw [hp]; simp [hb])
  exact ⟨a, h1, h2⟩
theorem kid_one {w : World} {S : Nat → Prop} {sa : List Slot} {T : List Nat} {g : G} (h0 : (kidsI S sa (ksL T g)).holds w) {n na ca : Nat} {A : Option Addr} (has : sa[n]? = some (A, na, ca)) (hn : n < g.kind.length) {i p b : Nat} (hp : (kidsN g n)[i]? = some p) (hb : T[p]? = some b) {a : Addr} (ha : A = some a) :
    w.cells? 0 (a.add (i * 1)) 1 = some [.pointer (some ⟨b, 0, none⟩)] := by
  obtain ⟨a2, h1, h2⟩ := kid_at h0 has hn hp hb
  rw [ha] at h1; cases h1; exact h2
theorem ksO_len {T : List Nat} {g : G} {n : Nat} : (ksO T ((g.a[n]?).getD none) ((g.b[n]?).getD none)).length = (kidsN g n).length := by simp [ksO, kidsN]
/-- A link. -/
theorem PR.lnk {T R : List Nat} {g : G} {m : Pm} (hm : PR T R g m) {a b : Nat} (ha : En g.link a a) (hb : En g.link b b) (hne : a ≠ b) : PR T R (lnk0 g a b) { m with il := m.il.set a (some b) } := by
  refine ⟨hm.lT, hm.lR, hm.la, hm.lb, hm.lr, ?_, ?_, fun x e h => ?_, hm.al.link ha.last hb.last hne, hm.ka, hm.kr, hm.kn, hm.z, hm.lo, hm.ar⟩
  · show (g.link.set a (some b)).length = _; rw [List.length_set]; exact hm.ll
  · show (m.il.set a (some b)).length = (g.link.set a (some b)).length; rw [List.length_set, List.length_set]; exact hm.li
  · obtain ⟨d, h1, rfl⟩ := h.unlink ha.last hb.last hne
    exact (hm.en x d h1).link (hm.en a a ha).last (hm.en b b hb).last hne
theorem find_root {k n e : Nat} {g : G} (h : find k g n = some e) : En g.link e e := (find_En h).end
theorem oB_at {T : List Nat} {m : Pm} {n : Nat} : ∃ io, oB T ((m.il[n]?).getD none) = io := ⟨_, rfl⟩
end Go.Slv
namespace Go.Slv
open Go.RowKit Go.Sx Go.Inf Go.Gx
theorem kidsN_kept {g g' : G} (h : Kept g g') (n : Nat) : kidsN g' n = kidsN g n := by unfold kidsN; rw [h.a, h.b]
theorem PR.row6 {T R : List Nat} {g : G} {m : Pm} (hm : PR T R g m) {n r : Nat} (hk : g.kind[n]? = some 6) (hr : g.row[n]? = some r) : r ≠ 0 ∧ ∃ b, R[r]? = some b := by
  obtain ⟨r', h1, h2, h3⟩ := hm.kr n hk
  rw [hr] at h1; cases h1
  exact ⟨h3, tb (by rw [hm.lR]; exact h2)⟩
theorem kidsN_le (g : G) (n : Nat) : (kidsN g n).length ≤ 2 := by
  unfold kidsN
  cases (g.a[n]?).getD none <;> cases (g.b[n]?).getD none <;> simp
theorem ne0 {k : Nat} (h : k ≠ 0) : (((k : Nat) : Int) == (0 : Int)) = false := by simp; omega
theorem neK {j k : Nat} (h : j ≠ k) : (((j : Nat) : Int) != ((k : Nat) : Int)) = true := by simp; omega
theorem eqK {j : Nat} : (((j : Nat) : Int) != ((j : Nat) : Int)) = false := by simp
theorem root_T {T R : List Nat} {g : G} {m : Pm} (hm : PR T R g m) {k n e : Nat} (h : find k g n = some e) : ∃ b, T[e]? = some b := tb (by have := (find_root h).lt; rw [hm.ll, ← hm.lT] at this; exact this)
end Go.Slv
namespace Go.Slv
theorem eq6 {k : Nat} (h : k ≠ 6) : (((k : Nat) : Int) == (6 : Int)) = false := by simp; omega
end Go.Slv
