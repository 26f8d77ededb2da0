/- The library's sort of a row of names that nobody else has (the shelf's contract, in the form of the walks). -/
import Derived.Test.YtfkkocjheeoobaaShelf
import Derived.Test.YtfkkocjheeoobaaSw1
set_option linter.unusedVariables false
set_option linter.unusedSimpArgs false
set_option linter.unusedVariables false
set_option linter.unusedSimpArgs false
namespace Go.Slv
open Go.RowKit Go.Sx Go.Inf Go.Gx
theorem srt_names (l : List Nm) : ((l.map fun x => x.data.toList).mergeSort fun x y => decide (x ≤ y)).map (fun x => (⟨x.toArray⟩ : Nm)) = putAll [] l := by
  refine srt_putAll ?_ ?_
  · have h := List.pairwise_mergeSort (le := fun x y : List UInt8 => decide (x ≤ y)) (fun a b c h1 h2 => by simp only [decide_eq_true_eq] at *; exact List.le_trans h1 h2) (fun a b => by simpa using List.le_total a b) (l.map fun x => x.data.toList)
    refine List.pairwise_map.2 (h.imp fun h => ?_)
    exact leN_iff.2 (by simpa using h)
  · refine ((List.mergeSort_perm _ _).map _).trans ?_
    rw [List.map_map]
    exact List.Perm.of_eq ((List.map_congr_left fun x _ => rfl).trans (List.map_id l))
theorem Sort_p (A : Option Addr) (cap n : Nat) (l : List Nm) (w : World) (K : Ending → World → Prop) (H0 : Sp w [.own 9 1 A cap n (strs l)]) (hl : l.length < 1000000000)
    (hK : ∀ w', Hs w [.own 9 1 A cap n (strs l)] w' [.own 9 1 A cap n (strs (putAll [] l))] → K (.returned (.tuple #[])) w') : Calls Proofs.Try.prog 49 #[.slice A n cap] w K := by
  have ho := H0.all _ (.head _)
  have hn : l.length = n := by have := ho.1; simpa [strs] using this
  rcases ho.2 with ⟨h1, h2⟩ | ⟨g, cap', cur, hv, a1, hg, hnc, hcm, hcs, ht⟩
  · subst h2
    have : l = [] := List.length_eq_zero_iff.1 hn
    subst this
    refine Calls.mono (Proofs.Try.slices_Sort_string_none A cap w) ?_
    rintro e w' ⟨rfl, rfl⟩
    exact hK _ (Hs.refl H0)
  · injection hv with e1 e2 e3
    subst e1 e3 hn
    have hcell : ∀ j, j < l.length → cur[j]? = some (.string (gn l j)) := fun j hj => by
      have : (cur.toList.take (l.length * 1))[j]? = some (.string (gn l j)) := by rw [ht, strs, List.getElem?_map, gn_at hj]; rfl
      rw [List.getElem?_take, if_pos (by omega)] at this
      simpa using this
    have key := Proofs.Try.slices_Sort_string g 0 cap (l.map fun x => x.data.toList) w (fun j hj => ?_) (Has.lt hg) (by simp; omega)
    · rw [List.length_map] at key
      refine Calls.mono key ?_
      rintro e w' ⟨rfl, m, os, rfl⟩
      refine hK _ ((Hs.refl H0).put 0 rfl rfl ?_ ?_ (fun c hc => .inl hc))
      · refine ⟨rfl, rfl, rfl, ?_, fun i hi hS => ?_⟩
        · simp [Sort.grow, Sort.putRow, Sort.mapBlock, Sort.ahead]
        · have hne : g ≠ i := fun q => hS (by rw [← q]; rfl)
          simp only [Sort.grow, Sort.putRow, Sort.mapBlock, Sort.ahead]
          rw [Array.getElem?_append_left (by simpa using hi), Array.getElem?_modify, if_neg hne]
      · have hs := srt_names l
        generalize hss : ((l.map fun x => x.data.toList).mergeSort fun x y => decide (x ≤ y)) = ss at hs
        have hlen : ss.length = l.length := by rw [← hss, List.length_mergeSort, List.length_map]
        refine ⟨by rw [← hs]; simp [strs, hlen], .inr ⟨g, cap, Sort.putCells Proofs.encStr 0 ss.toArray cur, rfl, a1, ?_, hnc, hcm, ?_, ?_⟩⟩
        · show (Sort.grow _ _).heap[g]? = _
          have hgl : g < w.heap.size := Has.lt hg
          simp only [Sort.grow, Sort.putRow, Sort.mapBlock, Sort.ahead]
          rw [Array.getElem?_append_left (by simpa using hgl)]
          have hg' : w.heap[g]? = some (.cells cur 9 (0, 0)) := hg
          rw [Array.getElem?_modify, if_pos rfl, hg']
          rfl
        · rw [Sort.putCells, Array.size_mapIdx]; exact hcs
        · rw [← hs]
          have hcz : l.length ≤ cur.size := by rw [hcs]; omega
          apply List.ext_getElem?
          intro i
          rw [List.getElem?_take]
          by_cases hi : i < l.length
          · rw [if_pos (by omega)]
            simp only [Sort.putCells, Array.getElem?_toList, Array.getElem?_mapIdx, strs, List.getElem?_map]
            have h1 : cur[i]? = some cur[i] := Array.getElem?_eq_getElem (by omega)
            have h2 : ss[i]? = some ss[i] := List.getElem?_eq_getElem (by omega)
            rw [h1, h2]
            simp [hlen, hi]
          · rw [if_neg (by omega)]
            simp [strs, hlen, hi]
    · simp only [List.size_toArray, List.length_map] at hj
      have h1 := hcell j hj
      have h2 : gn l j = l[j] := by simp [gn, hj]
      refine ⟨?_, ?_⟩
      · rw [cell_of_row w g (0 + j) cur 9 (0, 0) hg, Nat.zero_add, h1, h2]
        simp [hj, Proofs.encStr]
      · simp only [World.frozen?]
        rw [show w.heap[(⟨g, 0 + j, none⟩ : Addr).block]? = some (.cells cur 9 (0, 0)) from hg]
        simp
end Go.Slv
set_option linter.unusedVariables false
set_option linter.unusedSimpArgs false
namespace Go.Proofs.Ytfkkocjheeoobaa
open Go.RowKit Go.Sx Go.Inf Go.Slv
attribute [local irreducible] Go.wpOps Go.Code.wp Go.wpOp Go.wpAnyH Go.Calls Go.Sx.Goal
set_option maxRecDepth 20000
theorem and2' {a b : Bool} (h : (a && b) = true) : a = true ∧ b = true := by cases a <;> cases b <;> simp_all
theorem and0' {a b : Bool} (h : (a && b) = false) : a = false ∨ b = false := by cases a <;> cases b <;> simp_all
theorem numberTy_p (S : Nat → Prop) (Z : List Slot) (T R : List Nat) (g : G) (bt b n : Nat) (l : List (Int × Nat)) (w : World) (K : Ending → World → Prop) (H0 : Sp w [PI S Z T R g, pkI bt (kvB T l)]) (hb : T[n]? = some b) (hl : NmOk T.length [] l) (hlen : l.length < 1000000000) (hK : ∀ (S' : Nat → Prop) w', Hs w [PI S Z T R g, pkI bt (kvB T l)] w' [PI S' Z T R g, pkI bt (kvB T (numb l n).1)] → K (.returned (.int .i64 ((numb l n).2 : Int))) w') :
    Calls Try.prog 34 #[.map (some bt), .pointer (some ⟨b, 0, none⟩)] w K := by
  obtain ⟨L0, hL0, H⟩ : ∃ L0, L0 = [PI S Z T R g, pkI bt (kvB T l)] ∧ Hs w L0 w [PI S Z T R g, pkI bt (kvB T l)] := ⟨_, rfl, Hs.refl H0⟩
  refine Sx.en (vs := [.map (some bt), .pointer (some ⟨b, 0, none⟩)]) 17 Try.func34 ?_
  obtain ⟨pm1, hpm1, hzpm1, H1⟩ := P_open H 0 (S := S) (Z := Z) (T := T) (R := R) (g := g) (by kernel_rfl)
  obtain ⟨o, ho⟩ : ∃ o, lookI (n : Int) l = o := ⟨_, rfl⟩
  refine Sx.lkB (bt := bt) (t := 83) (kt := 52) (et := 3) (te := 78) 10 4 b (kvB T l) (.int .i64 0) H1 (bank_cb (H1.at 0 (it := bankI 78 T (ndC T R g pm1) []) (by kernel_rfl)) hb nz0) (kv_cb (H1.at 0 (it := bankI 78 T (ndC T R g pm1) []) (by kernel_rfl)) hl) (by kernel_rfl) (look_num (H1.at 0 (it := bankI 78 T (ndC T R g pm1) []) (by kernel_rfl)) hl hb nz0 ho) ?_
  refine Sx.br 3 ((((o.getD 0) : Nat) : Int) == (0 : Int)) (fun h_c8 => ?_) (fun h_c8 => ?_)
  · skip
    have ho' := num0 hl ho h_c8
    rw [numb_none (ho.trans ho')] at hK
    have hl2 := hl.numb (i := n) (List.getElem?_eq_some_iff.1 hb).1 nz0
    rw [numb_none (ho.trans ho')] at hl2
    refine Sx.mlB (bt := bt) (t := 83) (kt := 52) (et := 3) 4 4 (kvB T l) H1 (by kernel_rfl) kvB_len ?_
    refine Sx.v 0 (.int .i64 (IntKind.i64.wrap (((l.length : Nat) : Int) + (1 : Int)))) (.int .i64 ((l.length + 1 : Nat) : Int)) (congrArg (Value.int .i64) (Gx.i64n (by omega) (by omega))) ?_
    refine Sx.muB (bt := bt) (t := 83) (kt := 52) (et := 3) (te := 78) 0 4 b (kvB T l) (.int .i64 ((l.length + 1 : Nat) : Int)) H1 (bank_cb (H1.at 0 (it := bankI 78 T (ndC T R g pm1) []) (by kernel_rfl)) hb nz0) (kv_cb (H1.at 0 (it := bankI 78 T (ndC T R g pm1) []) (by kernel_rfl)) hl) (by kernel_rfl) (mp' := kvB T (l ++ [((n : Int), l.length + 1)])) (upd_kvB (H1.at 0 (it := bankI 78 T (ndC T R g pm1) []) (by kernel_rfl)) hl hb nz0 (ho.trans ho') (l.length + 1)) fun w1 H2 => ?_
    refine Sx.lkB (bt := bt) (t := 83) (kt := 52) (et := 3) (te := 78) 6 4 b (kvB T (l ++ [((n : Int), l.length + 1)])) (.int .i64 0) H2 (bank_cb (H2.at 0 (it := bankI 78 T (ndC T R g pm1) []) (by kernel_rfl)) hb nz0) (kv_cb (H2.at 0 (it := bankI 78 T (ndC T R g pm1) []) (by kernel_rfl)) hl2) (by kernel_rfl) (look_num (H2.at 0 (it := bankI 78 T (ndC T R g pm1) []) (by kernel_rfl)) hl2 hb nz0 (look_new (ho.trans ho'))) ?_
    refine Sx.rt 4 [] H2 (.int .i64 (((l.length + 1) : Nat) : Int)) ?_
    obtain ⟨S1, H3⟩ := P_close H2 [0, 0, 0, 0] (Z := Z) (T := T) (R := R) (g := g) pm1 hpm1 hzpm1 (by kernel_rfl)
    subst hL0
    exact hK S1 _ (H3.pick [0, 0] (by kernel_rfl))
  obtain ⟨q, hq⟩ := num1 h_c8
  rw [numb_some (ho.trans hq)] at hK
  refine Sx.lkB (bt := bt) (t := 83) (kt := 52) (et := 3) (te := 78) 6 4 b (kvB T l) (.int .i64 0) H1 (bank_cb (H1.at 0 (it := bankI 78 T (ndC T R g pm1) []) (by kernel_rfl)) hb nz0) (kv_cb (H1.at 0 (it := bankI 78 T (ndC T R g pm1) []) (by kernel_rfl)) hl) (by kernel_rfl) (look_num (H1.at 0 (it := bankI 78 T (ndC T R g pm1) []) (by kernel_rfl)) hl hb nz0 (ho.trans hq)) ?_
  refine Sx.rt 4 [] H1 (.int .i64 ((q : Nat) : Int)) ?_
  obtain ⟨S2, H4⟩ := P_close H1 [0, 0, 0, 0] (Z := Z) (T := T) (R := R) (g := g) pm1 hpm1 hzpm1 (by kernel_rfl)
  subst hL0
  exact hK S2 _ (H4.pick [0, 0] (by kernel_rfl))
theorem numberRow_p (S : Nat → Prop) (Z : List Slot) (T R : List Nat) (g : G) (bt b n : Nat) (l : List (Int × Nat)) (w : World) (K : Ending → World → Prop) (H0 : Sp w [PI S Z T R g, pkI bt (kvB R l)]) (hb : R[n]? = some b) (hnz : n ≠ 0) (hl : NmOk R.length [0] l) (hlen : l.length < 1000000000) (hK : ∀ (S' : Nat → Prop) w', Hs w [PI S Z T R g, pkI bt (kvB R l)] w' [PI S' Z T R g, pkI bt (kvB R (numb l n).1)] → K (.returned (.int .i64 ((numb l n).2 : Int))) w') :
    Calls Try.prog 35 #[.map (some bt), .pointer (some ⟨b, 0, none⟩)] w K := by
  obtain ⟨L0, hL0, H⟩ : ∃ L0, L0 = [PI S Z T R g, pkI bt (kvB R l)] ∧ Hs w L0 w [PI S Z T R g, pkI bt (kvB R l)] := ⟨_, rfl, Hs.refl H0⟩
  refine Sx.en (vs := [.map (some bt), .pointer (some ⟨b, 0, none⟩)]) 17 Try.func35 ?_
  obtain ⟨pm1, hpm1, hzpm1, H1⟩ := P_open H 0 (S := S) (Z := Z) (T := T) (R := R) (g := g) (by kernel_rfl)
  obtain ⟨o, ho⟩ : ∃ o, lookI (n : Int) l = o := ⟨_, rfl⟩
  refine Sx.lkB (bt := bt) (t := 87) (kt := 76) (et := 3) (te := 80) 10 4 b (kvB R l) (.int .i64 0) H1 (bank_cb (H1.at 2 (it := bankI 80 R (rwC R g pm1) [0]) (by kernel_rfl)) hb (nz1 hnz)) (kv_cb (H1.at 2 (it := bankI 80 R (rwC R g pm1) [0]) (by kernel_rfl)) hl) (by kernel_rfl) (look_num (H1.at 2 (it := bankI 80 R (rwC R g pm1) [0]) (by kernel_rfl)) hl hb (nz1 hnz) ho) ?_
  refine Sx.br 3 ((((o.getD 0) : Nat) : Int) == (0 : Int)) (fun h_c8 => ?_) (fun h_c8 => ?_)
  · skip
    have ho' := num0 hl ho h_c8
    rw [numb_none (ho.trans ho')] at hK
    have hl2 := hl.numb (i := n) (List.getElem?_eq_some_iff.1 hb).1 (nz1 hnz)
    rw [numb_none (ho.trans ho')] at hl2
    refine Sx.mlB (bt := bt) (t := 87) (kt := 76) (et := 3) 4 4 (kvB R l) H1 (by kernel_rfl) kvB_len ?_
    refine Sx.v 0 (.int .i64 (IntKind.i64.wrap (((l.length : Nat) : Int) + (1 : Int)))) (.int .i64 ((l.length + 1 : Nat) : Int)) (congrArg (Value.int .i64) (Gx.i64n (by omega) (by omega))) ?_
    refine Sx.muB (bt := bt) (t := 87) (kt := 76) (et := 3) (te := 80) 0 4 b (kvB R l) (.int .i64 ((l.length + 1 : Nat) : Int)) H1 (bank_cb (H1.at 2 (it := bankI 80 R (rwC R g pm1) [0]) (by kernel_rfl)) hb (nz1 hnz)) (kv_cb (H1.at 2 (it := bankI 80 R (rwC R g pm1) [0]) (by kernel_rfl)) hl) (by kernel_rfl) (mp' := kvB R (l ++ [((n : Int), l.length + 1)])) (upd_kvB (H1.at 2 (it := bankI 80 R (rwC R g pm1) [0]) (by kernel_rfl)) hl hb (nz1 hnz) (ho.trans ho') (l.length + 1)) fun w1 H2 => ?_
    refine Sx.lkB (bt := bt) (t := 87) (kt := 76) (et := 3) (te := 80) 6 4 b (kvB R (l ++ [((n : Int), l.length + 1)])) (.int .i64 0) H2 (bank_cb (H2.at 2 (it := bankI 80 R (rwC R g pm1) [0]) (by kernel_rfl)) hb (nz1 hnz)) (kv_cb (H2.at 2 (it := bankI 80 R (rwC R g pm1) [0]) (by kernel_rfl)) hl2) (by kernel_rfl) (look_num (H2.at 2 (it := bankI 80 R (rwC R g pm1) [0]) (by kernel_rfl)) hl2 hb (nz1 hnz) (look_new (ho.trans ho'))) ?_
    refine Sx.rt 4 [] H2 (.int .i64 (((l.length + 1) : Nat) : Int)) ?_
    obtain ⟨S1, H3⟩ := P_close H2 [0, 0, 0, 0] (Z := Z) (T := T) (R := R) (g := g) pm1 hpm1 hzpm1 (by kernel_rfl)
    subst hL0
    exact hK S1 _ (H3.pick [0, 0] (by kernel_rfl))
  obtain ⟨q, hq⟩ := num1 h_c8
  rw [numb_some (ho.trans hq)] at hK
  refine Sx.lkB (bt := bt) (t := 87) (kt := 76) (et := 3) (te := 80) 6 4 b (kvB R l) (.int .i64 0) H1 (bank_cb (H1.at 2 (it := bankI 80 R (rwC R g pm1) [0]) (by kernel_rfl)) hb (nz1 hnz)) (kv_cb (H1.at 2 (it := bankI 80 R (rwC R g pm1) [0]) (by kernel_rfl)) hl) (by kernel_rfl) (look_num (H1.at 2 (it := bankI 80 R (rwC R g pm1) [0]) (by kernel_rfl)) hl hb (nz1 hnz) (ho.trans hq)) ?_
  refine Sx.rt 4 [] H1 (.int .i64 ((q : Nat) : Int)) ?_
  obtain ⟨S2, H4⟩ := P_close H1 [0, 0, 0, 0] (Z := Z) (T := T) (R := R) (g := g) pm1 hpm1 hzpm1 (by kernel_rfl)
  subst hL0
  exact hK S2 _ (H4.pick [0, 0] (by kernel_rfl))
theorem becomeN_p (b : Nat) (A : Option Addr) (nn cap : Nat)  (u0 u1 u2 : Value) (w : World) (K : Ending → World → Prop) (H0 : Sp w [.blk b (.cells #[u0, u1, u2] 80)]) (hK : ∀ w', Hs w [.blk b (.cells #[u0, u1, u2] 80)] w' [.blk b (.cells #[.slice A nn cap, .pointer none, .bool false] 80)] → K (.returned (.tuple #[])) w') :
    Calls Try.prog 48 #[.pointer (some ⟨b, 0, none⟩), .slice A nn cap, .pointer none] w K := by
  obtain ⟨L0, hL0, H⟩ : ∃ L0, L0 = [.blk b (.cells #[u0, u1, u2] 80)] ∧ Hs w L0 w [.blk b (.cells #[u0, u1, u2] 80)] := ⟨_, rfl, Hs.refl H0⟩
  refine Sx.en (vs := [.pointer (some ⟨b, 0, none⟩), .slice A nn cap, .pointer none]) 17 Try.func48 ?_
  refine Sx.s 8 0 H fun w1 H1 => ?_
  refine Sx.s 2 0 H1 fun w2 H2 => ?_
  refine Sx.s 2 0 H2 fun w3 H3 => ?_
  refine Sx.rt 1 [] H3 (.tuple #[]) ?_
  subst hL0
  exact hK _ (H3.pick [0] (by kernel_rfl))
theorem becomeS_p (b : Nat) (A : Option Addr) (nn cap : Nat) (tb : Nat)  (u0 u1 u2 : Value) (w : World) (K : Ending → World → Prop) (H0 : Sp w [.blk b (.cells #[u0, u1, u2] 80)]) (hK : ∀ w', Hs w [.blk b (.cells #[u0, u1, u2] 80)] w' [.blk b (.cells #[.slice A nn cap, bp tb, .bool false] 80)] → K (.returned (.tuple #[])) w') :
    Calls Try.prog 48 #[.pointer (some ⟨b, 0, none⟩), .slice A nn cap, .pointer (some ⟨tb, 0, none⟩)] w K := by
  obtain ⟨L0, hL0, H⟩ : ∃ L0, L0 = [.blk b (.cells #[u0, u1, u2] 80)] ∧ Hs w L0 w [.blk b (.cells #[u0, u1, u2] 80)] := ⟨_, rfl, Hs.refl H0⟩
  refine Sx.en (vs := [.pointer (some ⟨b, 0, none⟩), .slice A nn cap, .pointer (some ⟨tb, 0, none⟩)]) 17 Try.func48 ?_
  refine Sx.s 8 0 H fun w1 H1 => ?_
  refine Sx.s 2 0 H1 fun w2 H2 => ?_
  refine Sx.s 2 0 H2 fun w3 H3 => ?_
  refine Sx.rt 1 [] H3 (.tuple #[]) ?_
  subst hL0
  exact hK _ (H3.pick [0] (by kernel_rfl))
theorem differ_p (Sa : Nat → Prop) (Aa : Option Addr) (an ac : Nat) (a : List Nm) (Sb : Nat → Prop) (Ab : Option Addr) (bn bc : Nat) (b : List Nm) (w : World) (K : Ending → World → Prop) (H0 : Sp w [strI Sa Aa a, strI Sb Ab b]) (han : an = a.length) (hac : an ≤ ac) (hbn : bn = b.length) (hbc : bn ≤ bc) (haz : a.length < 1000000000) (hbz : b.length < 1000000000) (hK : ∀ (S1 : Nat → Prop) (A1 : Option Addr) (n1 : Nat) (c1 : Nat) (S2 : Nat → Prop) (A2 : Option Addr) (n2 : Nat) (c2 : Nat) w', Hs w [strI Sa Aa a, strI Sb Ab b] w' [strI Sa Aa a, strI Sb Ab b, strI S1 A1 (Slv.differ a b).1, strI S2 A2 (Slv.differ a b).2] → (n1 = (Slv.differ a b).1.length) → (n1 ≤ c1) → (n2 = (Slv.differ a b).2.length) → (n2 ≤ c2) → K (.returned (.tuple #[.slice A1 n1 c1, .slice A2 n2 c2])) w') :
    Calls Try.prog 47 #[.slice Aa an ac, .slice Ab bn bc] w K := by
  obtain ⟨L0, hL0, H⟩ : ∃ L0, L0 = [strI Sa Aa a, strI Sb Ab b] ∧ Hs w L0 w [strI Sa Aa a, strI Sb Ab b] := ⟨_, rfl, Hs.refl H0⟩
  refine Sx.en (vs := [.slice Aa an ac, .slice Ab bn bc]) 56 Try.func47 ?_
  have H1 := H.add (Gx.Ext.refl _) (it := .own 9 1 none 0 0 []) (World.ownsRow_nil _ _ _ _) (fun _ h => by cases h)
  have H2 := H1.add (Gx.Ext.refl _) (it := .own 9 1 none 0 0 []) (World.ownsRow_nil _ _ _ _) (fun _ h => by cases h)
  refine Sx.lp 8 (fun z l' w' => ∃ (i : Nat) (j : Nat) (Ca : Option Addr) (Cb : Option Addr) (A4 : Option Addr) (c4 : Nat) (n4 : Nat) (da : List Nm) (A5 : Option Addr) (c5 : Nat) (n5 : Nat) (db : List Nm), l' = [(0, .slice Ca (an - i) (ac - i)), (1, .slice Cb (bn - j) (bc - j)), (4, .slice A4 n4 c4), (5, .slice A5 n5 c5)] ∧ z = (a.length - i) + (b.length - j) ∧ Hs w L0 w' [strI Sa Aa a, strI Sb Ab b, .own 9 1 A4 c4 n4 (strs da), .own 9 1 A5 c5 n5 (strs db)] ∧ (Df a b da db i j) ∧ (Suf Aa Ca i a.length) ∧ (Suf Ab Cb j b.length) ∧ (n4 = da.length) ∧ (n5 = db.length)) _ [(0, .slice Aa (an - 0) (ac - 0)), (1, .slice Ab (bn - 0) (bc - 0)), (4, .slice none 0 0), (5, .slice none 0 0)] ⟨0, 0, Aa, Ab, none, 0, 0, [], none, 0, 0, [], rfl, rfl, H2, df0, (suf0 _ _), (suf0 _ _), rfl, rfl⟩ (fun b1 z1 l1 w1 hI1 K1 hK1 => ?_)
  obtain ⟨i, j, Ca, Cb, A4, c4, n4, da, A5, c5, n5, db, rfl, rfl, H3, hd, hsa, hsb, hn4, hn5⟩ := hI1
  refine Sx.cut 1 (fun l' w' => l' = [(0, .slice Ca (an - i) (ac - i)), (1, .slice Cb (bn - j) (bc - j)), (4, .slice A4 n4 c4), (5, .slice A5 n5 c5), (13, .bool ((decide ((((an - i) : Nat) : Int) > (0 : Int))) && (decide ((((bn - j) : Nat) : Int) > (0 : Int)))))] ∧ w1 = w') (fun K2 hK2 => ?_) (fun b2 l2 w2 hI2 => ?_)
  · skip
    refine Sx.sp 5 9 (decide ((((an - i) : Nat) : Int) > (0 : Int))) (fun h_g9 => ?_) (fun h_g9 => ?_)
    · skip
      exact Sx.to 5 [(0, .slice Ca (an - i) (ac - i)), (1, .slice Cb (bn - j) (bc - j)), (4, .slice A4 n4 c4), (5, .slice A5 n5 c5), (13, .bool ((decide ((((an - i) : Nat) : Int) > (0 : Int))) && (decide ((((bn - j) : Nat) : Int) > (0 : Int)))))] (hK2 _ _ _ ⟨rfl, rfl⟩) (h2 := (by rw [h_g9]; try kernel_rfl))
    exact Sx.to 5 [(0, .slice Ca (an - i) (ac - i)), (1, .slice Cb (bn - j) (bc - j)), (4, .slice A4 n4 c4), (5, .slice A5 n5 c5), (13, .bool ((decide ((((an - i) : Nat) : Int) > (0 : Int))) && (decide ((((bn - j) : Nat) : Int) > (0 : Int)))))] (hK2 _ _ _ ⟨rfl, rfl⟩) (h2 := (by rw [h_g9]; try kernel_rfl))
  obtain ⟨rfl, rfl⟩ := hI2
  refine Sx.br 0 ((decide ((((an - i) : Nat) : Int) > (0 : Int))) && (decide ((((bn - j) : Nat) : Int) > (0 : Int)))) (fun h_c13 => ?_) (fun h_c13 => ?_)
  · skip
    obtain ⟨pa, pb⟩ := and2' h_c13
    have hi : i < a.length := by have := of_decide_eq_true pa; omega
    have hj : j < b.length := by have := of_decide_eq_true pb; omega
    have hdl := hd.hl
    have hdm := hd.hm
    obtain ⟨ax, hax⟩ := hsa.some (H3.at 0 (it := strI Sa Aa a) (by kernel_rfl)).1 hi
    obtain ⟨bx, hbx⟩ := hsb.some (H3.at 1 (it := strI Sb Ab b) (by kernel_rfl)).1 hj
    refine Sx.dr 5 H3 [0, 1] [] (LJ := [strI Sa Aa a, strI Sb Ab b]) (by kernel_rfl) fun w3 H4 => ?_
    refine Sx.tk [(0, none)] (fun _ => (H4.sub [0, 0] (by kernel_rfl))) ?_
    refine Sx.tvi 1 [] ax 0 1 (an - i) (ac - i) hax (by omega) (fun _ => (H4.sub [0, 0] (by kernel_rfl))) ?_
    refine Sx.tvo (c := 1) (t := 9) 2 [] [.string (gn a i)] (.string (gn a i)) (fun w' hs => (hsa.cell (sp_at hs 0 (it := strI Sa Aa a) (by kernel_rfl)).1 hi hax)) (fun _ => (H4.sub [0, 0] (by kernel_rfl))) ?_
    refine Sx.tk [(3, none)] (fun _ => (H4.sub [0, 0] (by kernel_rfl))) ?_
    refine Sx.tvi 4 [] bx 0 1 (bn - j) (bc - j) hbx (by omega) (fun _ => (H4.sub [0, 0] (by kernel_rfl))) ?_
    refine Sx.tvo (c := 1) (t := 9) 5 [] [.string (gn b j)] (.string (gn b j)) (fun w' hs => (hsb.cell (sp_at hs 1 (it := strI Sb Ab b) (by kernel_rfl)).1 hj hbx)) (fun _ => (H4.sub [0, 0] (by kernel_rfl))) ?_
    refine Sx.tk [(6, none), (7, none)] (fun _ => (H4.sub [0, 0] (by kernel_rfl))) ?_
    refine Sx.dn ?_
    refine Sx.br 1 ((gn a i).toList == (gn b j).toList) (fun h_c22 => ?_) (fun h_c22 => ?_)
    · skip
      refine Sx.dr 0 H4 [] [] (LJ := []) (by kernel_rfl) fun w4 H5 => ?_
      refine Sx.tk [(0, none)] (fun _ => (Sx.spN (by kernel_rfl))) ?_
      refine Sx.tvsf 1 [] Ca (an - i) (ac - i) 1 1 (by omega) (by omega) (fun _ => (Sx.spN (by kernel_rfl))) ?_
      refine Sx.tk [(2, none)] (fun _ => (Sx.spN (by kernel_rfl))) ?_
      refine Sx.tvsf 3 [] Cb (bn - j) (bc - j) 1 1 (by omega) (by omega) (fun _ => (Sx.spN (by kernel_rfl))) ?_
      refine Sx.tk [(4, none), (5, none)] (fun _ => (Sx.spN (by kernel_rfl))) ?_
      refine Sx.dn ?_
      have H6 := H5.pick (a := [strI Sa Aa a, strI Sb Ab b, .own 9 1 A4 c4 n4 (strs da), .own 9 1 A5 c5 n5 (strs db)]) [0, 0, 0, 0] (by kernel_rfl)
      exact Sx.to 2 [(0, .slice (sfC Ca (ac - i) 1 1) (an - (i + 1)) (ac - (i + 1))), (1, .slice (sfC Cb (bc - j) 1 1) (bn - (j + 1)) (bc - (j + 1))), (4, .slice A4 n4 c4), (5, .slice A5 n5 c5)] (hK1 _ _ _ _ (by omega) ⟨(i + 1), (j + 1), (sfC Ca (ac - i) 1 1), (sfC Cb (bc - j) 1 1), A4, c4, n4, da, A5, c5, n5, db, rfl, rfl, H6, (hd.eq hi hj h_c22), (hsa.step hi (by omega)), (hsb.step hj (by omega)), hn4, hn5⟩)
    refine Sx.dr 1 H4 [0, 1] [] (LJ := [strI Sa Aa a, strI Sb Ab b]) (by kernel_rfl) fun w5 H7 => ?_
    refine Sx.tk [(0, none)] (fun _ => (H7.sub [0, 0] (by kernel_rfl))) ?_
    refine Sx.tvi 1 [] ax 0 1 (an - i) (ac - i) hax (by omega) (fun _ => (H7.sub [0, 0] (by kernel_rfl))) ?_
    refine Sx.tvo (c := 1) (t := 9) 2 [] [.string (gn a i)] (.string (gn a i)) (fun w' hs => (hsa.cell (sp_at hs 0 (it := strI Sa Aa a) (by kernel_rfl)).1 hi hax)) (fun _ => (H7.sub [0, 0] (by kernel_rfl))) ?_
    refine Sx.tk [(3, none)] (fun _ => (H7.sub [0, 0] (by kernel_rfl))) ?_
    refine Sx.tvi 4 [] bx 0 1 (bn - j) (bc - j) hbx (by omega) (fun _ => (H7.sub [0, 0] (by kernel_rfl))) ?_
    refine Sx.tvo (c := 1) (t := 9) 5 [] [.string (gn b j)] (.string (gn b j)) (fun w' hs => (hsb.cell (sp_at hs 1 (it := strI Sb Ab b) (by kernel_rfl)).1 hj hbx)) (fun _ => (H7.sub [0, 0] (by kernel_rfl))) ?_
    refine Sx.tk [(6, none), (7, none)] (fun _ => (H7.sub [0, 0] (by kernel_rfl))) ?_
    refine Sx.dn ?_
    refine Sx.br 1 (Go.Op.bytesLess (gn a i).toList (gn b j).toList) (fun h_c34 => ?_) (fun h_c34 => ?_)
    · skip
      refine Sx.dr 0 H7 [0] [] (LJ := [strI Sa Aa a]) (by kernel_rfl) fun w6 H8 => ?_
      refine Sx.tk [(0, none), (1, none)] (fun _ => (H8.sub [0] (by kernel_rfl))) ?_
      refine Sx.tvi 2 [] ax 0 1 (an - i) (ac - i) hax (by omega) (fun _ => (H8.sub [0] (by kernel_rfl))) ?_
      refine Sx.tvo (c := 1) (t := 9) 3 [] [.string (gn a i)] (.string (gn a i)) (fun w' hs => (hsa.cell (sp_at hs 0 (it := strI Sa Aa a) (by kernel_rfl)).1 hi hax)) (fun _ => (H8.sub [0] (by kernel_rfl))) ?_
      refine Sx.tk [(6, none)] (fun _ => (H8.sub [0] (by kernel_rfl))) ?_
      refine Sx.tvsf 7 [] Ca (an - i) (ac - i) 1 1 (by omega) (by omega) (fun _ => (H8.sub [0] (by kernel_rfl))) ?_
      refine Sx.nmx ?_
      intro zx1
      refine Sx.on 4 ?_
      refine Sx.nw 0 H8 fun k1 w7 H9 => ?_
      refine Sx.bk (x := zx1) 4 (fun _ => (H9.sub [0] (by kernel_rfl))) ?_
      refine Sx.nmx ?_
      intro zx2
      refine Sx.on 5 ?_
      refine Sx.ap 0 2 4 16 1 0 9 1 30 1 k1 A4 c4 n4 (strs da) [.string (gn a i)] H9 (by omega) (by omega) (strs_app _ _) fun A1 cap1 w8 H10 => ?_
      refine Sx.bk (x := zx2) 5 (fun _ => (H10.sub [0] (by kernel_rfl))) ?_
      refine Sx.tk [(8, none), (9, none)] (fun _ => (H10.sub [0] (by kernel_rfl))) ?_
      refine Sx.dn ?_
      have H11 := H10.pick (a := [strI Sa Aa a, strI Sb Ab b, .own 9 1 A1 cap1 (n4 + 1) (strs (da ++ [gn a i])), .own 9 1 A5 c5 n5 (strs db)]) [0, 0, 0, 0] (by kernel_rfl)
      exact Sx.to 2 [(0, .slice (sfC Ca (ac - i) 1 1) (an - (i + 1)) (ac - (i + 1))), (1, .slice Cb (bn - j) (bc - j)), (4, .slice A1 (n4 + 1) cap1), (5, .slice A5 n5 c5)] (hK1 _ _ _ _ (by omega) ⟨(i + 1), j, (sfC Ca (ac - i) 1 1), Cb, A1, cap1, n4 + 1, (da ++ [gn a i]), A5, c5, n5, db, rfl, rfl, H11, (hd.lt hi hj h_c22 h_c34), (hsa.step hi (by omega)), hsb, (by rw [List.length_append, hn4]; rfl), hn5⟩)
    refine Sx.dr 0 H7 [1] [] (LJ := [strI Sb Ab b]) (by kernel_rfl) fun w9 H12 => ?_
    refine Sx.tk [(0, none), (1, none)] (fun _ => (H12.sub [1] (by kernel_rfl))) ?_
    refine Sx.tvi 2 [] bx 0 1 (bn - j) (bc - j) hbx (by omega) (fun _ => (H12.sub [1] (by kernel_rfl))) ?_
    refine Sx.tvo (c := 1) (t := 9) 3 [] [.string (gn b j)] (.string (gn b j)) (fun w' hs => (hsb.cell (sp_at hs 0 (it := strI Sb Ab b) (by kernel_rfl)).1 hj hbx)) (fun _ => (H12.sub [1] (by kernel_rfl))) ?_
    refine Sx.tk [(6, none)] (fun _ => (H12.sub [1] (by kernel_rfl))) ?_
    refine Sx.tvsf 7 [] Cb (bn - j) (bc - j) 1 1 (by omega) (by omega) (fun _ => (H12.sub [1] (by kernel_rfl))) ?_
    refine Sx.nmx ?_
    intro zx3
    refine Sx.on 4 ?_
    refine Sx.nw 0 H12 fun k2 w10 H13 => ?_
    refine Sx.bk (x := zx3) 4 (fun _ => (H13.sub [1] (by kernel_rfl))) ?_
    refine Sx.nmx ?_
    intro zx4
    refine Sx.on 5 ?_
    refine Sx.ap 0 3 4 16 1 0 9 1 30 1 k2 A5 c5 n5 (strs db) [.string (gn b j)] H13 (by omega) (by omega) (strs_app _ _) fun A2 cap2 w11 H14 => ?_
    refine Sx.bk (x := zx4) 5 (fun _ => (H14.sub [1] (by kernel_rfl))) ?_
    refine Sx.tk [(8, none), (9, none)] (fun _ => (H14.sub [1] (by kernel_rfl))) ?_
    refine Sx.dn ?_
    have H15 := H14.pick (a := [strI Sa Aa a, strI Sb Ab b, .own 9 1 A4 c4 n4 (strs da), .own 9 1 A2 cap2 (n5 + 1) (strs (db ++ [gn b j]))]) [0, 0, 0, 0] (by kernel_rfl)
    exact Sx.to 2 [(0, .slice Ca (an - i) (ac - i)), (1, .slice (sfC Cb (bc - j) 1 1) (bn - (j + 1)) (bc - (j + 1))), (4, .slice A4 n4 c4), (5, .slice A2 (n5 + 1) cap2)] (hK1 _ _ _ _ (by omega) ⟨i, (j + 1), Ca, (sfC Cb (bc - j) 1 1), A4, c4, n4, da, A2, cap2, n5 + 1, (db ++ [gn b j]), rfl, rfl, H15, (hd.gt hi hj h_c22 h_c34), hsa, (hsb.step hj (by omega)), hn4, (by rw [List.length_append, hn5]; rfl)⟩)
  have hni : ¬ (i < a.length ∧ j < b.length) := by rintro ⟨h1, h2⟩; rcases and0' h_c13 with q | q <;> (have := of_decide_eq_false q; omega)
  have hdi := hd.hi
  have hdj := hd.hj
  have hdl := hd.hl
  have hdm := hd.hm
  obtain ⟨he1, he2⟩ := hd.end hni
  have hst1 := hsa.strs (H3.at 0 (it := strI Sa Aa a) (by kernel_rfl)).1
  have hcc1 : n4 ≤ c4 := own_cap (H3.at 2 (it := .own 9 1 A4 c4 n4 (strs da)) (by kernel_rfl))
  refine Sx.aps 9 2 16 ((an - i)) 9 1 30 (ac - i) Ca A4 c4 n4 (strs da) (strs (a.drop i)) H3 (fun h => by have := hst1; rw [h] at this; have := congrArg List.length this.nil; simp at this; omega) (fun a ha => hst1.cell ha) (by rw [strs, List.length_map, List.length_drop]; omega) (strs_one _) (by omega) (by omega) hcc1 (xs' := strs ((Slv.differ a b).1)) (by rw [strs_cat, he1]) fun A3 cap3 w12 H16 => ?_
  have hst2 := hsb.strs (H16.at 1 (it := strI Sb Ab b) (by kernel_rfl)).1
  have hcc2 : n5 ≤ c5 := own_cap (H16.at 3 (it := .own 9 1 A5 c5 n5 (strs db)) (by kernel_rfl))
  refine Sx.aps 2 3 16 ((bn - j)) 9 1 30 (bc - j) Cb A5 c5 n5 (strs db) (strs (b.drop j)) H16 (fun h => by have := hst2; rw [h] at this; have := congrArg List.length this.nil; simp at this; omega) (fun a ha => hst2.cell ha) (by rw [strs, List.length_map, List.length_drop]; omega) (strs_one _) (by omega) (by omega) hcc2 (xs' := strs ((Slv.differ a b).2)) (by rw [strs_cat, he2]) fun A4 cap4 w13 H17 => ?_
  refine Sx.rt 5 [] H17 (.tuple #[.slice A3 (n4 + (an - i)) cap3, .slice A4 (n5 + (bn - j)) cap4]) ?_
  have hcp1 := own_cap (H17.at 2 (it := .own 9 1 A3 cap3 (n4 + (an - i)) (strs ((Slv.differ a b).1))) (by kernel_rfl))
  have hnn1 := (H17.at 2 (it := .own 9 1 A3 cap3 (n4 + (an - i)) (strs ((Slv.differ a b).1))) (by kernel_rfl)).1
  have H18 := Hs.toStr H17 2 (e := 9) (n := (n4 + (an - i))) (cap := cap3) (A := A3) (l := (Slv.differ a b).1) (by kernel_rfl)
  have hcp2 := own_cap (H18.at 3 (it := .own 9 1 A4 cap4 (n5 + (bn - j)) (strs ((Slv.differ a b).2))) (by kernel_rfl))
  have hnn2 := (H18.at 3 (it := .own 9 1 A4 cap4 (n5 + (bn - j)) (strs ((Slv.differ a b).2))) (by kernel_rfl)).1
  have H19 := Hs.toStr H18 3 (e := 9) (n := (n5 + (bn - j))) (cap := cap4) (A := A4) (l := (Slv.differ a b).2) (by kernel_rfl)
  subst hL0
  exact hK (fun c => (Value.slice A3 (n4 + (an - i)) cap3).ownBlock = some c) A3 (n4 + (an - i)) cap3 (fun c => (Value.slice A4 (n5 + (bn - j)) cap4).ownBlock = some c) A4 (n5 + (bn - j)) cap4 _ (H19.pick (a := [strI Sa Aa a, strI Sb Ab b, strI (fun c => (Value.slice A3 (n4 + (an - i)) cap3).ownBlock = some c) A3 ((Slv.differ a b).1), strI (fun c => (Value.slice A4 (n5 + (bn - j)) cap4).ownBlock = some c) A4 ((Slv.differ a b).2)]) [0, 0, 0, 0] (by kernel_rfl)) (by rw [strs, List.length_map, Nat.mul_one] at hnn1; omega) hcp1 (by rw [strs, List.length_map, Nat.mul_one] at hnn2; omega) hcp2
end Go.Proofs.Ytfkkocjheeoobaa
set_option linter.unusedVariables false
set_option linter.unusedSimpArgs false
namespace Go.Inf
open Go.RowKit Go.Sx
abbrev srB (v w : Nat) (d e : List Nm) : Bool := ((v == 0) && !e.isEmpty) || ((w == 0) && !d.isEmpty)
theorem sameRow_cases {k r s : Nat} {g g' : G} {t : Bool} (h : sameRow k g r s = some (g', t)) :
    ∃ a v b u, whole k g r [] = some (a, v) ∧ whole k g s [] = some (b, u) ∧
      (v = u → g = g' ∧ ((less a b).isEmpty && (less b a).isEmpty) = t) ∧
      (v ≠ u → srB v u (less a b) (less b a) = true → g = g' ∧ false = t) ∧
      (v ≠ u → srB v u (less a b) (less b a) = false → v = 0 → g.stands u (less a b) (some 0) = g' ∧ true = t) ∧
      (v ≠ u → srB v u (less a b) (less b a) = false → v ≠ 0 → u = 0 → g.stands v (less b a) (some 0) = g' ∧ true = t) ∧
      (v ≠ u → srB v u (less a b) (less b a) = false → v ≠ 0 → u ≠ 0 → ∃ g1 x, g.opn = some (g1, x) ∧ (g1.stands v (less b a) (some x)).stands u (less a b) (some x) = g' ∧ true = t) := by
  unfold sameRow at h
  split at h <;> try contradiction
  rename_i a v b u h1 h2
  refine ⟨a, v, b, u, h1, h2, ?_⟩
  simp only at h
  split at h
  · rename_i e; cases h; simp [e]
  · rename_i e
    split at h
    · rename_i e2; cases h
      exact ⟨fun q => absurd q e, fun _ _ => ⟨rfl, rfl⟩, fun _ q => by simp [srB, e2] at q, fun _ q => by simp [srB, e2] at q, fun _ q => by simp [srB, e2] at q⟩
    · rename_i e2
      have e2 : srB v u (less a b) (less b a) = false := by simpa using e2
      split at h
      · rename_i e3; cases h
        exact ⟨fun q => absurd q e, fun _ q => by simp [e2] at q, fun _ _ _ => ⟨rfl, rfl⟩, fun _ _ q => absurd e3 q, fun _ _ q => absurd e3 q⟩
      · rename_i e3
        split at h
        · rename_i e4; cases h
          exact ⟨fun q => absurd q e, fun _ q => by simp [e2] at q, fun _ _ q => absurd q e3, fun _ _ _ _ => ⟨rfl, rfl⟩, fun _ _ _ q => absurd e4 q⟩
        · rename_i e4
          split at h <;> try contradiction
          rename_i g1 x h5
          cases h
          exact ⟨fun q => absurd q e, fun _ q => by simp [e2] at q, fun _ _ q => absurd q e3, fun _ _ _ q => absurd q e4, fun _ _ _ _ => ⟨g1, x, h5, rfl, rfl⟩⟩
theorem whole_v {k r v : Nat} {g : G} {acc l : List Nm} (h : whole k g r acc = some (l, v)) : v = 0 ∨ v < g.ops.length := by
  induction k generalizing r acc with
  | zero => simp [whole] at h
  | succ z ih =>
    obtain ⟨lr, nx, ho, hb, _, h1, h2, h3⟩ := whole_cases h
    rcases nx with _ | q
    · rw [← (h1 rfl).2]; exact .inr (List.getElem?_eq_some_iff.1 ho).1
    · cases q with
      | zero => exact .inl (h2 rfl).2.symm
      | succ q => exact ih (h3 q rfl)
theorem len0 (l : List Nm) : (((l.length : Nat) : Int) == (0 : Int)) = l.isEmpty := by cases l <;> simp <;> omega
theorem len1 (l : List Nm) : decide (((l.length : Nat) : Int) > (0 : Int)) = !l.isEmpty := by cases l <;> simp <;> omega
theorem nat0 (v : Nat) : (((v : Nat) : Int) == (0 : Int)) = (v == 0) := by cases v <;> simp <;> omega
theorem opn_len {g g' : G} {n : Nat} (h : g.opn = some (g', n)) : g'.ops.length = g.ops.length + 1 := by
  unfold G.opn G.putRow at h
  split at h
  · simp only [wL_eq, wO_eq, wN_eq, Option.some.injEq, Prod.mk.injEq] at h; obtain ⟨rfl, _⟩ := h; simp
  · cases h
theorem stands_len (g : G) (v : Nat) (l : List Nm) (nx : Option Nat) : (g.stands v l nx).ops.length = g.ops.length := by
  simp only [G.stands, wL_eq, wO_eq, wN_eq, List.length_set]
end Go.Inf
namespace Go.Inf
open Go.RowKit Go.Sx
abbrev lnk0 (g : G) (m n : Nat) : G := ⟨g.kind, g.a, g.b, g.row, g.link.set m (some n), g.ops, g.next, g.tv, g.rv⟩
theorem lnk_eq (g : G) (m n : Nat) : g.lnk m n = lnk0 g m n := by simp only [G.lnk, wN_eq, wL_eq]
def SC (k : Nat) (g : G) (m n km : Nat) (g' : G) (t : Bool) : Prop := (km ≠ 6 → g = g' ∧ true = t) ∧ (km = 6 → ∃ r s, g.row[m]? = some r ∧ g.row[n]? = some s ∧ sameRow k g r s = some (g', t))
def SB (k : Nat) (g : G) (m n km : Nat) (g' : G) (t : Bool) : Prop := ∃ y, g.b[m]? = some y ∧ (y = none → SC k g m n km g' t) ∧ ∀ p, y = some p → ∃ q t2 g2, g.b[n]? = some (some q) ∧ same k g p q = some (g2, t2) ∧ (t2 = false → g2 = g' ∧ false = t) ∧ (t2 = true → SC k g2 m n km g' t)
def SAa (k : Nat) (g : G) (m n km : Nat) (g' : G) (t : Bool) : Prop := ∃ y, g.a[m]? = some y ∧ (y = none → SB k g m n km g' t) ∧ ∀ p, y = some p → ∃ q t2 g2, g.a[n]? = some (some q) ∧ same k g p q = some (g2, t2) ∧ (t2 = false → g2 = g' ∧ false = t) ∧ (t2 = true → SB k g2 m n km g' t)
theorem same_cases {k m n : Nat} {g g' : G} {t : Bool} (h : same (k + 1) g m n = some (g', t)) : ∃ m1 n1, find k g m = some m1 ∧ find k g n = some n1 ∧ (m1 = n1 → g = g' ∧ true = t) ∧
    (m1 ≠ n1 → ∃ km kn, g.kind[m1]? = some km ∧ g.kind[n1]? = some kn ∧ (km = 0 → lnk0 g m1 n1 = g' ∧ true = t) ∧ (km ≠ 0 → kn = 0 → lnk0 g n1 m1 = g' ∧ true = t) ∧ (km ≠ 0 → kn ≠ 0 → km ≠ kn → g = g' ∧ false = t) ∧ (km ≠ 0 → kn ≠ 0 → km = kn → SAa k (lnk0 g m1 n1) m1 n1 km g' t)) := by
  unfold same at h
  split at h <;> try contradiction
  rename_i m1 n1 hm hn
  refine ⟨m1, n1, hm, hn, ?_⟩
  split at h
  · rename_i e; cases h; exact ⟨fun _ => ⟨rfl, rfl⟩, fun q => absurd e q⟩
  · rename_i e
    refine ⟨fun q => absurd q e, fun _ => ?_⟩
    split at h <;> try contradiction
    rename_i km kn hkm hkn
    refine ⟨km, kn, hkm, hkn, ?_⟩
    split at h
    · rename_i e1; cases h; exact ⟨fun _ => ⟨(lnk_eq _ _ _).symm, rfl⟩, fun q => absurd e1 q, fun q => absurd e1 q, fun q => absurd e1 q⟩
    · rename_i e1
      split at h
      · rename_i e2; cases h; exact ⟨fun q => absurd q e1, fun _ _ => ⟨(lnk_eq _ _ _).symm, rfl⟩, fun _ q => absurd e2 q, fun _ q => absurd e2 q⟩
      · rename_i e2
        split at h
        · rename_i e3; cases h; exact ⟨fun q => absurd q e1, fun _ q => absurd q e2, fun _ _ _ => ⟨rfl, rfl⟩, fun _ _ q => absurd q e3⟩
        · rename_i e3
          refine ⟨fun q => absurd q e1, fun _ q => absurd q e2, fun _ _ q => absurd q e3, fun _ _ _ => ?_⟩
          rw [lnk_eq] at h
          generalize lnk0 g m1 n1 = g0 at h ⊢
          simp only at h
          have hC : ∀ g2, (if km = 6 then (match g2.row[m1]?, g2.row[n1]? with | some r, some s => sameRow k g2 r s | _, _ => none) else some (g2, true)) = some (g', t) → SC k g2 m1 n1 km g' t := by
            intro g2 h
            split at h
            · rename_i e6
              split at h <;> try contradiction
              rename_i r s hr hs
              exact ⟨fun q => absurd e6 q, fun _ => ⟨r, s, hr, hs, h⟩⟩
            · rename_i e6; cases h; exact ⟨fun _ => ⟨rfl, rfl⟩, fun q => absurd q e6⟩
          have hA : ∀ (g0 : G) (x y : Option (Option Nat)) (g1 : G) (t1 : Bool), (match x, y with | some none, _ => some (g0, true) | some (some p), some (some q) => same k g0 p q | _, _ => none) = some (g1, t1) →
              ∃ o, x = some o ∧ (o = none → g0 = g1 ∧ true = t1) ∧ ∀ p, o = some p → ∃ q, y = some (some q) ∧ same k g0 p q = some (g1, t1) := by
            intro g0 x y g1 t1 h
            split at h <;> try contradiction
            · cases h; exact ⟨none, rfl, fun _ => ⟨rfl, rfl⟩, fun p q => by cases q⟩
            · rename_i p q; exact ⟨some p, rfl, fun q => (by cases q), fun p' e => by cases e; exact ⟨q, rfl, h⟩⟩
          have hB : ∀ g1, (match (match g1.b[m1]?, g1.b[n1]? with | some none, _ => some (g1, true) | some (some p), some (some q) => same k g1 p q | _, _ => none) with
              | some (g, false) => some (g, false)
              | some (g, true) => if km = 6 then (match g.row[m1]?, g.row[n1]? with | some r, some s => sameRow k g r s | _, _ => none) else some (g, true)
              | none => none) = some (g', t) → SB k g1 m1 n1 km g' t := by
            intro g1 h
            split at h <;> try contradiction
            · rename_i g2 hg
              obtain ⟨o, ho, h1, h2⟩ := hA _ _ _ _ _ hg
              refine ⟨o, ho, fun q => by simp at h1; exact absurd q (fun e => by have := h1 e; simp_all), fun p hp => ?_⟩
              obtain ⟨q, hq, hs⟩ := h2 p hp
              cases h
              exact ⟨q, false, _, hq, hs, fun _ => ⟨rfl, rfl⟩, fun e => by cases e⟩
            · rename_i g2 hg
              obtain ⟨o, ho, h1, h2⟩ := hA _ _ _ _ _ hg
              refine ⟨o, ho, fun q => by rw [(h1 q).1]; exact hC _ h, fun p hp => ?_⟩
              obtain ⟨q, hq, hs⟩ := h2 p hp
              exact ⟨q, true, g2, hq, hs, fun e => (by cases e), fun _ => hC _ h⟩
          split at h <;> try contradiction
          · rename_i g2 hg
            obtain ⟨o, ho, h1, h2⟩ := hA _ _ _ _ _ hg
            refine ⟨o, ho, fun q => by simp at h1; exact absurd q (fun e => by have := h1 e; simp_all), fun p hp => ?_⟩
            obtain ⟨q, hq, hs⟩ := h2 p hp
            cases h
            exact ⟨q, false, _, hq, hs, fun _ => ⟨rfl, rfl⟩, fun e => by cases e⟩
          · rename_i g2 hg
            obtain ⟨o, ho, h1, h2⟩ := hA _ _ _ _ _ hg
            refine ⟨o, ho, fun q => by rw [(h1 q).1]; exact hB _ h, fun p hp => ?_⟩
            obtain ⟨q, hq, hs⟩ := h2 p hp
            exact ⟨q, true, g2, hq, hs, fun e => (by cases e), fun _ => hB _ h⟩
theorem opn_kind {g g' : G} {n : Nat} (h : g.opn = some (g', n)) : g'.kind = g.kind := by
  unfold G.opn G.putRow at h
  split at h
  · simp only [wL_eq, wO_eq, wN_eq, Option.some.injEq, Prod.mk.injEq] at h; obtain ⟨rfl, _⟩ := h; rfl
  · cases h
theorem stands_kind (g : G) (v : Nat) (l : List Nm) (nx : Option Nat) : (g.stands v l nx).kind = g.kind := by simp only [G.stands, wL_eq, wO_eq, wN_eq]
theorem sameRow_kind {k r s : Nat} {g g' : G} {t : Bool} (h : sameRow k g r s = some (g', t)) : g'.kind = g.kind := by
  obtain ⟨a, v, b, u, _, _, h1, h2, h3, h4, h5⟩ := sameRow_cases h
  by_cases e1 : v = u
  · rw [(h1 e1).1]
  · cases e2 : srB v u (less a b) (less b a) with
    | true => rw [(h2 e1 e2).1]
    | false =>
      by_cases e3 : v = 0
      · rw [← (h3 e1 e2 e3).1, stands_kind]
      · by_cases e4 : u = 0
        · rw [← (h4 e1 e2 e3 e4).1, stands_kind]
        · obtain ⟨g1, x, ho, hg, _⟩ := h5 e1 e2 e3 e4
          rw [← hg, stands_kind, stands_kind, opn_kind ho]
theorem SC_kind {k m n km : Nat} {g g' : G} {t : Bool} (h : SC k g m n km g' t) : g'.kind = g.kind := by
  by_cases e : km = 6
  · obtain ⟨r, s, _, _, h⟩ := h.2 e; exact sameRow_kind h
  · rw [(h.1 e).1]
theorem same_kind {k m n : Nat} {g g' : G} {t : Bool} (h : same k g m n = some (g', t)) : g'.kind = g.kind := by
  induction k generalizing g g' m n t with
  | zero => simp [same] at h
  | succ k ih =>
    obtain ⟨m1, n1, _, _, h0, h1⟩ := same_cases h
    by_cases e : m1 = n1
    · rw [(h0 e).1]
    · obtain ⟨km, kn, _, _, a1, a2, a3, a4⟩ := h1 e
      by_cases e1 : km = 0
      · rw [← (a1 e1).1]
      · by_cases e2 : kn = 0
        · rw [← (a2 e1 e2).1]
        · by_cases e3 : km = kn
          · have hb : ∀ g1, SB k g1 m1 n1 km g' t → g'.kind = g1.kind := by
              rintro g1 ⟨y, _, b1, b2⟩
              cases y with
              | none => exact SC_kind (b1 rfl)
              | some p =>
                obtain ⟨q, t2, g2, _, hs, b3, b4⟩ := b2 p rfl
                rw [← ih hs]
                cases t2 with
                | false => rw [(b3 rfl).1]
                | true => exact SC_kind (b4 rfl)
            obtain ⟨y, _, b1, b2⟩ := a4 e1 e2 e3
            cases y with
            | none => exact hb (lnk0 g m1 n1) (b1 rfl)
            | some p =>
              obtain ⟨q, t2, g2, _, hs, b3, b4⟩ := b2 p rfl
              have := ih hs
              cases t2 with
              | false => rw [← (b3 rfl).1]; exact this
              | true => rw [hb _ (b4 rfl)]; exact this
          · rw [(a3 e1 e2 e3).1]
theorem eI_ge1 {o : Option Nat} (h : decide (eI o ≥ 0) = true) : ∃ q, o = some q := by
  cases o with
  | none => simp [eI] at h
  | some n => exact ⟨n, rfl⟩
theorem eI_ge0 {o : Option Nat} (h : decide (eI o ≥ 0) = false) : o = none := by
  cases o with
  | none => rfl
  | some n => have := of_decide_eq_false h; simp only [eI] at this; omega
theorem ne6 {km : Nat} (h : km ≠ 6) : (((km : Nat) : Int) != (6 : Int)) = true := by simp; omega
theorem at_lt {α : Type} {l : List α} {i : Nat} {x : α} (h : l[i]? = some x) : i < l.length := (List.getElem?_eq_some_iff.1 h).1
end Go.Inf
set_option linter.unusedVariables false
set_option linter.unusedSimpArgs false
namespace Go.Slv
open Go.RowKit Go.Sx Go.Inf Go.Gx
section
variable {w0 w : World} {L0 L : List Sx.Item} {T R : List Nat} {g : G} {m : Pm}
/-- What is known of a row. -/
theorem P_rw (h0 : (rowsI m.S2 m.sl g.ops).holds w) {r : Nat} {l : List Nm} (hl : g.ops[r]? = some l) : ∃ A n c, m.sl[r]? = some (A, n, c) ∧ n = l.length ∧ Strs w m.S2 A l := by
  have h := h0.1
  have hr : r < m.sl.length := by rw [h.1]; exact (List.getElem?_eq_some_iff.1 hl).1
  obtain ⟨⟨A, n, c⟩, h1⟩ : ∃ s, m.sl[r]? = some s := ⟨_, List.getElem?_eq_getElem hr⟩
  exact ⟨A, n, c, h1, (h.2 r _ _ h1 hl).1, (h.2 r _ _ h1 hl).2⟩
theorem P_rs (h0 : (rowsI m.S2 m.sl g.ops).holds w) {r n c : Nat} {A : Option Addr} {l : List Nm} (h1 : m.sl[r]? = some (A, n, c)) (hl : g.ops[r]? = some l) : Strs w m.S2 A l := (h0.1.2 r _ _ h1 hl).2
theorem rwC_eq {r n c : Nat} {A : Option Addr} {nx tl : Option Nat} {b : Bool} (h1 : m.sl[r]? = some (A, n, c)) (hn : g.next[r]? = some nx) (ht : tlB R nx = tl) (hb : nx.isNone = b) : rwC R g m r = [.slice A n c, pB tl, .bool b] := by
  unfold rwC slD nxD; rw [h1, hn]; simp only [Option.getD_some, ht, hb, slV]
theorem bank_as {ty : Nat} {C C' : Nat → List Value} {hs : List Nat} (H : Hs w0 L0 w L) (i : Nat) (hi : L[i]? = some (bankI ty T C hs)) (hC : ∀ j b, T[j]? = some b → C' j = C j) : Hs w0 L0 w (L.set i (bankI ty T C' hs)) :=
  H.as i _ hi rfl (bank_holds (fun j b hj hn => by rw [hC j b hj]; exact (H.at i hi).1.1 j b hj hn) (H.at i hi).1.2) (fun _ h => h)
theorem bank_ne {ty : Nat} {C : Nat → List Value} {hs : List Nat} {i j a b : Nat} (h : (bankI ty T C hs).holds w) (hi : T[i]? = some a) (hj : T[j]? = some b) (ni : i ∉ hs) (nj : j ∉ hs) (hne : i ≠ j) : decide (a = b) = false :=
  decide_eq_false fun e => hne (bank_inj h hi (by rw [e]; exact hj) ni nj)
/-- A row's variable, as a block. -/
def vB (R : List Nat) (v : Nat) : Option Nat := if v = 0 then none else R[v]?
theorem vB_0 : vB R 0 = none := rfl
theorem vB_n {v b : Nat} (h : v ≠ 0) (hb : R[v]? = some b) : vB R v = some b := by unfold vB; rw [if_neg h, hb]
theorem tl_q {q b : Nat} (hb : R[q + 1]? = some b) : tlB R (some (q + 1)) = some b := hb
theorem whole_srt {k r v : Nat} {acc l : List Nm} (ha : Srt acc) (h : whole k g r acc = some (l, v)) : Srt l := by
  induction k generalizing r acc with
  | zero => simp [whole] at h
  | succ z ih =>
    obtain ⟨lr, nx, _, _, _, h1, h2, h3⟩ := whole_cases h
    rcases nx with _ | q
    · rw [← (h1 rfl).1]; exact putAll_srt ha lr
    · cases q with
      | zero => rw [← (h2 rfl).1]; exact putAll_srt ha lr
      | succ q => exact ih (putAll_srt ha lr) (h3 q rfl)
/-- A row variable stands for something now. -/
abbrev gset (g : G) (v : Nat) (l : List Nm) (o : Option Nat) : G := ⟨g.kind, g.a, g.b, g.row, g.link, g.ops.set v l, g.next.set v o, g.tv, g.rv⟩
theorem stands_set (g : G) (v : Nat) (l : List Nm) (o : Option Nat) : g.stands v l o = gset g v l o := by simp only [G.stands, wL_eq, wO_eq, wN_eq]
abbrev gop1 (g : G) (l : List Nm) (q : Option Nat) : G := ⟨g.kind, g.a, g.b, g.row, g.link, g.ops ++ [l], g.next ++ [q], g.tv, g.rv⟩
theorem opn_op1 {g g' : G} {x : Nat} (h : g.opn = some (g', x)) : g.ops.length < 1000000000 ∧ g' = gop1 g [] none ∧ x = g.ops.length := by
  unfold G.opn G.putRow big at h
  split at h
  · rename_i hz
    simp only [wO_eq, wN_eq, wL_eq, Option.some.injEq, Prod.mk.injEq] at h
    exact ⟨hz, h.1.symm, h.2.symm⟩
  · cases h
theorem PR.set (hm : PR T R g m) {v n c : Nat} {A : Option Addr} {S : Nat → Prop} (l : List Nm) {o : Option Nat} (ho : ∀ q, o = some (q + 1) → q + 1 < g.next.length) : PR T R (gset g v l o) { m with sl := m.sl.set v (A, n, c), S2 := S } := by
  refine ⟨hm.lT, ?_, hm.la, hm.lb, hm.lr, hm.ll, hm.li, hm.en, hm.al, hm.ka, fun n h => ?_, fun r q h => ?_, ?_, ?_, hm.ar⟩
  · show R.length = (g.next.set v o).length; rw [List.length_set]; exact hm.lR
  · obtain ⟨r, h1, h2, h3⟩ := hm.kr n h
    exact ⟨r, h1, by show r < (g.next.set v o).length; rw [List.length_set]; exact h2, h3⟩
  · change (g.next.set v o)[r]? = some (some (q + 1)) at h
    show q + 1 < (g.next.set v o).length
    rw [List.length_set]
    rw [List.getElem?_set] at h
    split at h
    · split at h
      · exact ho q (Option.some.inj h)
      · cases h
    · exact hm.kn r q h
  · show 0 < (g.next.set v o).length; rw [List.length_set]; exact hm.z
  · show (g.ops.set v l).length = (g.next.set v o).length; rw [List.length_set, List.length_set]; exact hm.lo
theorem rwC_set {S : Nat → Prop} {v i n c : Nat} {A : Option Addr} {l : List Nm} {o : Option Nat} (h : i ≠ v) : rwC R (gset g v l o) { m with sl := m.sl.set v (A, n, c), S2 := S } i = rwC R g m i := by
  unfold rwC slD nxD; simp only [List.getElem?_set_ne (Ne.symm h)]
theorem rwC_at {S : Nat → Prop} {v n c : Nat} {A : Option Addr} {l : List Nm} {o tl : Option Nat} {b : Bool} (hv : v < m.sl.length) (hv2 : v < g.next.length) (ht : tlB R o = tl) (hb : o.isNone = b) : rwC R (gset g v l o) { m with sl := m.sl.set v (A, n, c), S2 := S } v = [.slice A n c, pB tl, .bool b] :=
  rwC_eq (List.getElem?_set_self hv) (List.getElem?_set_self hv2) ht hb
/-- A new row. -/
theorem PR.add (hm : PR T R g m) (b : Nat) (l : List Nm) {s : Slot} {S : Nat → Prop} {q : Option Nat} (hq : ∀ p, q = some (p + 1) → p + 1 < g.next.length) : PR T (R ++ [b]) (gop1 g l q) { m with sl := m.sl ++ [s], S2 := S } := by
  refine ⟨hm.lT, ?_, hm.la, hm.lb, hm.lr, hm.ll, hm.li, hm.en, hm.al, hm.ka, fun n h => ?_, fun r p h => ?_, ?_, ?_, hm.ar⟩
  · show (R ++ [b]).length = (g.next ++ [q]).length; simp [hm.lR]
  · obtain ⟨r, h1, h2, h3⟩ := hm.kr n h
    exact ⟨r, h1, by show r < (g.next ++ [q]).length; simp; omega, h3⟩
  · change (g.next ++ [q])[r]? = some (some (p + 1)) at h
    show p + 1 < (g.next ++ [q]).length
    rw [List.length_append, List.length_singleton]
    rcases app_at h with ⟨_, e⟩ | ⟨_, e⟩
    · have := hm.kn r p e; omega
    · have := hq p e.symm; omega
  · show 0 < (g.next ++ [q]).length; simp
  · show (g.ops ++ [l]).length = (g.next ++ [q]).length; simp [hm.lo]
theorem rowB_add (hm : PR T R g m) (b : Nat) (l : List Nm) (q : Option Nat) (n : Nat) : rowB (R ++ [b]) (gop1 g l q) n = rowB R g n := by
  unfold rowB
  cases hk : g.kind[n]? with
  | none => simp
  | some k =>
    by_cases e : k = 6
    · subst e
      obtain ⟨r, h1, h2, _⟩ := hm.kr n hk
      simp only [Option.getD_some, h1, if_true]
      rw [app_l (by rw [hm.lR]; exact h2)]
    · simp [e]
theorem ndC_add (hm : PR T R g m) (b : Nat) (l : List Nm) (q : Option Nat) (s : Slot) (S : Nat → Prop) (n : Nat) : ndC T (R ++ [b]) (gop1 g l q) { m with sl := m.sl ++ [s], S2 := S } n = ndC T R g m n := by
  unfold ndC; rw [rowB_add hm]
theorem rwC_add (hm : PR T R g m) (hl : m.sl.length = g.ops.length) (b : Nat) (l : List Nm) (q : Option Nat) (s : Slot) (S : Nat → Prop) {i : Nat} (hi : i < R.length) : rwC (R ++ [b]) (gop1 g l q) { m with sl := m.sl ++ [s], S2 := S } i = rwC R g m i := by
  have h1 := hm.lR
  have hl2 := hm.lo
  unfold rwC slD nxD
  simp only [app_l (show i < m.sl.length by omega), app_l (show i < g.next.length by omega)]
  congr 2
  cases hn : g.next[i]? with
  | none => rfl
  | some o => cases o with
    | none => rfl
    | some p => cases p with
      | zero => rfl
      | succ p => show pB ((R ++ [b])[p + 1]?) = pB (R[p + 1]?); rw [app_l (by rw [hm.lR]; exact hm.kn i p hn)]
theorem rwC_new (hm : PR T R g m) (hl : m.sl.length = g.ops.length) (b : Nat) (l : List Nm) (q : Option Nat) {A : Option Addr} {n c : Nat} {S : Nat → Prop} {tl : Option Nat} {t : Bool} (ht : tlB (R ++ [b]) q = tl) (hb : q.isNone = t) : rwC (R ++ [b]) (gop1 g l q) { m with sl := m.sl ++ [(A, n, c)], S2 := S } R.length = [.slice A n c, pB tl, .bool t] :=
  rwC_eq (by have := hm.lR; have := hm.lo; show (m.sl ++ [_])[_]? = _; rw [show R.length = m.sl.length by omega]; simp) (by show (g.next ++ [q])[_]? = _; rw [hm.lR]; simp) ht hb
/-- Where the rows are still found. -/
def Pre (R R' : List Nat) : Prop := ∀ i b : Nat, R[i]? = some b → R'[i]? = some b
theorem Pre.refl (R : List Nat) : Pre R R := fun _ _ h => h
theorem Pre.app (R : List Nat) (b : Nat) : Pre R (R ++ [b]) := fun i c h => by rw [app_l (List.getElem?_eq_some_iff.1 h).1]; exact h
theorem Pre.trans {R R' R2 : List Nat} (h : Pre R R') (k : Pre R' R2) : Pre R R2 := fun i c q => k i c (h i c q)
theorem whole_open {k r v : Nat} {acc l : List Nm} (h : whole k g r acc = some (l, v)) : v = 0 ∨ g.next[v]? = some none := by
  induction k generalizing r acc with
  | zero => simp [whole] at h
  | succ z ih =>
    obtain ⟨lr, nx, _, _, hn, h1, h2, h3⟩ := whole_cases h
    rcases nx with _ | q
    · rw [← (h1 rfl).2]; exact .inr hn
    · cases q with
      | zero => exact .inl (h2 rfl).2.symm
      | succ q => exact ih (h3 q rfl)
theorem sr5 (v u : Nat) : (v = 0 ∧ u = 0) ∨ (v = u ∧ v ≠ 0) ∨ (v ≠ u ∧ v = 0) ∨ (v ≠ u ∧ v ≠ 0 ∧ u = 0) ∨ (v ≠ u ∧ v ≠ 0 ∧ u ≠ 0) := by omega
theorem len01 (a b : List Nm) : (((a.length + b.length : Nat) : Int) == (0 : Int)) = (a.isEmpty && b.isEmpty) := by cases a <;> cases b <;> simp <;> omega
theorem tb2 {α : Type} {l : List α} {n : Nat} (h : n < l.length) : ∃ b, l[n]? = some b := ⟨_, List.getElem?_eq_getElem h⟩
end
end Go.Slv
set_option linter.unusedVariables false
set_option linter.unusedSimpArgs false
namespace Go.Proofs.Ytfkkocjheeoobaa
open Go.RowKit Go.Sx Go.Inf Go.Slv
attribute [local irreducible] Go.wpOps Go.Code.wp Go.wpOp Go.wpAnyH Go.Calls Go.Sx.Goal
set_option maxRecDepth 20000
set_option maxHeartbeats 4000000 in
theorem Whole_p (S : Nat → Prop) (Z : List Slot) (T R : List Nat) (g : G) (k r0 b0 v : Nat) (l : List Nm) (vb : Option Nat) (w : World) (K : Ending → World → Prop) (H0 : Sp w [PI S Z T R g]) (hbr0 : R[r0]? = some b0) (hr0 : r0 ≠ 0) (hvb : vB R v = vb) (hf : whole k g r0 [] = some (l, v)) (hK : ∀ (S' : Nat → Prop) (S2 : Nat → Prop) (A : Option Addr) (n : Nat) (cap : Nat) w', Hs w [PI S Z T R g] w' [PI S' Z T R g, strI S2 A l] → (n = l.length) → (n ≤ cap) → K (.returned (.tuple #[.slice A n cap, pB vb])) w') :
    Calls Try.prog 33 #[.pointer (some ⟨b0, 0, none⟩)] w K := by
  obtain ⟨L0, hL0, H⟩ : ∃ L0, L0 = [PI S Z T R g] ∧ Hs w L0 w [PI S Z T R g] := ⟨_, rfl, Hs.refl H0⟩
  refine Sx.en (vs := [.pointer (some ⟨b0, 0, none⟩)]) 29 Try.func33 ?_
  obtain ⟨pm1, hpm1, hzpm1, H1⟩ := P_open H 0 (S := S) (Z := Z) (T := T) (R := R) (g := g) (by kernel_rfl)
  have hb0 := whole_len hf
  have H2 := H1.add (Gx.Ext.refl _) (it := .own 9 1 none 0 0 []) (World.ownsRow_nil _ _ _ _) (fun _ h => by cases h)
  refine Sx.lp 13 (fun z l' w' => ∃ (kk : Nat) (r : Nat) (br : Nat) (A4 : Option Addr) (c4 : Nat) (n4 : Nat) (acc : List Nm), l' = [(0, .pointer (some ⟨br, 0, none⟩)), (4, .slice A4 n4 c4)] ∧ z = kk ∧ Hs w L0 w' [bankI 78 T (ndC T R g pm1) [], kidsI pm1.S1 pm1.as (ksL T g), bankI 80 R (rwC R g pm1) [0], rowsI pm1.S2 pm1.sl g.ops, .own 9 1 A4 c4 n4 (strs acc)] ∧ (R[r]? = some br) ∧ (r ≠ 0) ∧ (whole kk g r (putAll [] acc) = some (l, v)) ∧ (n4 = acc.length)) _ [(0, .pointer (some ⟨b0, 0, none⟩)), (4, .slice none 0 0)] ⟨k, r0, b0, none, 0, 0, [], rfl, rfl, H2, hbr0, hr0, hf, rfl⟩ (fun b1 z1 l1 w1 hI1 K1 hK1 => ?_)
  obtain ⟨kk, r, br, A4, c4, n4, acc, rfl, rfl, H3, hbr, hrz, hw0, hn4⟩ := hI1
  obtain ⟨k2, rfl⟩ : ∃ k2, z1 = k2 + 1 := by cases z1 with | zero => simp [whole] at hw0 | succ k2 => exact ⟨k2, rfl⟩
  obtain ⟨lr, nx, hol, hbz, hnx, hw1, hw2, hw3⟩ := whole_cases hw0
  rw [putAll_len] at hbz
  rw [putAll_putAll] at hw1 hw2 hw3
  rcases nx with _ | _ | q
  · skip
    obtain ⟨rA1, rn1, rc1, hsl1, hrn1, hst1⟩ := P_rw (m := pm1) (g := g) (H3.at 3 (it := rowsI pm1.S2 pm1.sl g.ops) (by kernel_rfl)) hol
    have H4 := bank_take (ty := 80) (T := R) (C := (rwC R g pm1)) (hs := [0]) H3 2 (by kernel_rfl) (n := r) (b := br) hbr (nz1 hrz) (rwC_eq hsl1 hnx (tl := none) rfl (b := true) rfl)
    refine Sx.l 7 0 H4 ?_
    have hst2 := P_rs (m := pm1) (g := g) (H4.at 4 (it := rowsI pm1.S2 pm1.sl g.ops) (by kernel_rfl)) hsl1 hol
    have hcc1 : n4 ≤ c4 := own_cap (H4.at 5 (it := .own 9 1 A4 c4 n4 (strs acc)) (by kernel_rfl))
    refine Sx.aps 0 5 16 rn1 9 1 30 rc1 rA1 A4 c4 n4 (strs acc) (strs lr) H4 (fun h => by have := hst2; rw [h] at this; rw [hrn1, this.nil]; rfl) (fun a ha => hst2.cell ha) (by rw [strs, List.length_map]; omega) (strs_one _) (by omega) (by omega) hcc1 (xs' := strs (acc ++ lr)) (strs_cat _ _) fun A1 cap1 w2 H5 => ?_
    refine Sx.l 9 0 H5 ?_
    refine Sx.c 13 [5] H5 (fun Hp1 R1 hR1 => Slv.Sort_p A1 cap1 (n4 + rn1) (acc ++ lr) w2 R1 Hp1 (by rw [List.length_append]; omega) (fun w3 G1 => hR1 _ _ _ G1 fun H6 => ?_))
    refine Sx.l 8 1 H6 ?_
    refine Sx.rt 13 [] H6 (.tuple #[.slice A1 (n4 + rn1) cap1, .pointer (some ⟨br, 0, none⟩)]) ?_
    have H7 := bank_put (ty := 80) (T := R) (C := (rwC R g pm1)) (C' := (rwC R g pm1)) (hs := [0]) H6 [1, 1] (by kernel_rfl) (n := r) (b := br) hbr (nz1 hrz) (rwC_eq hsl1 hnx (tl := none) rfl (b := true) rfl) (fun _ _ _ => rfl)
    obtain ⟨S1, H8⟩ := P_close H7 [2, 2, 0, 1] (Z := Z) (T := T) (R := R) (g := g) pm1 hpm1 hzpm1 (by kernel_rfl)
    obtain ⟨he1, rfl⟩ := (hw1 rfl)
    have H9 := H8.pick (a := [PI S1 Z T R g, .own 9 1 A1 cap1 (n4 + rn1) (strs l)]) [0, 0] (by rw [← he1]; kernel_rfl)
    have hcp := own_cap (H9.at 1 rfl)
    have hnn := (H9.at 1 rfl).1
    have H10 := Hs.toStr H9 1 (e := 9) (n := (n4 + rn1)) (cap := cap1) (A := A1) (l := l) rfl
    obtain rfl := hvb.symm.trans (vB_n hrz hbr)
    subst hL0
    exact hK S1 (fun c => (Value.slice A1 (n4 + rn1) cap1).ownBlock = some c) A1 (n4 + rn1) cap1 _ H10 (by rw [strs, List.length_map, Nat.mul_one] at hnn; exact hnn.symm) hcp
  · skip
    obtain ⟨rA2, rn2, rc2, hsl2, hrn2, hst3⟩ := P_rw (m := pm1) (g := g) (H3.at 3 (it := rowsI pm1.S2 pm1.sl g.ops) (by kernel_rfl)) hol
    have H11 := bank_take (ty := 80) (T := R) (C := (rwC R g pm1)) (hs := [0]) H3 2 (by kernel_rfl) (n := r) (b := br) hbr (nz1 hrz) (rwC_eq hsl2 hnx (tl := none) rfl (b := false) rfl)
    refine Sx.l 7 0 H11 ?_
    have hst4 := P_rs (m := pm1) (g := g) (H11.at 4 (it := rowsI pm1.S2 pm1.sl g.ops) (by kernel_rfl)) hsl2 hol
    have hcc2 : n4 ≤ c4 := own_cap (H11.at 5 (it := .own 9 1 A4 c4 n4 (strs acc)) (by kernel_rfl))
    refine Sx.aps 0 5 16 rn2 9 1 30 rc2 rA2 A4 c4 n4 (strs acc) (strs lr) H11 (fun h => by have := hst4; rw [h] at this; rw [hrn2, this.nil]; rfl) (fun a ha => hst4.cell ha) (by rw [strs, List.length_map]; omega) (strs_one _) (by omega) (by omega) hcc2 (xs' := strs (acc ++ lr)) (strs_cat _ _) fun A2 cap2 w4 H12 => ?_
    refine Sx.l 9 0 H12 ?_
    refine Sx.c 13 [5] H12 (fun Hp2 R2 hR2 => Slv.Sort_p A2 cap2 (n4 + rn2) (acc ++ lr) w4 R2 Hp2 (by rw [List.length_append]; omega) (fun w5 G2 => hR2 _ _ _ G2 fun H13 => ?_))
    refine Sx.l 8 1 H13 ?_
    refine Sx.rt 13 [] H13 (.tuple #[.slice A2 (n4 + rn2) cap2, .pointer none]) ?_
    have H14 := bank_put (ty := 80) (T := R) (C := (rwC R g pm1)) (C' := (rwC R g pm1)) (hs := [0]) H13 [1, 1] (by kernel_rfl) (n := r) (b := br) hbr (nz1 hrz) (rwC_eq hsl2 hnx (tl := none) rfl (b := false) rfl) (fun _ _ _ => rfl)
    obtain ⟨S2, H15⟩ := P_close H14 [2, 2, 0, 1] (Z := Z) (T := T) (R := R) (g := g) pm1 hpm1 hzpm1 (by kernel_rfl)
    obtain ⟨he1, rfl⟩ := (hw2 rfl)
    have H16 := H15.pick (a := [PI S2 Z T R g, .own 9 1 A2 cap2 (n4 + rn2) (strs l)]) [0, 0] (by rw [← he1]; kernel_rfl)
    have hcp := own_cap (H16.at 1 rfl)
    have hnn := (H16.at 1 rfl).1
    have H17 := Hs.toStr H16 1 (e := 9) (n := (n4 + rn2)) (cap := cap2) (A := A2) (l := l) rfl
    obtain rfl := hvb.symm.trans vB_0
    subst hL0
    exact hK S2 (fun c => (Value.slice A2 (n4 + rn2) cap2).ownBlock = some c) A2 (n4 + rn2) cap2 _ H17 (by rw [strs, List.length_map, Nat.mul_one] at hnn; exact hnn.symm) hcp
  have hq2 := hpm1.kn _ _ hnx
  obtain ⟨bq, hbq⟩ := tb (T := R) (n := q + 1) (by rw [hpm1.lR]; exact hq2)
  obtain ⟨rA3, rn3, rc3, hsl3, hrn3, hst5⟩ := P_rw (m := pm1) (g := g) (H3.at 3 (it := rowsI pm1.S2 pm1.sl g.ops) (by kernel_rfl)) hol
  have H18 := bank_take (ty := 80) (T := R) (C := (rwC R g pm1)) (hs := [0]) H3 2 (by kernel_rfl) (n := r) (b := br) hbr (nz1 hrz) (rwC_eq hsl3 hnx (tl := some bq) (tl_q hbq) (b := false) rfl)
  refine Sx.l 7 0 H18 ?_
  have hst6 := P_rs (m := pm1) (g := g) (H18.at 4 (it := rowsI pm1.S2 pm1.sl g.ops) (by kernel_rfl)) hsl3 hol
  have hcc3 : n4 ≤ c4 := own_cap (H18.at 5 (it := .own 9 1 A4 c4 n4 (strs acc)) (by kernel_rfl))
  refine Sx.aps 0 5 16 rn3 9 1 30 rc3 rA3 A4 c4 n4 (strs acc) (strs lr) H18 (fun h => by have := hst6; rw [h] at this; rw [hrn3, this.nil]; rfl) (fun a ha => hst6.cell ha) (by rw [strs, List.length_map]; omega) (strs_one _) (by omega) (by omega) hcc3 (xs' := strs (acc ++ lr)) (strs_cat _ _) fun A3 cap3 w6 H19 => ?_
  refine Sx.l 9 0 H19 ?_
  refine Sx.l 10 0 H19 ?_
  have H20 := bank_put (ty := 80) (T := R) (C := (rwC R g pm1)) (C' := (rwC R g pm1)) (hs := [0]) H19 [0, 0] (by kernel_rfl) (n := r) (b := br) hbr (nz1 hrz) (rwC_eq hsl3 hnx (tl := some bq) (tl_q hbq) (b := false) rfl) (fun _ _ _ => rfl)
  have H21 := H20.pick (a := [bankI 78 T (ndC T R g pm1) [], kidsI pm1.S1 pm1.as (ksL T g), bankI 80 R (rwC R g pm1) [0], rowsI pm1.S2 pm1.sl g.ops, .own 9 1 A3 cap3 (n4 + rn3) (strs (acc ++ lr))]) [1, 1, 0, 0, 0] (by kernel_rfl)
  exact Sx.to 3 [(0, .pointer (some ⟨bq, 0, none⟩)), (4, .slice A3 (n4 + rn3) cap3)] (hK1 _ _ _ _ (by omega) ⟨k2, (q + 1), bq, A3, cap3, (n4 + rn3), (acc ++ lr), rfl, rfl, H21, hbq, (Nat.succ_ne_zero q), (hw3 q rfl), (by rw [List.length_append]; omega)⟩)
end Go.Proofs.Ytfkkocjheeoobaa
