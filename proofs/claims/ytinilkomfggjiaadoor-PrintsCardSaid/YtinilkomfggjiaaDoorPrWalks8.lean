/- The walks, written by a program of ours (wip/gx/gx.py, printgen.py). -/
import Derived.Test.YtinilkomfggjiaaDoorRows
import Derived.Test.YtinilkomfggjiaaDoorGs
import Derived.Test.YtinilkomfggjiaaDoorSynBuild
import Derived.Test.YtinilkomfggjiaaDoorSynWalks6
import Derived.Test.YtinilkomfggjiaaDoorWrWalks5
import Derived.Test.YtinilkomfggjiaaDoorPrWalks7
set_option linter.unusedVariables false
set_option linter.unusedSimpArgs false
namespace Go.Proofs.YtinilkomfggjiaaDoor
open Go.RowKit Go.Lex Go.Syn
open Go.Show (digB e0 dig_small dig_step app_e0 app_assoc)
attribute [local irreducible] Go.wpOps Go.Code.wp Go.wpOp Go.wpAnyH Go.Calls Go.Syn.J

theorem parse_f (s : ByteArray) (w : World) (K : Ending → World → Prop) (h0 : (parseP s).2.1 ≠ 0) (hK : ∀ w', Gx.Ext w w' → ∀ (t : Nd) (A : Option Addr) (c fk fa : Nat), fk ≠ 0 → K (.returned (.tuple #[.agg #[Z.n t.k, Z.n t.a, .string t.nm, .int .i64 t.n, .slice A t.ks.length c], .agg #[Z.n fk, Z.n fa]])) w') : Calls Tryd.prog 5 #[.string s] w K :=
  parse_c s w K (fun w' t A c fk fa e x _ => hK w' x t A c fk fa (by rw [e] at h0; exact h0))
theorem parse_g (s : ByteArray) (w : World) (K : Ending → World → Prop) (h0 : (parseP s).2.1 = 0)
    (hK : ∀ w', Gx.Ext w w' → ∀ (a : Nat) (nm : ByteArray) (n : Int) (L : List Nd) (m : Nat) (fs : List (ByteArray → ByteArray)) (A : Option Addr) (c : Nat) (As : Nat → Option Addr) (cs : Nat → Nat) (fa : Nat), Gx.Rd w' A L.length 5 (fun i => ndC (L.getD i nd0) (As i) (cs i)) → DL L fs → (∀ i, i < L.length → KV (In w.heap.size w'.heap.size []) w' (L.getD i nd0).ks (As i) (cs i)) → L.length = m + 1 → (∀ i, i < m → (L.getD i nd0).k = 1 ∨ (L.getD i nd0).k = 2) → 3 ≤ (L.getD m nd0).k → (pgF fs (⟨#[]⟩ : ByteArray)).size ≤ 400000000 → 0 < (pgF fs (⟨#[]⟩ : ByteArray)).size → K (.returned (.tuple #[.agg #[.int .i64 0, Z.n a, .string nm, .int .i64 n, .slice A L.length c], .agg #[.int .i64 0, Z.n fa]])) w') : Calls Tryd.prog 5 #[.string s] w K := by
  refine parse_c s w K (fun w' t A c fk fa e x kv => ?_)
  rw [e] at h0
  obtain rfl : fk = 0 := h0
  obtain ⟨hk, ds, d, fs, ek, h12, h3, hd, hz⟩ := parse_good e
  obtain ⟨k, a, nm, n, L⟩ := t
  obtain rfl : k = 0 := hk
  obtain ⟨As, cs, hr, hkk⟩ := kv.at_
  have hL : L = ds ++ [d] := ek
  have hlen : L.length = ds.length + 1 := by rw [hL, List.length_append]; rfl
  refine hK w' x a nm n L ds.length fs A c As cs fa hr hd hkk hlen (fun i hi => ?_) ?_ hz ?_
  · rw [hL, List.getD_eq_getElem?_getD, List.getElem?_append_left hi, ← List.getD_eq_getElem?_getD, List.getD_eq_getElem?_getD, List.getElem?_eq_getElem hi]
    exact h12 _ (List.getElem_mem hi)
  · rw [hL, List.getD_eq_getElem?_getD, List.getElem?_append_right (Nat.le_refl _), Nat.sub_self]
    exact h3
  · have q := pgF_len hd (⟨#[]⟩ : ByteArray) L.length (Nat.le_refl _)
    have hle : fs.length = L.length := hd.len
    rw [List.take_of_length_le (by omega)] at q
    omega
theorem tab_ext {w w' : World} (htab : Lib.TabBelow Tryd.prog w.heap.size w "internal/strconv.uint64pow10" .u64 Lib.pow10Tab) (x : Gx.Ext w w') : Lib.TabBelow Tryd.prog w'.heap.size w' "internal/strconv.uint64pow10" .u64 Lib.pow10Tab := Lib.tabBelow_of_tabIs (htab _ (Gx.Ext.below x))

set_option maxHeartbeats 400000 in
set_option maxRecDepth 10000 in
theorem Prints_0 (s : ByteArray) (w : World) (K : Ending → World → Prop) (htab : Lib.TabBelow Tryd.prog w.heap.size w "internal/strconv.uint64pow10" .u64 Lib.pow10Tab) (h0 : (parseP s).2.1 = 0) (hK : ∀ w', Gx.Ext w w' → K (.returned (.bool true)) w') :
    Calls Tryd.prog 3 #[.string s] w K := by
  refine Gx.enter 23 Tryd.func3 rfl rfl (Nat.le_of_ble_eq_true rfl) ?_
  refine Z.s [(2, .bool false)] ?_
  refine Z.r [0, 1, 2, 3, 4, 5, 6, 7, 8] ?_
  refine Z.p [0] [1, 2, 3, 4, 5, 6, 7, 8] [(7, .string s)] ?_
  refine Z.k (fun R hR => parse_g s _ R h0 (fun w1 x1 a nm n L m fs A c As cs fa hr hd hkk hm h12 h3 hsz hpos => hR _ _ ?_))
  have zw1 := x1.size
  refine Z.p [2, 3, 4] [5, 6, 7, 8] [(10, .agg #[.int .i64 0, Z.n fa]), (9, .agg #[.int .i64 0, Z.n a, .string nm, .int .i64 n, .slice A L.length c]), (6, .tuple #[.agg #[.int .i64 0, Z.n a, .string nm, .int .i64 n, .slice A L.length c], .agg #[.int .i64 0, Z.n fa]])] ?_
  refine Z.N (.cells #[.int .i64 0, .int .i64 0, .string (⟨#[]⟩ : ByteArray), .int .i64 0, .slice none 0 0] 24) (fun k1 w2 l1 x2 b1 zw2 tb1 => ?_)
  refine Z.N (.cells #[.int .i64 0, .int .i64 0] 27) (fun k2 w3 l2 x3 b2 zw3 tb2 => ?_)
  refine Z.Sa #[.int .i64 0, Z.n a, .string nm, .int .i64 n, .slice A L.length c] (b1.ext x3) (fun w4 u1 b3 zw4 => ?_)
  refine Z.Sa #[.int .i64 0, Z.n fa] (b2.upd1 u1) (fun w5 u2 b4 zw5 => ?_)
  refine Z.e (wp_seq (Z.r [0, 1, 2] ?_))
  refine Z.p [0] [1, 2] [(11, Z.P k2 0)] ?_
  refine Z.L 0 (.int .i64 0) b4 ?_
  refine Z.p [2] [] [(13, .bool false)] ?_
  refine Z.e (Z.cf ?_)
  refine wp_skip (Z.x (Z.r [0, 1, 2] ?_))
  refine Z.L 0 (.agg #[.int .i64 0, Z.n a, .string nm, .int .i64 n, .slice A L.length c]) (b3.upd1 u2) ?_
  refine Z.N (.cells #[.int .i64 0, .int .i64 0, .string (⟨#[]⟩ : ByteArray), .int .i64 0, .slice none 0 0] 24) (fun k3 w6 l3 x4 b5 zw6 tb5 => ?_)
  refine Z.Sa #[.int .i64 0, Z.n a, .string nm, .int .i64 n, .slice A L.length c] b5 (fun w7 u3 b6 zw7 => ?_)
  refine Z.e (wp_seq (Z.D (fun w' => Gx.Has w' k1 (.cells #[.int .i64 0, Z.n a, .string nm, .int .i64 n, .slice A L.length c] 24) ∧ Gx.Has w' k3 (.cells #[.int .i64 0, Z.n a, .string nm, .int .i64 n, .slice A L.length c] 24)) (fun w8 x5 zw8 => ?_)))
  refine Z.h ⟨((((b3.upd1 u2).ext x4).upd1 u3).ext x5), (b6.ext x5)⟩ (fun hS1 => ?_)
  refine Z.tl 0 0 (.agg #[.int .i64 0, Z.n a, .string nm, .int .i64 n, .slice A L.length c]) (fun _ hs => hs.1) hS1 ?_
  refine Z.tl 2 0 (.agg #[.int .i64 0, Z.n a, .string nm, .int .i64 n, .slice A L.length c]) (fun _ hs => hs.2) hS1 ?_
  refine Z.o 1 (fun R hR => Print_c _ a nm n L m fs A c As cs _ R (Gx.Rd.ext hr (by decide) ((((((((Gx.Ext.refl w1).trans x2).trans x3).upd1 u1).upd1 u2).trans x4).upd1 u3).trans x5)) hd (fun i hi => (hkk i hi).ext ((((((((Gx.Ext.refl w1).trans x2).trans x3).upd1 u1).upd1 u2).trans x4).upd1 u3).trans x5)) (tab_ext htab (((((((((Gx.Ext.refl w).trans x1).trans x2).trans x3).upd1 u1).upd1 u2).trans x4).upd1 u3).trans x5)) hm h12 h3 hsz hpos (fun w9 x6 => hR _ _ ⟨⟨(((((b3.upd1 u2).ext x4).upd1 u3).ext x5).ext x6), ((b6.ext x5).ext x6)⟩, fun hS2 => ?_⟩))
  have zw9 := x6.size
  refine Z.o 3 (fun R hR => Write_0 w1 _ a nm n L fs A c As cs _ R (((((((((Gx.Ext.refl w1).trans x2).trans x3).upd1 u1).upd1 u2).trans x4).upd1 u3).trans x5).trans x6) hr hd hkk hsz (fun w10 x7 => hR _ _ ⟨⟨((((((b3.upd1 u2).ext x4).upd1 u3).ext x5).ext x6).ext x7), (((b6.ext x5).ext x6).ext x7)⟩, fun hS3 => ?_⟩))
  have zw10 := x7.size
  refine Z.t 4 (.bool ((pgF fs (⟨#[]⟩ : ByteArray)).toList == (pgF fs (⟨#[]⟩ : ByteArray)).toList)) hS3 ?_
  refine Z.t 5 (.bool ((pgF fs (⟨#[]⟩ : ByteArray)).toList == (pgF fs (⟨#[]⟩ : ByteArray)).toList)) hS3 ?_
  refine Z.q ?_
  refine Z.x (wp_ret (Z.v (.bool ((pgF fs (⟨#[]⟩ : ByteArray)).toList == (pgF fs (⟨#[]⟩ : ByteArray)).toList)) ?_))
  exact Gx.ret_as (v' := .bool true) (by simp) (hK _ (((((((((((Gx.Ext.refl w).trans x1).trans x2).trans x3).upd1 u1).upd1 u2).trans x4).upd1 u3).trans x5).trans x6).trans x7))

set_option maxHeartbeats 400000 in
set_option maxRecDepth 10000 in
theorem Prints_1 (s : ByteArray) (w : World) (K : Ending → World → Prop) (htab : Lib.TabBelow Tryd.prog w.heap.size w "internal/strconv.uint64pow10" .u64 Lib.pow10Tab) (h0 : (parseP s).2.1 ≠ 0) (hK : ∀ w', Gx.Ext w w' → K (.returned (.bool true)) w') :
    Calls Tryd.prog 3 #[.string s] w K := by
  refine Gx.enter 23 Tryd.func3 rfl rfl (Nat.le_of_ble_eq_true rfl) ?_
  refine Z.s [(2, .bool false)] ?_
  refine Z.r [0, 1, 2, 3, 4, 5, 6, 7, 8] ?_
  refine Z.p [0] [1, 2, 3, 4, 5, 6, 7, 8] [(7, .string s)] ?_
  refine Z.k (fun R hR => parse_f s _ R h0 (fun w1 x1 t A c fk fa hf => hR _ _ ?_))
  have zw1 := x1.size
  refine Z.p [2, 3, 4] [5, 6, 7, 8] [(10, .agg #[Z.n fk, Z.n fa]), (9, .agg #[Z.n t.k, Z.n t.a, .string t.nm, .int .i64 t.n, .slice A t.ks.length c]), (6, .tuple #[.agg #[Z.n t.k, Z.n t.a, .string t.nm, .int .i64 t.n, .slice A t.ks.length c], .agg #[Z.n fk, Z.n fa]])] ?_
  refine Z.N (.cells #[.int .i64 0, .int .i64 0, .string (⟨#[]⟩ : ByteArray), .int .i64 0, .slice none 0 0] 24) (fun k1 w2 l1 x2 b1 zw2 tb1 => ?_)
  refine Z.N (.cells #[.int .i64 0, .int .i64 0] 27) (fun k2 w3 l2 x3 b2 zw3 tb2 => ?_)
  refine Z.Sa #[Z.n t.k, Z.n t.a, .string t.nm, .int .i64 t.n, .slice A t.ks.length c] (b1.ext x3) (fun w4 u1 b3 zw4 => ?_)
  refine Z.Sa #[Z.n fk, Z.n fa] (b2.upd1 u1) (fun w5 u2 b4 zw5 => ?_)
  refine Z.e (wp_seq (Z.r [0, 1, 2] ?_))
  refine Z.p [0] [1, 2] [(11, Z.P k2 0)] ?_
  refine Z.L 0 (Z.n fk) b4 ?_
  refine Z.p [2] [] [(13, .bool (((fk : Nat) : Int) != (0 : Int)))] ?_
  refine Z.e (Z.c (((fk : Nat) : Int) != (0 : Int)) (fun h_c13 => ?_) (fun h_c13 => ?_))
  · skip
    have p_c13 := h_c13; try simp [-List.getD_eq_getElem?_getD] at p_c13
    refine Z.g [0, 1, 2, 3] ?_
    refine Z.p [0] [1, 2, 3] [(14, .agg #[.int .i64 5, .int .i64 0, .string (⟨#[]⟩ : ByteArray), .int .i64 0, .slice none 0 0])] ?_
    refine Z.R (.cells #[.int .i64 5, .int .i64 0, .string (⟨#[]⟩ : ByteArray), .int .i64 0, .slice none 0 0] 24) 1 1 (fun k3 w6 l3 x4 b5 zw6 tb5 => ?_)
    refine Z.p [2] [3] [(16, .agg #[.int .i64 0, .int .i64 0, .string (⟨#[]⟩ : ByteArray), .int .i64 0, .slice (some ⟨k3, 0, none⟩) 1 1])] ?_
    refine Z.Sa #[.int .i64 0, .int .i64 0, .string (⟨#[]⟩ : ByteArray), .int .i64 0, .slice (some ⟨k3, 0, none⟩) 1 1] ((b3.upd1 u2).ext x4) (fun w7 u3 b6 zw7 => ?_)
    refine Gx.ops_nil (Z.x ?_)
    have kvu : KV (In 0 w7.heap.size []) w7 [(Nd.mk 5 0 (⟨#[]⟩ : ByteArray) 0 [])] (some ⟨k3, 0, none⟩) 1 := KV.of_row [((Nd.mk 5 0 (⟨#[]⟩ : ByteArray) 0 []), none, 0)] (n := 5) (b5.upd1 u3) rfl ⟨Nat.zero_le _, by omega, by simp⟩ (by intro p hp; simp only [List.mem_singleton] at hp; subst hp; exact KV.nil)
    obtain ⟨As, cs, hr, hkk⟩ := kvu.at_
    have hd : DL [(Nd.mk 5 0 (⟨#[]⟩ : ByteArray) 0 [])] [fun s => (s ++ (⟨#[109, 97, 105, 110, 32, 61, 32]⟩ : ByteArray)) ++ (⟨#[40, 32, 41]⟩ : ByteArray)] := .cons (.main _ _ (by decide) (.eunit 0 (⟨#[]⟩ : ByteArray) 0)) .nil
    have hm : [(Nd.mk 5 0 (⟨#[]⟩ : ByteArray) 0 [])].length = 0 + 1 := rfl
    have h12 : ∀ i, i < 0 → ([(Nd.mk 5 0 (⟨#[]⟩ : ByteArray) 0 [])].getD i nd0).k = 1 ∨ ([(Nd.mk 5 0 (⟨#[]⟩ : ByteArray) 0 [])].getD i nd0).k = 2 := fun i hi => absurd hi (Nat.not_lt_zero i)
    have h3 : 3 ≤ ([(Nd.mk 5 0 (⟨#[]⟩ : ByteArray) 0 [])].getD 0 nd0).k := by show 3 ≤ 5; omega
    have hsz : (pgF [fun s => (s ++ (⟨#[109, 97, 105, 110, 32, 61, 32]⟩ : ByteArray)) ++ (⟨#[40, 32, 41]⟩ : ByteArray)] (⟨#[]⟩ : ByteArray)).size ≤ 400000000 := by show 10 ≤ 400000000; omega
    have hpos : 0 < (pgF [fun s => (s ++ (⟨#[109, 97, 105, 110, 32, 61, 32]⟩ : ByteArray)) ++ (⟨#[40, 32, 41]⟩ : ByteArray)] (⟨#[]⟩ : ByteArray)).size := by show 0 < 10; omega
    refine Z.r [0, 1, 2] ?_
    refine Z.L 0 (.agg #[.int .i64 0, .int .i64 0, .string (⟨#[]⟩ : ByteArray), .int .i64 0, .slice (some ⟨k3, 0, none⟩) 1 1]) b6 ?_
    refine Z.N (.cells #[.int .i64 0, .int .i64 0, .string (⟨#[]⟩ : ByteArray), .int .i64 0, .slice none 0 0] 24) (fun k4 w8 l4 x5 b7 zw8 tb7 => ?_)
    refine Z.Sa #[.int .i64 0, .int .i64 0, .string (⟨#[]⟩ : ByteArray), .int .i64 0, .slice (some ⟨k3, 0, none⟩) 1 1] b7 (fun w9 u4 b8 zw9 => ?_)
    refine Z.e (wp_seq (Z.D (fun w' => Gx.Has w' k1 (.cells #[.int .i64 0, .int .i64 0, .string (⟨#[]⟩ : ByteArray), .int .i64 0, .slice (some ⟨k3, 0, none⟩) 1 1] 24) ∧ Gx.Has w' k4 (.cells #[.int .i64 0, .int .i64 0, .string (⟨#[]⟩ : ByteArray), .int .i64 0, .slice (some ⟨k3, 0, none⟩) 1 1] 24)) (fun w10 x6 zw10 => ?_)))
    refine Z.h ⟨(((b6.ext x5).upd1 u4).ext x6), (b8.ext x6)⟩ (fun hS1 => ?_)
    refine Z.tl 0 0 (.agg #[.int .i64 0, .int .i64 0, .string (⟨#[]⟩ : ByteArray), .int .i64 0, .slice (some ⟨k3, 0, none⟩) 1 1]) (fun _ hs => hs.1) hS1 ?_
    refine Z.tl 2 0 (.agg #[.int .i64 0, .int .i64 0, .string (⟨#[]⟩ : ByteArray), .int .i64 0, .slice (some ⟨k3, 0, none⟩) 1 1]) (fun _ hs => hs.2) hS1 ?_
    refine Z.o 1 (fun R hR => Print_c _ 0 (⟨#[]⟩ : ByteArray) 0 [(Nd.mk 5 0 (⟨#[]⟩ : ByteArray) 0 [])] 0 [fun s => (s ++ (⟨#[109, 97, 105, 110, 32, 61, 32]⟩ : ByteArray)) ++ (⟨#[40, 32, 41]⟩ : ByteArray)] (some ⟨k3, 0, none⟩) 1 As cs _ R (Gx.Rd.ext hr (by decide) ((((Gx.Ext.refl w7).trans x5).upd1 u4).trans x6)) hd (fun i hi => (hkk i hi).ext ((((Gx.Ext.refl w7).trans x5).upd1 u4).trans x6)) (tab_ext htab (((((((((((Gx.Ext.refl w).trans x1).trans x2).trans x3).upd1 u1).upd1 u2).trans x4).upd1 u3).trans x5).upd1 u4).trans x6)) hm h12 h3 hsz hpos (fun w11 x7 => hR _ _ ⟨⟨((((b6.ext x5).upd1 u4).ext x6).ext x7), ((b8.ext x6).ext x7)⟩, fun hS2 => ?_⟩))
    have zw11 := x7.size
    refine Z.o 3 (fun R hR => Write_0 w7 _ 0 (⟨#[]⟩ : ByteArray) 0 [(Nd.mk 5 0 (⟨#[]⟩ : ByteArray) 0 [])] [fun s => (s ++ (⟨#[109, 97, 105, 110, 32, 61, 32]⟩ : ByteArray)) ++ (⟨#[40, 32, 41]⟩ : ByteArray)] (some ⟨k3, 0, none⟩) 1 As cs _ R (((((Gx.Ext.refl w7).trans x5).upd1 u4).trans x6).trans x7) hr hd hkk hsz (fun w12 x8 => hR _ _ ⟨⟨(((((b6.ext x5).upd1 u4).ext x6).ext x7).ext x8), (((b8.ext x6).ext x7).ext x8)⟩, fun hS3 => ?_⟩))
    have zw12 := x8.size
    refine Z.t 4 (.bool ((pgF [fun s => (s ++ (⟨#[109, 97, 105, 110, 32, 61, 32]⟩ : ByteArray)) ++ (⟨#[40, 32, 41]⟩ : ByteArray)] (⟨#[]⟩ : ByteArray)).toList == (pgF [fun s => (s ++ (⟨#[109, 97, 105, 110, 32, 61, 32]⟩ : ByteArray)) ++ (⟨#[40, 32, 41]⟩ : ByteArray)] (⟨#[]⟩ : ByteArray)).toList)) hS3 ?_
    refine Z.t 5 (.bool ((pgF [fun s => (s ++ (⟨#[109, 97, 105, 110, 32, 61, 32]⟩ : ByteArray)) ++ (⟨#[40, 32, 41]⟩ : ByteArray)] (⟨#[]⟩ : ByteArray)).toList == (pgF [fun s => (s ++ (⟨#[109, 97, 105, 110, 32, 61, 32]⟩ : ByteArray)) ++ (⟨#[40, 32, 41]⟩ : ByteArray)] (⟨#[]⟩ : ByteArray)).toList)) hS3 ?_
    refine Z.q ?_
    refine Z.x (wp_ret (Z.v (.bool ((pgF [fun s => (s ++ (⟨#[109, 97, 105, 110, 32, 61, 32]⟩ : ByteArray)) ++ (⟨#[40, 32, 41]⟩ : ByteArray)] (⟨#[]⟩ : ByteArray)).toList == (pgF [fun s => (s ++ (⟨#[109, 97, 105, 110, 32, 61, 32]⟩ : ByteArray)) ++ (⟨#[40, 32, 41]⟩ : ByteArray)] (⟨#[]⟩ : ByteArray)).toList)) ?_))
    exact Gx.ret_as (v' := .bool true) (by simp) (hK _ (((((((((((((Gx.Ext.refl w).trans x1).trans x2).trans x3).upd1 u1).upd1 u2).trans x4).upd1 u3).trans x5).upd1 u4).trans x6).trans x7).trans x8))
  have p_c13 := h_c13; try simp [-List.getD_eq_getElem?_getD] at p_c13
  exact absurd (by simpa using h_c13) hf


theorem Prints_c (s : ByteArray) (w : World) (K : Ending → World → Prop) (htab : Lib.TabBelow Tryd.prog w.heap.size w "internal/strconv.uint64pow10" .u64 Lib.pow10Tab) (hK : ∀ w', Gx.Ext w w' → K (.returned (.bool true)) w') : Calls Tryd.prog 3 #[.string s] w K := by
  by_cases h0 : (parseP s).2.1 = 0
  · exact Prints_0 s w K htab h0 hK
  · exact Prints_1 s w K htab h0 hK

end Go.Proofs.YtinilkomfggjiaaDoor
