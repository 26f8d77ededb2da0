/- The walks, written by a program of ours (wip/gx/gx.py, writegen.py). -/
import Derived.Test.YtinilkomfggjiaaDoorRows
import Derived.Test.YtinilkomfggjiaaDoorGs
import Derived.Test.YtinilkomfggjiaaDoorSynWr
import Derived.Test.YtinilkomfggjiaaDoorWrWalks4
set_option linter.unusedVariables false
set_option linter.unusedSimpArgs false
namespace Go.Proofs.YtinilkomfggjiaaDoor
open Go.RowKit Go.Lex Go.Syn
open Go.Show (digB e0 dig_small dig_step app_e0 app_assoc)
attribute [local irreducible] Go.wpOps Go.Code.wp Go.wpOp Go.wpAnyH Go.Calls

theorem wr_ok {w0 : World} {Q : Nat → Prop} {t : Nd} {s : ByteArray} (h : Wr t s) : ∀ (A : Option Addr) (c : Nat), s.size ≤ 400000000 → KV Q w0 t.ks A c → WOK w0 t A c s := by
  induction h with
  | eint a nm n   h1 h2 =>
    intro A c hz hk w K hE hK
    exact Write_3 w0 a nm n A c (fun _ => none) (fun _ => 0) w K hE ⟨h1, h2⟩ hz hK
  | ebool a nm n   =>
    intro A c hz hk w K hE hK
    exact Write_4 w0 a nm n A c (fun _ => none) (fun _ => 0) w K hE hz hK
  | eunit a nm n   =>
    intro A c hz hk w K hE hK
    exact Write_5 w0 a nm n A c (fun _ => none) (fun _ => 0) w K hE hz hK
  | evar a nm n   h1 =>
    intro A c hz hk w K hE hK
    exact Write_6 w0 a nm n A c (fun _ => none) (fun _ => 0) w K hE hz hK
  | efn a nm n x sx hn wx ix =>
    intro A c hz hk w K hE hK
    obtain ⟨As, cs, hr, hkk⟩ := hk.at_
    have hq := hz
    (try simp only [ByteArray.size_append] at hq)
    exact Write_7 w0 a nm n x A c As cs sx w K hE hr (ix (As 0) (cs 0) (by omega) (hkk 0 (by simp [Nd.ks]))) hz hK
  | eapp a nm n x y sx sy wx wy ix iy =>
    intro A c hz hk w K hE hK
    obtain ⟨As, cs, hr, hkk⟩ := hk.at_
    have hq := hz
    (try simp only [ByteArray.size_append] at hq)
    have qx := inT_le 6 x sx
    have qy := inT_le 6 y sy
    have q8 : sx.size ≤ (if x.k = 8 then sx else inT 6 x sx).size := by split <;> omega
    exact Write_8 w0 a nm n x y A c As cs sx sy w K hE hr (ix (As 0) (cs 0) (by omega) (hkk 0 (by simp [Nd.ks]))) (iy (As 1) (cs 1) (by omega) (hkk 1 (by simp [Nd.ks]))) hz hK
  | elet0 a nm x y sx sy hn wx wy ix iy =>
    intro A c hz hk w K hE hK
    obtain ⟨As, cs, hr, hkk⟩ := hk.at_
    have hq := hz
    (try simp only [ByteArray.size_append] at hq)
    exact Write_9 w0 a nm x y A c As cs sx sy w K hE hr (ix (As 0) (cs 0) (by omega) (hkk 0 (by simp [Nd.ks]))) (iy (As 1) (cs 1) (by omega) (hkk 1 (by simp [Nd.ks]))) hz hK
  | elet1 a nm fa fx fm x y sx sy hn hf wx wy ix iy =>
    intro A c hz hk w K hE hK
    obtain ⟨As, cs, hr, hkk⟩ := hk.at_
    obtain ⟨Bs, ds, hr0, hk0⟩ := (hkk 0 (by simp [Nd.ks])).at_
    have hq := hz
    simp only [ByteArray.size_append] at hq
    exact Write_9r w0 a nm A c As cs fa fx fm x y sx sy Bs ds w K hE hr hr0 (ix (Bs 0) (ds 0) (by omega) (hk0 0 Nat.zero_lt_one)) (iy (As 1) (cs 1) (by omega) (hkk 1 (by simp [Nd.ks]))) hz hK
  | eseq a nm n x y sx sy wx wy ix iy =>
    intro A c hz hk w K hE hK
    obtain ⟨As, cs, hr, hkk⟩ := hk.at_
    have hq := hz
    (try simp only [ByteArray.size_append] at hq)
    have qx := inT_le 1 x sx
    exact Write_10 w0 a nm n x y A c As cs sx sy w K hE hr (ix (As 0) (cs 0) (by omega) (hkk 0 (by simp [Nd.ks]))) (iy (As 1) (cs 1) (by omega) (hkk 1 (by simp [Nd.ks]))) hz hK
  | eif a nm n x y z sx sy sz wx wy wz ix iy iz =>
    intro A c hz hk w K hE hK
    obtain ⟨As, cs, hr, hkk⟩ := hk.at_
    have hq := hz
    (try simp only [ByteArray.size_append] at hq)
    exact Write_11 w0 a nm n x y z A c As cs sx sy sz w K hE hr (ix (As 0) (cs 0) (by omega) (hkk 0 (by simp [Nd.ks]))) (iy (As 1) (cs 1) (by omega) (hkk 1 (by simp [Nd.ks]))) (iz (As 2) (cs 2) (by omega) (hkk 2 (by simp [Nd.ks]))) hz hK
  | epair a nm n x y sx sy wx wy ix iy =>
    intro A c hz hk w K hE hK
    obtain ⟨As, cs, hr, hkk⟩ := hk.at_
    have hq := hz
    (try simp only [ByteArray.size_append] at hq)
    exact Write_12 w0 a nm n x y A c As cs sx sy w K hE hr (ix (As 0) (cs 0) (by omega) (hkk 0 (by simp [Nd.ks]))) (iy (As 1) (cs 1) (by omega) (hkk 1 (by simp [Nd.ks]))) hz hK
  | efst a nm n x sx wx ix =>
    intro A c hz hk w K hE hK
    obtain ⟨As, cs, hr, hkk⟩ := hk.at_
    have hq := hz
    (try simp only [ByteArray.size_append] at hq)
    have qx := inT_le 6 x sx
    exact Write_13 w0 a nm n x A c As cs sx w K hE hr (ix (As 0) (cs 0) (by omega) (hkk 0 (by simp [Nd.ks]))) hz hK
  | esnd a nm n x sx wx ix =>
    intro A c hz hk w K hE hK
    obtain ⟨As, cs, hr, hkk⟩ := hk.at_
    have hq := hz
    (try simp only [ByteArray.size_append] at hq)
    have qx := inT_le 6 x sx
    exact Write_14 w0 a nm n x A c As cs sx w K hE hr (ix (As 0) (cs 0) (by omega) (hkk 0 (by simp [Nd.ks]))) hz hK
  | enil a nm n   =>
    intro A c hz hk w K hE hK
    exact Write_15 w0 a nm n A c (fun _ => none) (fun _ => 0) w K hE hz hK
  | econs a nm n x y sx sy wx wy ix iy =>
    intro A c hz hk w K hE hK
    obtain ⟨As, cs, hr, hkk⟩ := hk.at_
    have hq := hz
    (try simp only [ByteArray.size_append] at hq)
    have qx := inT_le 3 x sx
    have qy := inT_le 2 y sy
    exact Write_16 w0 a nm n x y A c As cs sx sy w K hE hr (ix (As 0) (cs 0) (by omega) (hkk 0 (by simp [Nd.ks]))) (iy (As 1) (cs 1) (by omega) (hkk 1 (by simp [Nd.ks]))) hz hK
  | ecase a nm n x y u v z sx sy sz hu hv wx wy wz ix iy iz =>
    intro A c hz hk w K hE hK
    obtain ⟨As, cs, hr, hkk⟩ := hk.at_
    have hq := hz
    simp only [ByteArray.size_append] at hq
    exact Write_17 w0 a nm n A c As cs x y u v z sx sy sz w K hE hr (ix (As 0) (cs 0) (by omega) (hkk 0 (by simp [Nd.ks]))) (iy (As 1) (cs 1) (by omega) (hkk 1 (by simp [Nd.ks]))) (iz (As 4) (cs 4) (by omega) (hkk 4 (by simp [Nd.ks]))) hz hK
  | eop a nm n x y sx sy hn wx wy ix iy =>
    intro A c hz hk w K hE hK
    obtain ⟨As, cs, hr, hkk⟩ := hk.at_
    by_cases h1 : nm = (⟨#[61, 61]⟩ : ByteArray) ∨ nm = (⟨#[60]⟩ : ByteArray)
    · have e : opT nm x y sx sy = (((inT 2 x sx ++ (⟨#[32]⟩ : ByteArray)) ++ nm) ++ (⟨#[32]⟩ : ByteArray)) ++ inT 2 y sy := by unfold opT; rw [if_pos h1]
      rw [e] at hz hK
      have hq := hz
      simp only [ByteArray.size_append] at hq
      have q1 := inT_le 2 x sx
      have q2 := inT_le 2 y sy
      exact Write_18_1 w0 a nm n x y A c As cs sx sy w K hE hr (ix (As 0) (cs 0) (by omega) (hkk 0 (by simp [Nd.ks]))) (iy (As 1) (cs 1) (by omega) (hkk 1 (by simp [Nd.ks]))) (by rw [lvl_op, if_pos h1]) hz hK
    · by_cases h2 : nm = (⟨#[42]⟩ : ByteArray)
      · have e : opT nm x y sx sy = (((inT 4 x sx ++ (⟨#[32]⟩ : ByteArray)) ++ nm) ++ (⟨#[32]⟩ : ByteArray)) ++ inT 5 y sy := by unfold opT; rw [if_neg h1, if_pos h2]
        rw [e] at hz hK
        have hq := hz
        simp only [ByteArray.size_append] at hq
        have q1 := inT_le 4 x sx
        have q2 := inT_le 5 y sy
        exact Write_18_4 w0 a nm n x y A c As cs sx sy w K hE hr (ix (As 0) (cs 0) (by omega) (hkk 0 (by simp [Nd.ks]))) (iy (As 1) (cs 1) (by omega) (hkk 1 (by simp [Nd.ks]))) (by rw [lvl_op, if_neg h1, if_pos h2]) hz hK
      · have e : opT nm x y sx sy = (((inT 3 x sx ++ (⟨#[32]⟩ : ByteArray)) ++ nm) ++ (⟨#[32]⟩ : ByteArray)) ++ inT 4 y sy := by unfold opT; rw [if_neg h1, if_neg h2]
        rw [e] at hz hK
        have hq := hz
        simp only [ByteArray.size_append] at hq
        have q1 := inT_le 3 x sx
        have q2 := inT_le 4 y sy
        exact Write_18_3 w0 a nm n x y A c As cs sx sy w K hE hr (ix (As 0) (cs 0) (by omega) (hkk 0 (by simp [Nd.ks]))) (iy (As 1) (cs 1) (by omega) (hkk 1 (by simp [Nd.ks]))) (by rw [lvl_op, if_neg h1, if_neg h2]) hz hK
  | edo a nm n x sx hn wx ix =>
    intro A c hz hk w K hE hK
    obtain ⟨As, cs, hr, hkk⟩ := hk.at_
    have hq := hz
    (try simp only [ByteArray.size_append] at hq)
    have qx := inT_le 6 x sx
    exact Write_19 w0 a nm n x A c As cs sx w K hE hr (ix (As 0) (cs 0) (by omega) (hkk 0 (by simp [Nd.ks]))) hz hK
  | ehandle a nm n x r sx sb ds ss hn hrn hrk hl hc wx wr whs ix ir ihs =>
    intro A c hz hk w K hE hK
    obtain ⟨As, cs, hr, hkk⟩ := hk.at_
    obtain ⟨Bs, bs, hr1, hk1⟩ := (hkk 1 (by simp [Nd.ks])).at_
    have hq := hz
    rw [ByteArray.size_append] at hq
    have hg := clT_grow ds ss ((((((if n = 1 then (⟨#[115, 104, 97, 108, 108, 111, 119, 32]⟩ : ByteArray) else (⟨#[104, 97, 110, 100, 108, 101, 32]⟩ : ByteArray)) ++ sx) ++ (⟨#[32, 119, 105, 116, 104, 32, 123, 32, 114, 101, 116, 117, 114, 110, 32]⟩ : ByteArray)) ++ r.nm) ++ (⟨#[32, 61, 62, 32]⟩ : ByteArray)) ++ sb)
    simp only [ByteArray.size_append] at hg
    refine Write_20 w0 a nm n x r ds ss A c As cs sx sb Bs bs w K hE hr hrk hr1 (ix (As 0) (cs 0) (by omega) (hkk 0 (by simp [Nd.ks]))) (ir (Bs 0) (bs 0) (by omega) (hk1 0 (by show 0 < r.ks.length; omega))) hl (fun j hj => ?_) hz hK
    obtain ⟨Ds, es, hr2, hk2⟩ := (hkk (j + 2) (by simp [Nd.ks]; omega)).at_
    have q := clT_le' ds ss ((((((if n = 1 then (⟨#[115, 104, 97, 108, 108, 111, 119, 32]⟩ : ByteArray) else (⟨#[104, 97, 110, 100, 108, 101, 32]⟩ : ByteArray)) ++ sx) ++ (⟨#[32, 119, 105, 116, 104, 32, 123, 32, 114, 101, 116, 117, 114, 110, 32]⟩ : ByteArray)) ++ r.nm) ++ (⟨#[32, 61, 62, 32]⟩ : ByteArray)) ++ sb) j hl hj
    unfold cl1 at q
    simp only [ByteArray.size_append] at q
    exact ⟨(hc j hj).1, Ds, es, hr2, ihs j hj (Ds 2) (es 2) (by omega) (hk2 2 (by show 2 < (ds.getD j nd0).ks.length; rw [(hc j hj).1]; omega))⟩
  | tint a nm n   =>
    intro A c hz hk w K hE hK
    exact Write_24 w0 a nm n A c (fun _ => none) (fun _ => 0) w K hE hz hK
  | tbool a nm n   =>
    intro A c hz hk w K hE hK
    exact Write_25 w0 a nm n A c (fun _ => none) (fun _ => 0) w K hE hz hK
  | tunit a nm n   =>
    intro A c hz hk w K hE hK
    exact Write_26 w0 a nm n A c (fun _ => none) (fun _ => 0) w K hE hz hK
  | tlist a nm n x sx wx ix =>
    intro A c hz hk w K hE hK
    obtain ⟨As, cs, hr, hkk⟩ := hk.at_
    have hq := hz
    (try simp only [ByteArray.size_append] at hq)
    have qx := inT_le 2 x sx
    exact Write_27 w0 a nm n x A c As cs sx w K hE hr (ix (As 0) (cs 0) (by omega) (hkk 0 (by simp [Nd.ks]))) hz hK
  | tpair a nm n x y sx sy wx wy ix iy =>
    intro A c hz hk w K hE hK
    obtain ⟨As, cs, hr, hkk⟩ := hk.at_
    have hq := hz
    (try simp only [ByteArray.size_append] at hq)
    have qx := inT_le 2 x sx
    have qy := inT_le 1 y sy
    exact Write_28 w0 a nm n x y A c As cs sx sy w K hE hr (ix (As 0) (cs 0) (by omega) (hkk 0 (by simp [Nd.ks]))) (iy (As 1) (cs 1) (by omega) (hkk 1 (by simp [Nd.ks]))) hz hK
  | tfn a nm n x y sx sy ps hp wx wy ix iy =>
    intro A c hz hk w K hE hK
    obtain ⟨As, cs, hr, hkk⟩ := hk.at_
    have hq := hz
    simp only [ByteArray.size_append] at hq
    have q1 := inT_le 1 x sx
    have q2 := arL_len ps hp ps.length (Nat.le_refl _)
    have q3 := arrT_bd ps
    exact Write_29 w0 a nm n x y ps A c As cs sx sy w K hE hr (ix (As 0) (cs 0) (by omega) (hkk 0 (by simp [Nd.ks]))) (iy (As 1) (cs 1) (by omega) (hkk 1 (by simp [Nd.ks]))) (by omega) hz hK

set_option maxHeartbeats 1000000 in
set_option maxRecDepth 10000 in
theorem progW_c (w0 : World) (Q : Nat → Prop) (k a : Nat) (nm : ByteArray) (n : Int) (L : List Nd) (fs : List (ByteArray → ByteArray)) (A : Option Addr) (c : Nat) (As : Nat → Option Addr) (cs : Nat → Nat) (w : World) (K : Ending → World → Prop) (hE : Gx.Ext w0 w) (hr : Gx.Rd w0 A L.length 5 (fun i => ndC (L.getD i nd0) (As i) (cs i))) (hd : DL L fs) (hkk : ∀ i, i < L.length → KV Q w0 (L.getD i nd0).ks (As i) (cs i)) (hsz : (pgF fs (⟨#[]⟩ : ByteArray)).size ≤ 400000000) (hK : ∀ w', Gx.Ext w w' → K (.returned (.string (pgF fs (⟨#[]⟩ : ByteArray)))) w') :
    Calls Tryd.prog 18 #[.agg #[Z.n k, Z.n a, .string nm, .int .i64 n, .slice A L.length c]] w K := by
  refine Gx.enter 72 Tryd.func18 rfl rfl (Nat.le_of_ble_eq_true rfl) ?_
  have hlen := pgF_len hd (⟨#[]⟩ : ByteArray) L.length (Nat.le_refl _); rw [List.take_of_length_le (by rw [hd.len]; exact Nat.le_refl _)] at hlen
  refine Z.r [0, 1] ?_
  refine Z.N (.cells #[Z.n k, Z.n a, .string nm, .int .i64 n, .slice A L.length c] 24) (fun k1 w1 l1 x1 b1 zw1 tb1 => ?_)
  refine Z.p [1] [] [(2, .string (⟨#[]⟩ : ByteArray))] ?_
  refine Z.e (Z.s [(3, .string (⟨#[]⟩ : ByteArray))] ?_)
  refine wp_seq (Z.s [(4, .int .i64 0)] ?_)
  refine wp_block (Gx.loop (n' := 72) (d' := []) (fun mz l' w' => ∃ (i : Nat), l' = [(1, Z.P k1 0), (3, .string (pgF (fs.take i) (⟨#[]⟩ : ByteArray))), (4, Z.n i)] ∧ mz = L.length - i ∧ Gx.Ext w w' ∧ Gx.Has w' k1 (.cells #[Z.n k, Z.n a, .string nm, .int .i64 n, .slice A L.length c] 24) ∧ (i ≤ L.length)) _ _ [(1, Z.P k1 0), (3, .string (pgF (fs.take 0) (⟨#[]⟩ : ByteArray))), (4, Z.n 0)] (Gx.forget [(1, Z.P k1 0), (3, .string (pgF (fs.take 0) (⟨#[]⟩ : ByteArray))), (4, Z.n 0)] (by kernel_rfl)) ⟨0, rfl, rfl, ((Gx.Ext.refl w).trans x1), b1, (Nat.zero_le _)⟩ (fun bb1 m1 ll1 w2 hI1 K1 hK1 => ?_))
  obtain ⟨i, rfl, rfl, x2, b2, hi⟩ := hI1
  have zw2 := x2.size
  have tb2 := b2.lt
  have g1 := pgF_le hd (⟨#[]⟩ : ByteArray) i
  refine wp_seq (Z.r [0, 1, 2, 3, 4] ?_)
  refine Z.p [0, 1] [2, 3, 4] [(8, Z.P k1 4), (7, Z.n i)] ?_
  refine Z.L 4 (.slice A L.length c) b2 ?_
  refine Z.p [3, 4] [] [(11, .bool (decide (((i : Nat) : Int) < ((L.length : Nat) : Int)))), (10, Z.n L.length)] ?_
  refine Z.e (Z.c (decide (((i : Nat) : Int) < ((L.length : Nat) : Int))) (fun h_c11 => ?_) (fun h_c11 => ?_))
  · skip
    have p_c11 := of_decide_eq_true h_c11
    refine wp_skip (Z.x (wp_seq (wp_block ?_)))
    obtain ⟨Bs, bs, hr2, hk2⟩ := (hkk i (by omega)).at_
    have hdi := hd.at_ i (by omega)
    have q := pgF_le' hd (⟨#[]⟩ : ByteArray) i (by omega)
    have ps := pgF_succ fs (⟨#[]⟩ : ByteArray) i (by rw [hd.len]; omega)
    refine Z.r [0, 1, 2, 3, 4, 5, 6] ?_
    refine Z.p [0] [1, 2, 3, 4, 5, 6] [(14, Z.P k1 4)] ?_
    refine Z.L 4 (.slice A L.length c) b2 ?_
    refine Z.p [2] [3, 4, 5, 6] [(16, Z.n i)] ?_
    obtain ⟨a1, ha1, hc1⟩ := (Gx.Rd.ext hr (by decide) hE) i (by omega)
    refine Z.I 24 5 ha1 L.length c i ?_
    refine Z.La [.int .i64 (((L.getD i nd0).k : Nat) : Int), .int .i64 (((L.getD i nd0).a : Nat) : Int), .string ((L.getD i nd0).nm), .int .i64 ((L.getD i nd0).n), .slice (As i) ((L.getD i nd0).ks.length) (cs i)] 5 hc1 ((Gx.Ext.refl w).trans x2) ?_
    refine Z.N (.cells #[.int .i64 0, .int .i64 0, .string (⟨#[]⟩ : ByteArray), .int .i64 0, .slice none 0 0] 24) (fun k2 w3 l2 x3 b3 zw3 tb3 => ?_)
    refine Z.Sa #[.int .i64 (((L.getD i nd0).k : Nat) : Int), .int .i64 (((L.getD i nd0).a : Nat) : Int), .string ((L.getD i nd0).nm), .int .i64 ((L.getD i nd0).n), .slice (As i) ((L.getD i nd0).ks.length) (cs i)] b3 (fun w4 u1 b4 zw4 => ?_)
    refine Z.e (Z.r [0, 1] ?_)
    refine Z.p [0] [1] [(19, Z.P k2 0)] ?_
    refine Z.L 0 (.int .i64 (((L.getD i nd0).k : Nat) : Int)) b4 ?_
    refine Z.e (wp_block (Z.s [(26, .bool ((((L.getD i nd0).k : Nat) : Int) == (1 : Int))), (27, .bool ((((L.getD i nd0).k : Nat) : Int) == (1 : Int)))] ?_))
    refine Z.c ((((L.getD i nd0).k : Nat) : Int) == (1 : Int)) (fun h_c26 => ?_) (fun h_c26 => ?_)
    · skip
      have n_c26 : (L.getD i nd0).k = 1 := by have z := Gx.k1 h_c26; omega
      obtain ⟨sx, sy, hl2, hn2, hm2, wx, wy, ef⟩ := hdi.op_inv (by omega)
      rw [ef] at q ps; (try simp only [ByteArray.size_append, lz0, lz1, lz2, lz3, lz4, lz5, lz7] at q)
      refine Z.s [(6, .string (⟨#[109, 97, 110, 121, 32]⟩ : ByteArray))] ?_
      refine wp_seq (Z.r [0, 1, 2] ?_)
      refine Z.p [0] [1, 2] [(28, Z.P k2 3)] ?_
      refine Z.L 3 (.int .i64 ((L.getD i nd0).n)) b4 ?_
      refine Z.p [2] [] [(30, .bool ((L.getD i nd0).n == (1 : Int)))] ?_
      refine Z.e (Z.c ((L.getD i nd0).n == (1 : Int)) (fun h_c30 => ?_) (fun h_c30 => ?_))
      · skip
        have p_c30 := Gx.k1 h_c30
        rw [if_pos (by simpa using h_c30)] at q ps
        refine Z.u [(6, .string (⟨#[111, 110, 99, 101, 32]⟩ : ByteArray))] ?_
        refine Z.x (Z.D (fun w' => Gx.Has w' k2 (.cells #[.int .i64 (((L.getD i nd0).k : Nat) : Int), .int .i64 (((L.getD i nd0).a : Nat) : Int), .string ((L.getD i nd0).nm), .int .i64 ((L.getD i nd0).n), .slice (As i) ((L.getD i nd0).ks.length) (cs i)] 24) ∧ Gx.Ext w w') (fun w5 x4 zw5 => ?_))
        refine Z.h ⟨(b4.ext x4), (((((Gx.Ext.refl w).trans x2).trans x3).upd1 u1).trans x4)⟩ (fun hS1 => ?_)
        refine Z.t 0 (.string (pgF (fs.take i) (⟨#[]⟩ : ByteArray))) hS1 ?_
        refine Z.tc 1 (pgF (fs.take i) (⟨#[]⟩ : ByteArray)) (⟨#[111, 112, 32]⟩ : ByteArray) hS1 ?_
        refine Z.t 2 (.string (⟨#[111, 110, 99, 101, 32]⟩ : ByteArray)) hS1 ?_
        refine Z.tc 3 ((pgF (fs.take i) (⟨#[]⟩ : ByteArray)) ++ (⟨#[111, 112, 32]⟩ : ByteArray)) (⟨#[111, 110, 99, 101, 32]⟩ : ByteArray) hS1 ?_
        refine Z.t 4 (Z.P k2 2) hS1 ?_
        refine Z.tl 5 2 (.string ((L.getD i nd0).nm)) (fun _ hs => hs.1) hS1 ?_
        refine Z.tc 6 (((pgF (fs.take i) (⟨#[]⟩ : ByteArray)) ++ (⟨#[111, 112, 32]⟩ : ByteArray)) ++ (⟨#[111, 110, 99, 101, 32]⟩ : ByteArray)) ((L.getD i nd0).nm) hS1 ?_
        refine Z.tc 7 ((((pgF (fs.take i) (⟨#[]⟩ : ByteArray)) ++ (⟨#[111, 112, 32]⟩ : ByteArray)) ++ (⟨#[111, 110, 99, 101, 32]⟩ : ByteArray)) ++ ((L.getD i nd0).nm)) (⟨#[32, 58, 32]⟩ : ByteArray) hS1 ?_
        refine Z.t 8 (Z.P k2 4) hS1 ?_
        refine Z.tl 9 4 (.slice (As i) ((L.getD i nd0).ks.length) (cs i)) (fun _ hs => hs.1) hS1 ?_
        obtain ⟨a2, ha2, hc2⟩ := (Gx.Rd.ext hr2 (by decide) hE) 0 (by omega)
        refine Z.ti 10 24 5 ha2 ((L.getD i nd0).ks.length) (cs i) 0 hS1 ?_
        refine Z.ta 11 [.int .i64 ((((L.getD i nd0).ks.getD 0 nd0).k : Nat) : Int), .int .i64 ((((L.getD i nd0).ks.getD 0 nd0).a : Nat) : Int), .string (((L.getD i nd0).ks.getD 0 nd0).nm), .int .i64 (((L.getD i nd0).ks.getD 0 nd0).n), .slice (Bs 0) (((L.getD i nd0).ks.getD 0 nd0).ks.length) (bs 0)] 5 hc2 (fun _ hs => hs.2) hS1 ?_
        refine Z.t 15 (Z.P k2 4) hS1 ?_
        refine Z.tl 16 4 (.slice (As i) ((L.getD i nd0).ks.length) (cs i)) (fun _ hs => hs.1) hS1 ?_
        obtain ⟨a3, ha3, hc3⟩ := (Gx.Rd.ext hr2 (by decide) hE) 1 (by omega)
        refine Z.ti 17 24 5 ha3 ((L.getD i nd0).ks.length) (cs i) 1 hS1 ?_
        refine Z.ta 18 [.int .i64 ((((L.getD i nd0).ks.getD 1 nd0).k : Nat) : Int), .int .i64 ((((L.getD i nd0).ks.getD 1 nd0).a : Nat) : Int), .string (((L.getD i nd0).ks.getD 1 nd0).nm), .int .i64 (((L.getD i nd0).ks.getD 1 nd0).n), .slice (Bs 1) (((L.getD i nd0).ks.getD 1 nd0).ks.length) (bs 1)] 5 hc3 (fun _ hs => hs.2) hS1 ?_
        refine Z.o 12 (fun R hR => (wr_ok wx (Bs 0) (bs 0) (by omega) (hk2 0 (by omega))) _ R (Gx.Ext.trans hE (((((Gx.Ext.refl w).trans x2).trans x3).upd1 u1).trans x4)) (fun w6 x5 => hR _ _ ⟨⟨((b4.ext x4).ext x5), ((((((Gx.Ext.refl w).trans x2).trans x3).upd1 u1).trans x4).trans x5)⟩, fun hS2 => ?_⟩))
        have zw6 := x5.size
        refine Z.tc 13 (((((pgF (fs.take i) (⟨#[]⟩ : ByteArray)) ++ (⟨#[111, 112, 32]⟩ : ByteArray)) ++ (⟨#[111, 110, 99, 101, 32]⟩ : ByteArray)) ++ ((L.getD i nd0).nm)) ++ (⟨#[32, 58, 32]⟩ : ByteArray)) sx hS2 ?_
        refine Z.tc 14 ((((((pgF (fs.take i) (⟨#[]⟩ : ByteArray)) ++ (⟨#[111, 112, 32]⟩ : ByteArray)) ++ (⟨#[111, 110, 99, 101, 32]⟩ : ByteArray)) ++ ((L.getD i nd0).nm)) ++ (⟨#[32, 58, 32]⟩ : ByteArray)) ++ sx) (⟨#[32, 61, 62, 32]⟩ : ByteArray) hS2 ?_
        refine Z.o 19 (fun R hR => (wr_ok wy (Bs 1) (bs 1) (by omega) (hk2 1 (by omega))) _ R (Gx.Ext.trans hE ((((((Gx.Ext.refl w).trans x2).trans x3).upd1 u1).trans x4).trans x5)) (fun w7 x6 => hR _ _ ⟨⟨(((b4.ext x4).ext x5).ext x6), (((((((Gx.Ext.refl w).trans x2).trans x3).upd1 u1).trans x4).trans x5).trans x6)⟩, fun hS3 => ?_⟩))
        have zw7 := x6.size
        refine Z.tc 20 (((((((pgF (fs.take i) (⟨#[]⟩ : ByteArray)) ++ (⟨#[111, 112, 32]⟩ : ByteArray)) ++ (⟨#[111, 110, 99, 101, 32]⟩ : ByteArray)) ++ ((L.getD i nd0).nm)) ++ (⟨#[32, 58, 32]⟩ : ByteArray)) ++ sx) ++ (⟨#[32, 61, 62, 32]⟩ : ByteArray)) sy hS3 ?_
        refine Z.tc 21 ((((((((pgF (fs.take i) (⟨#[]⟩ : ByteArray)) ++ (⟨#[111, 112, 32]⟩ : ByteArray)) ++ (⟨#[111, 110, 99, 101, 32]⟩ : ByteArray)) ++ ((L.getD i nd0).nm)) ++ (⟨#[32, 58, 32]⟩ : ByteArray)) ++ sx) ++ (⟨#[32, 61, 62, 32]⟩ : ByteArray)) ++ sy) (⟨#[32]⟩ : ByteArray) hS3 ?_
        refine Z.t 22 (.string (((((((((pgF (fs.take i) (⟨#[]⟩ : ByteArray)) ++ (⟨#[111, 112, 32]⟩ : ByteArray)) ++ (⟨#[111, 110, 99, 101, 32]⟩ : ByteArray)) ++ ((L.getD i nd0).nm)) ++ (⟨#[32, 58, 32]⟩ : ByteArray)) ++ sx) ++ (⟨#[32, 61, 62, 32]⟩ : ByteArray)) ++ sy) ++ (⟨#[32]⟩ : ByteArray))) hS3 ?_
        refine Z.q ?_
        refine Gx.block_normal (Gx.block_normal (Z.x (Z.g [0, 1, 2] ?_)))
        refine Z.p [0] [1, 2] [(12, Z.n i)] ?_
        refine Gx.pure_eq [1] [2] [(13, .int .i64 (IntKind.i64.wrap (((i : Nat) : Int) + (1 : Int))))] [(13, .int .i64 ((i + 1 : Nat) : Int))] rfl (by kernel_rfl) (Gx.eqI (Gx.i64n (by omega) (by omega))) ?_
        refine Z.p [2] [] [(4, .int .i64 ((i + 1 : Nat) : Int))] ?_
        refine Gx.ops_nil (Z.x ?_)
        rw [Gx.forget [(1, Z.P k1 0), (3, .string (pgF (fs.take (i + 1)) (⟨#[]⟩ : ByteArray))), (4, .int .i64 (((i + 1) : Nat) : Int))] (by rw [ps]; kernel_rfl)]
        exact hK1 _ _ _ _ (by omega) ⟨(i + 1), rfl, rfl, (((((((Gx.Ext.refl w).trans x2).trans x3).upd1 u1).trans x4).trans x5).trans x6), (((((b2.ext x3).upd1 u1).ext x4).ext x5).ext x6), (by omega)⟩
      have p_c30 := Gx.k0 h_c30
      rw [if_neg (by simpa using h_c30)] at q ps
      refine wp_skip (Z.x (Z.D (fun w' => Gx.Has w' k2 (.cells #[.int .i64 (((L.getD i nd0).k : Nat) : Int), .int .i64 (((L.getD i nd0).a : Nat) : Int), .string ((L.getD i nd0).nm), .int .i64 ((L.getD i nd0).n), .slice (As i) ((L.getD i nd0).ks.length) (cs i)] 24) ∧ Gx.Ext w w') (fun w8 x7 zw8 => ?_)))
      refine Z.h ⟨(b4.ext x7), (((((Gx.Ext.refl w).trans x2).trans x3).upd1 u1).trans x7)⟩ (fun hS4 => ?_)
      refine Z.t 0 (.string (pgF (fs.take i) (⟨#[]⟩ : ByteArray))) hS4 ?_
      refine Z.tc 1 (pgF (fs.take i) (⟨#[]⟩ : ByteArray)) (⟨#[111, 112, 32]⟩ : ByteArray) hS4 ?_
      refine Z.t 2 (.string (⟨#[109, 97, 110, 121, 32]⟩ : ByteArray)) hS4 ?_
      refine Z.tc 3 ((pgF (fs.take i) (⟨#[]⟩ : ByteArray)) ++ (⟨#[111, 112, 32]⟩ : ByteArray)) (⟨#[109, 97, 110, 121, 32]⟩ : ByteArray) hS4 ?_
      refine Z.t 4 (Z.P k2 2) hS4 ?_
      refine Z.tl 5 2 (.string ((L.getD i nd0).nm)) (fun _ hs => hs.1) hS4 ?_
      refine Z.tc 6 (((pgF (fs.take i) (⟨#[]⟩ : ByteArray)) ++ (⟨#[111, 112, 32]⟩ : ByteArray)) ++ (⟨#[109, 97, 110, 121, 32]⟩ : ByteArray)) ((L.getD i nd0).nm) hS4 ?_
      refine Z.tc 7 ((((pgF (fs.take i) (⟨#[]⟩ : ByteArray)) ++ (⟨#[111, 112, 32]⟩ : ByteArray)) ++ (⟨#[109, 97, 110, 121, 32]⟩ : ByteArray)) ++ ((L.getD i nd0).nm)) (⟨#[32, 58, 32]⟩ : ByteArray) hS4 ?_
      refine Z.t 8 (Z.P k2 4) hS4 ?_
      refine Z.tl 9 4 (.slice (As i) ((L.getD i nd0).ks.length) (cs i)) (fun _ hs => hs.1) hS4 ?_
      obtain ⟨a4, ha4, hc4⟩ := (Gx.Rd.ext hr2 (by decide) hE) 0 (by omega)
      refine Z.ti 10 24 5 ha4 ((L.getD i nd0).ks.length) (cs i) 0 hS4 ?_
      refine Z.ta 11 [.int .i64 ((((L.getD i nd0).ks.getD 0 nd0).k : Nat) : Int), .int .i64 ((((L.getD i nd0).ks.getD 0 nd0).a : Nat) : Int), .string (((L.getD i nd0).ks.getD 0 nd0).nm), .int .i64 (((L.getD i nd0).ks.getD 0 nd0).n), .slice (Bs 0) (((L.getD i nd0).ks.getD 0 nd0).ks.length) (bs 0)] 5 hc4 (fun _ hs => hs.2) hS4 ?_
      refine Z.t 15 (Z.P k2 4) hS4 ?_
      refine Z.tl 16 4 (.slice (As i) ((L.getD i nd0).ks.length) (cs i)) (fun _ hs => hs.1) hS4 ?_
      obtain ⟨a5, ha5, hc5⟩ := (Gx.Rd.ext hr2 (by decide) hE) 1 (by omega)
      refine Z.ti 17 24 5 ha5 ((L.getD i nd0).ks.length) (cs i) 1 hS4 ?_
      refine Z.ta 18 [.int .i64 ((((L.getD i nd0).ks.getD 1 nd0).k : Nat) : Int), .int .i64 ((((L.getD i nd0).ks.getD 1 nd0).a : Nat) : Int), .string (((L.getD i nd0).ks.getD 1 nd0).nm), .int .i64 (((L.getD i nd0).ks.getD 1 nd0).n), .slice (Bs 1) (((L.getD i nd0).ks.getD 1 nd0).ks.length) (bs 1)] 5 hc5 (fun _ hs => hs.2) hS4 ?_
      refine Z.o 12 (fun R hR => (wr_ok wx (Bs 0) (bs 0) (by omega) (hk2 0 (by omega))) _ R (Gx.Ext.trans hE (((((Gx.Ext.refl w).trans x2).trans x3).upd1 u1).trans x7)) (fun w9 x8 => hR _ _ ⟨⟨((b4.ext x7).ext x8), ((((((Gx.Ext.refl w).trans x2).trans x3).upd1 u1).trans x7).trans x8)⟩, fun hS5 => ?_⟩))
      have zw9 := x8.size
      refine Z.tc 13 (((((pgF (fs.take i) (⟨#[]⟩ : ByteArray)) ++ (⟨#[111, 112, 32]⟩ : ByteArray)) ++ (⟨#[109, 97, 110, 121, 32]⟩ : ByteArray)) ++ ((L.getD i nd0).nm)) ++ (⟨#[32, 58, 32]⟩ : ByteArray)) sx hS5 ?_
      refine Z.tc 14 ((((((pgF (fs.take i) (⟨#[]⟩ : ByteArray)) ++ (⟨#[111, 112, 32]⟩ : ByteArray)) ++ (⟨#[109, 97, 110, 121, 32]⟩ : ByteArray)) ++ ((L.getD i nd0).nm)) ++ (⟨#[32, 58, 32]⟩ : ByteArray)) ++ sx) (⟨#[32, 61, 62, 32]⟩ : ByteArray) hS5 ?_
      refine Z.o 19 (fun R hR => (wr_ok wy (Bs 1) (bs 1) (by omega) (hk2 1 (by omega))) _ R (Gx.Ext.trans hE ((((((Gx.Ext.refl w).trans x2).trans x3).upd1 u1).trans x7).trans x8)) (fun w10 x9 => hR _ _ ⟨⟨(((b4.ext x7).ext x8).ext x9), (((((((Gx.Ext.refl w).trans x2).trans x3).upd1 u1).trans x7).trans x8).trans x9)⟩, fun hS6 => ?_⟩))
      have zw10 := x9.size
      refine Z.tc 20 (((((((pgF (fs.take i) (⟨#[]⟩ : ByteArray)) ++ (⟨#[111, 112, 32]⟩ : ByteArray)) ++ (⟨#[109, 97, 110, 121, 32]⟩ : ByteArray)) ++ ((L.getD i nd0).nm)) ++ (⟨#[32, 58, 32]⟩ : ByteArray)) ++ sx) ++ (⟨#[32, 61, 62, 32]⟩ : ByteArray)) sy hS6 ?_
      refine Z.tc 21 ((((((((pgF (fs.take i) (⟨#[]⟩ : ByteArray)) ++ (⟨#[111, 112, 32]⟩ : ByteArray)) ++ (⟨#[109, 97, 110, 121, 32]⟩ : ByteArray)) ++ ((L.getD i nd0).nm)) ++ (⟨#[32, 58, 32]⟩ : ByteArray)) ++ sx) ++ (⟨#[32, 61, 62, 32]⟩ : ByteArray)) ++ sy) (⟨#[32]⟩ : ByteArray) hS6 ?_
      refine Z.t 22 (.string (((((((((pgF (fs.take i) (⟨#[]⟩ : ByteArray)) ++ (⟨#[111, 112, 32]⟩ : ByteArray)) ++ (⟨#[109, 97, 110, 121, 32]⟩ : ByteArray)) ++ ((L.getD i nd0).nm)) ++ (⟨#[32, 58, 32]⟩ : ByteArray)) ++ sx) ++ (⟨#[32, 61, 62, 32]⟩ : ByteArray)) ++ sy) ++ (⟨#[32]⟩ : ByteArray))) hS6 ?_
      refine Z.q ?_
      refine Gx.block_normal (Gx.block_normal (Z.x (Z.g [0, 1, 2] ?_)))
      refine Z.p [0] [1, 2] [(12, Z.n i)] ?_
      refine Gx.pure_eq [1] [2] [(13, .int .i64 (IntKind.i64.wrap (((i : Nat) : Int) + (1 : Int))))] [(13, .int .i64 ((i + 1 : Nat) : Int))] rfl (by kernel_rfl) (Gx.eqI (Gx.i64n (by omega) (by omega))) ?_
      refine Z.p [2] [] [(4, .int .i64 ((i + 1 : Nat) : Int))] ?_
      refine Gx.ops_nil (Z.x ?_)
      rw [Gx.forget [(1, Z.P k1 0), (3, .string (pgF (fs.take (i + 1)) (⟨#[]⟩ : ByteArray))), (4, .int .i64 (((i + 1) : Nat) : Int))] (by rw [ps]; kernel_rfl)]
      exact hK1 _ _ _ _ (by omega) ⟨(i + 1), rfl, rfl, (((((((Gx.Ext.refl w).trans x2).trans x3).upd1 u1).trans x7).trans x8).trans x9), (((((b2.ext x3).upd1 u1).ext x7).ext x8).ext x9), (by omega)⟩
    have n_c26 : ¬ (L.getD i nd0).k = 1 := by have z := Gx.k0 h_c26; omega
    refine Z.s [(53, .bool ((((L.getD i nd0).k : Nat) : Int) == (2 : Int))), (54, .bool ((((L.getD i nd0).k : Nat) : Int) == (2 : Int)))] ?_
    refine Z.c ((((L.getD i nd0).k : Nat) : Int) == (2 : Int)) (fun h_c53 => ?_) (fun h_c53 => ?_)
    · skip
      have n_c53 : (L.getD i nd0).k = 2 := by have z := Gx.k1 h_c53; omega
      obtain ⟨fa, fx, fm, x, sx, hl1, he, hm2, hx2, wx, ef⟩ := hdi.df_inv (by omega)
      rw [ef] at q ps; (try simp only [ByteArray.size_append, lz0, lz1, lz2, lz3, lz4, lz5, lz7] at q)
      have hk3 := hk2 0 (by omega)
      obtain ⟨Es, es, hr3, hk4⟩ := hk3.at_
      have hk5 : KV Q w0 x.ks (Es 0) (es 0) := by have := hk4 0 (by rw [he]; exact Nat.zero_lt_one); rw [he] at this; exact this
      refine Z.D (fun w' => Gx.Has w' k2 (.cells #[.int .i64 (((L.getD i nd0).k : Nat) : Int), .int .i64 (((L.getD i nd0).a : Nat) : Int), .string ((L.getD i nd0).nm), .int .i64 ((L.getD i nd0).n), .slice (As i) ((L.getD i nd0).ks.length) (cs i)] 24) ∧ Gx.Ext w w') (fun w11 x10 zw11 => ?_)
      refine Z.h ⟨(b4.ext x10), (((((Gx.Ext.refl w).trans x2).trans x3).upd1 u1).trans x10)⟩ (fun hS7 => ?_)
      refine Z.t 0 (.string (pgF (fs.take i) (⟨#[]⟩ : ByteArray))) hS7 ?_
      refine Z.tc 1 (pgF (fs.take i) (⟨#[]⟩ : ByteArray)) (⟨#[100, 101, 102, 32]⟩ : ByteArray) hS7 ?_
      refine Z.tl 2 0 (.agg #[.int .i64 (((L.getD i nd0).k : Nat) : Int), .int .i64 (((L.getD i nd0).a : Nat) : Int), .string ((L.getD i nd0).nm), .int .i64 ((L.getD i nd0).n), .slice (As i) ((L.getD i nd0).ks.length) (cs i)]) (fun _ hs => hs.1) hS7 ?_
      refine Z.t 5 (Z.P k2 2) hS7 ?_
      refine Z.tl 6 2 (.string ((L.getD i nd0).nm)) (fun _ hs => hs.1) hS7 ?_
      refine Z.t 9 (Z.P k2 4) hS7 ?_
      refine Z.tl 10 4 (.slice (As i) ((L.getD i nd0).ks.length) (cs i)) (fun _ hs => hs.1) hS7 ?_
      obtain ⟨a6, ha6, hc6⟩ := (Gx.Rd.ext hr2 (by decide) hE) 0 (by omega)
      refine Z.ti 11 24 5 ha6 ((L.getD i nd0).ks.length) (cs i) 0 hS7 ?_
      refine Z.ta 12 [.int .i64 ((((L.getD i nd0).ks.getD 0 nd0).k : Nat) : Int), .int .i64 ((((L.getD i nd0).ks.getD 0 nd0).a : Nat) : Int), .string (((L.getD i nd0).ks.getD 0 nd0).nm), .int .i64 (((L.getD i nd0).ks.getD 0 nd0).n), .slice (Bs 0) (((L.getD i nd0).ks.getD 0 nd0).ks.length) (bs 0)] 5 hc6 (fun _ hs => hs.2) hS7 ?_
      refine Z.o 3 (fun R hR => rec_c (L.getD i nd0).k (L.getD i nd0).a (L.getD i nd0).nm (L.getD i nd0).n (As i) (L.getD i nd0).ks.length (cs i)  _ R  (fun w12 x11  => hR _ _ ⟨⟨((b4.ext x10).ext x11), ((((((Gx.Ext.refl w).trans x2).trans x3).upd1 u1).trans x10).trans x11)⟩, fun hS8 => ?_⟩))
      have zw12 := x11.size
      refine Z.tc 4 ((pgF (fs.take i) (⟨#[]⟩ : ByteArray)) ++ (⟨#[100, 101, 102, 32]⟩ : ByteArray)) (if (L.getD i nd0).n = 1 then (⟨#[114, 101, 99, 32]⟩ : ByteArray) else (⟨#[]⟩ : ByteArray)) hS8 ?_ (by (try simp only [zap, zli, List.length]); have h9 : (if (L.getD i nd0).n = 1 then (⟨#[114, 101, 99, 32]⟩ : ByteArray) else (⟨#[]⟩ : ByteArray)).size ≤ 4 := (by split <;> decide); omega)
      refine Z.tc 7 (((pgF (fs.take i) (⟨#[]⟩ : ByteArray)) ++ (⟨#[100, 101, 102, 32]⟩ : ByteArray)) ++ (if (L.getD i nd0).n = 1 then (⟨#[114, 101, 99, 32]⟩ : ByteArray) else (⟨#[]⟩ : ByteArray))) ((L.getD i nd0).nm) hS8 ?_ (by (try simp only [zap, zli, List.length]); have h9 : (if (L.getD i nd0).n = 1 then (⟨#[114, 101, 99, 32]⟩ : ByteArray) else (⟨#[]⟩ : ByteArray)).size ≤ 4 := (by split <;> decide); omega)
      refine Z.tc 8 ((((pgF (fs.take i) (⟨#[]⟩ : ByteArray)) ++ (⟨#[100, 101, 102, 32]⟩ : ByteArray)) ++ (if (L.getD i nd0).n = 1 then (⟨#[114, 101, 99, 32]⟩ : ByteArray) else (⟨#[]⟩ : ByteArray))) ++ ((L.getD i nd0).nm)) (⟨#[32]⟩ : ByteArray) hS8 ?_ (by (try simp only [zap, zli, List.length]); have h9 : (if (L.getD i nd0).n = 1 then (⟨#[114, 101, 99, 32]⟩ : ByteArray) else (⟨#[]⟩ : ByteArray)).size ≤ 4 := (by split <;> decide); omega)
      refine Z.o 13 (fun R hR => (fun w K x' k => def_k w0 _ fa fx fm x sx (Bs 0) (bs 0) Es es he w K x' hr3 (wr_ok wx (Es 0) (es 0) (by omega) hk5) (by simp only [zap, zli, List.length]; omega) k) _ R (Gx.Ext.trans hE ((((((Gx.Ext.refl w).trans x2).trans x3).upd1 u1).trans x10).trans x11)) (fun w13 x12 => hR _ _ ⟨⟨(((b4.ext x10).ext x11).ext x12), (((((((Gx.Ext.refl w).trans x2).trans x3).upd1 u1).trans x10).trans x11).trans x12)⟩, fun hS9 => ?_⟩))
      have zw13 := x12.size
      refine Z.tc 14 (((((pgF (fs.take i) (⟨#[]⟩ : ByteArray)) ++ (⟨#[100, 101, 102, 32]⟩ : ByteArray)) ++ (if (L.getD i nd0).n = 1 then (⟨#[114, 101, 99, 32]⟩ : ByteArray) else (⟨#[]⟩ : ByteArray))) ++ ((L.getD i nd0).nm)) ++ (⟨#[32]⟩ : ByteArray)) ((fx ++ (⟨#[32, 61, 32]⟩ : ByteArray)) ++ sx) hS9 ?_ (by (try simp only [zap, zli, List.length]); have h9 : (if (L.getD i nd0).n = 1 then (⟨#[114, 101, 99, 32]⟩ : ByteArray) else (⟨#[]⟩ : ByteArray)).size ≤ 4 := (by split <;> decide); omega)
      refine Z.tc 15 ((((((pgF (fs.take i) (⟨#[]⟩ : ByteArray)) ++ (⟨#[100, 101, 102, 32]⟩ : ByteArray)) ++ (if (L.getD i nd0).n = 1 then (⟨#[114, 101, 99, 32]⟩ : ByteArray) else (⟨#[]⟩ : ByteArray))) ++ ((L.getD i nd0).nm)) ++ (⟨#[32]⟩ : ByteArray)) ++ ((fx ++ (⟨#[32, 61, 32]⟩ : ByteArray)) ++ sx)) (⟨#[32]⟩ : ByteArray) hS9 ?_ (by (try simp only [zap, zli, List.length]); have h9 : (if (L.getD i nd0).n = 1 then (⟨#[114, 101, 99, 32]⟩ : ByteArray) else (⟨#[]⟩ : ByteArray)).size ≤ 4 := (by split <;> decide); omega)
      refine Z.t 16 (.string (((((((pgF (fs.take i) (⟨#[]⟩ : ByteArray)) ++ (⟨#[100, 101, 102, 32]⟩ : ByteArray)) ++ (if (L.getD i nd0).n = 1 then (⟨#[114, 101, 99, 32]⟩ : ByteArray) else (⟨#[]⟩ : ByteArray))) ++ ((L.getD i nd0).nm)) ++ (⟨#[32]⟩ : ByteArray)) ++ ((fx ++ (⟨#[32, 61, 32]⟩ : ByteArray)) ++ sx)) ++ (⟨#[32]⟩ : ByteArray))) hS9 ?_
      refine Z.q ?_
      refine Gx.block_normal (Gx.block_normal (Z.x (Z.g [0, 1, 2] ?_)))
      refine Z.p [0] [1, 2] [(12, Z.n i)] ?_
      refine Gx.pure_eq [1] [2] [(13, .int .i64 (IntKind.i64.wrap (((i : Nat) : Int) + (1 : Int))))] [(13, .int .i64 ((i + 1 : Nat) : Int))] rfl (by kernel_rfl) (Gx.eqI (Gx.i64n (by omega) (by omega))) ?_
      refine Z.p [2] [] [(4, .int .i64 ((i + 1 : Nat) : Int))] ?_
      refine Gx.ops_nil (Z.x ?_)
      rw [Gx.forget [(1, Z.P k1 0), (3, .string (pgF (fs.take (i + 1)) (⟨#[]⟩ : ByteArray))), (4, .int .i64 (((i + 1) : Nat) : Int))] (by rw [ps]; kernel_rfl)]
      exact hK1 _ _ _ _ (by omega) ⟨(i + 1), rfl, rfl, (((((((Gx.Ext.refl w).trans x2).trans x3).upd1 u1).trans x10).trans x11).trans x12), (((((b2.ext x3).upd1 u1).ext x10).ext x11).ext x12), (by omega)⟩
    have n_c53 : ¬ (L.getD i nd0).k = 2 := by have z := Gx.k0 h_c53; omega
    obtain ⟨hk3, sx, wx, ef⟩ := hdi.main_inv (by omega) (by omega)
    rw [ef] at q ps; (try simp only [ByteArray.size_append, lz0, lz1, lz2, lz3, lz4, lz5, lz7] at q)
    refine Z.g [0, 1, 2, 3, 4, 5] ?_
    refine Z.p [0] [1, 2, 3, 4, 5] [(21, .string (pgF (fs.take i) (⟨#[]⟩ : ByteArray)))] ?_
    refine Z.C (pgF (fs.take i) (⟨#[]⟩ : ByteArray)) (⟨#[109, 97, 105, 110, 32, 61, 32]⟩ : ByteArray) ?_
    refine Z.L 0 (.agg #[.int .i64 (((L.getD i nd0).k : Nat) : Int), .int .i64 (((L.getD i nd0).a : Nat) : Int), .string ((L.getD i nd0).nm), .int .i64 ((L.getD i nd0).n), .slice (As i) ((L.getD i nd0).ks.length) (cs i)]) b4 ?_
    refine Z.k (fun R hR => (wr_ok wx (As i) (cs i) (by omega) (hkk i (by omega))) _ R (Gx.Ext.trans hE ((((Gx.Ext.refl w).trans x2).trans x3).upd1 u1)) (fun w14 x13 => hR _ _ ?_))
    have zw14 := x13.size
    refine Z.C ((pgF (fs.take i) (⟨#[]⟩ : ByteArray)) ++ (⟨#[109, 97, 105, 110, 32, 61, 32]⟩ : ByteArray)) sx ?_
    refine Z.p [5] [] [(3, .string (((pgF (fs.take i) (⟨#[]⟩ : ByteArray)) ++ (⟨#[109, 97, 105, 110, 32, 61, 32]⟩ : ByteArray)) ++ sx))] ?_
    refine Gx.ops_nil (Gx.block_normal (Gx.block_normal (Z.x (Z.g [0, 1, 2] ?_))))
    refine Z.p [0] [1, 2] [(12, Z.n i)] ?_
    refine Gx.pure_eq [1] [2] [(13, .int .i64 (IntKind.i64.wrap (((i : Nat) : Int) + (1 : Int))))] [(13, .int .i64 ((i + 1 : Nat) : Int))] rfl (by kernel_rfl) (Gx.eqI (Gx.i64n (by omega) (by omega))) ?_
    refine Z.p [2] [] [(4, .int .i64 ((i + 1 : Nat) : Int))] ?_
    refine Gx.ops_nil (Z.x ?_)
    rw [Gx.forget [(1, Z.P k1 0), (3, .string (pgF (fs.take (i + 1)) (⟨#[]⟩ : ByteArray))), (4, .int .i64 (((i + 1) : Nat) : Int))] (by rw [ps]; kernel_rfl)]
    exact hK1 _ _ _ _ (by omega) ⟨(i + 1), rfl, rfl, (((((Gx.Ext.refl w).trans x2).trans x3).upd1 u1).trans x13), (((b2.ext x3).upd1 u1).ext x13), (by omega)⟩
  have p_c11 := of_decide_eq_false h_c11
  refine wp_exit (Gx.then_exit (Gx.then_exit (Gx.block_exit (Z.x ?_))))
  obtain rfl : i = L.length := by omega
  rw [List.take_of_length_le (by rw [hd.len]; exact Nat.le_refl _)]
  refine Z.s [(2, .string (pgF fs (⟨#[]⟩ : ByteArray))), (71, .string (pgF fs (⟨#[]⟩ : ByteArray)))] ?_
  refine wp_ret (Z.v (.string (pgF fs (⟨#[]⟩ : ByteArray))) ?_)
  exact Gx.ret_as rfl (hK _ ((Gx.Ext.refl w).trans x2))

set_option maxHeartbeats 400000 in
set_option maxRecDepth 10000 in
theorem Write_0 (w0 : World) (Q : Nat → Prop) (a : Nat) (nm : ByteArray) (n : Int) (L : List Nd) (fs : List (ByteArray → ByteArray)) (A : Option Addr) (c : Nat) (As : Nat → Option Addr) (cs : Nat → Nat) (w : World) (K : Ending → World → Prop) (hE : Gx.Ext w0 w) (hr : Gx.Rd w0 A L.length 5 (fun i => ndC (L.getD i nd0) (As i) (cs i))) (hd : DL L fs) (hkk : ∀ i, i < L.length → KV Q w0 (L.getD i nd0).ks (As i) (cs i)) (hsz : (pgF fs (⟨#[]⟩ : ByteArray)).size ≤ 400000000) (hK : ∀ w', Gx.Ext w w' → K (.returned (.string (pgF fs (⟨#[]⟩ : ByteArray)))) w') :
    Calls Tryd.prog 7 #[.agg #[.int .i64 0, Z.n a, .string nm, .int .i64 n, .slice A L.length c]] w K := by
  refine Gx.enter 307 Tryd.func7 rfl rfl (Nat.le_of_ble_eq_true rfl) ?_
  refine Z.r [0, 1] ?_
  refine Z.N (.cells #[.int .i64 0, Z.n a, .string nm, .int .i64 n, .slice A L.length c] 24) (fun k1 w1 l1 x1 b1 zw1 tb1 => ?_)
  refine Z.p [1] [] [(2, .string (⟨#[]⟩ : ByteArray))] ?_
  refine Z.e (Z.r [0, 1, 2] ?_)
  refine Z.p [0] [1, 2] [(6, Z.P k1 4)] ?_
  refine Z.L 4 (.slice A L.length c) b1 ?_
  refine Z.p [2] [] [(3, .slice A L.length c)] ?_
  refine Z.e (wp_seq (Z.r [0, 1] ?_))
  refine Z.p [0] [1] [(8, Z.P k1 0)] ?_
  refine Z.L 0 (.int .i64 0) b1 ?_
  refine Z.e (wp_block (Z.st [(10, .bool true), (11, .bool true)] ?_))
  refine Z.r [0, 1, 2] ?_
  refine Z.L 0 (.agg #[.int .i64 0, Z.n a, .string nm, .int .i64 n, .slice A L.length c]) b1 ?_
  refine Z.k (fun R hR => progW_c w0 Q 0 a nm n L fs A c As cs  _ R (Gx.Ext.trans hE ((Gx.Ext.refl w).trans x1)) hr hd hkk hsz (fun w2 x2  => hR _ _ ?_))
  have zw2 := x2.size
  refine Z.p [2] [] [(2, .string (pgF fs (⟨#[]⟩ : ByteArray)))] ?_
  refine Z.e (wp_ret (Gx.block_ret (Gx.then_ret (Z.v (.string (pgF fs (⟨#[]⟩ : ByteArray))) ?_))))
  exact Gx.ret_as (v' := .string (pgF fs (⟨#[]⟩ : ByteArray))) (by rfl) (hK _ (((Gx.Ext.refl w).trans x1).trans x2))

end Go.Proofs.YtinilkomfggjiaaDoor
