/- The walks, written by a program of ours (wip/gx/gx.py, printgen.py). -/
import Derived.Test.YtinilkomfggjiaaDoorRows
import Derived.Test.YtinilkomfggjiaaDoorGs
import Derived.Test.YtinilkomfggjiaaDoorSynBuild
import Derived.Test.YtinilkomfggjiaaDoorPrWalks5
set_option linter.unusedVariables false
set_option linter.unusedSimpArgs false
set_option maxHeartbeats 4000000
set_option maxRecDepth 20000
namespace Go.Proofs.YtinilkomfggjiaaDoor
open Go.RowKit Go.Lex Go.Syn
open Go.Show (digB e0 dig_small dig_step app_e0 app_assoc)
attribute [local irreducible] Go.wpOps Go.Code.wp Go.wpOp Go.wpAnyH Go.Calls Go.Syn.J
theorem pr_ok {w0 : World} {Q : Nat → Prop} (htab : Lib.TabBelow Tryd.prog w0.heap.size w0 "internal/strconv.uint64pow10" .u64 Lib.pow10Tab) {t : Nd} {s : ByteArray} (h : Wr t s) : ∀ (A : Option Addr) (c : Nat), KV Q w0 t.ks A c → POK w0 t A c s := by
  induction h with
  | eint a nm n  h1 h2 =>
    intro A c hk
    exact fun B b X w K h hB hE hw hz hK => node_exp B b X w0 (.mk 3 a nm n []) A c _ w K h hB hE hw hz ⟨Nat.le_of_ble_eq_true rfl, Nat.le_of_ble_eq_true rfl⟩ (fun B b X w K h hB hE hw hz hK => exp_3 B b X w0 a nm n  A c (fun _ => none) (fun _ => 0)  w K h hB hE hw hz  ⟨h1, h2⟩ htab hK) hK
  | ebool a nm n  =>
    intro A c hk
    exact fun B b X w K h hB hE hw hz hK => node_exp B b X w0 (.mk 4 a nm n []) A c _ w K h hB hE hw hz ⟨Nat.le_of_ble_eq_true rfl, Nat.le_of_ble_eq_true rfl⟩ (fun B b X w K h hB hE hw hz hK => exp_4 B b X w0 a nm n  A c (fun _ => none) (fun _ => 0)  w K h hB hE hw hz  hK) hK
  | eunit a nm n  =>
    intro A c hk
    exact fun B b X w K h hB hE hw hz hK => node_exp B b X w0 (.mk 5 a nm n []) A c _ w K h hB hE hw hz ⟨Nat.le_of_ble_eq_true rfl, Nat.le_of_ble_eq_true rfl⟩ (fun B b X w K h hB hE hw hz hK => exp_5 B b X w0 a nm n  A c (fun _ => none) (fun _ => 0)  w K h hB hE hw hz  hK) hK
  | evar a nm n  h1 =>
    intro A c hk
    exact fun B b X w K h hB hE hw hz hK => node_exp B b X w0 (.mk 6 a nm n []) A c _ w K h hB hE hw hz ⟨Nat.le_of_ble_eq_true rfl, Nat.le_of_ble_eq_true rfl⟩ (fun B b X w K h hB hE hw hz hK => exp_6 B b X w0 a nm n  A c (fun _ => none) (fun _ => 0)  w K h hB hE hw hz  h1 hK) hK
  | efn a nm n x sx hn wx ix =>
    intro A c hk
    obtain ⟨As, cs, hr, hkk⟩ := hk.at_
    exact fun B b X w K h hB hE hw hz hK => node_exp B b X w0 (.mk 7 a nm n [x]) A c _ w K h hB hE hw hz ⟨Nat.le_of_ble_eq_true rfl, Nat.le_of_ble_eq_true rfl⟩ (fun B b X w K h hB hE hw hz hK => exp_7 B b X w0 a nm n x A c As cs sx w K h hB hE hw hz hr (ix (As 0) (cs 0) (hkk 0 (by simp [Nd.ks]))) wx.op5 wx.pos hn hK) hK
  | eapp a nm n x y sx sy wx wy ix iy =>
    intro A c hk
    obtain ⟨As, cs, hr, hkk⟩ := hk.at_
    exact fun B b X w K h hB hE hw hz hK => node_exp B b X w0 (.mk 8 a nm n [x, y]) A c _ w K h hB hE hw hz ⟨Nat.le_of_ble_eq_true rfl, Nat.le_of_ble_eq_true rfl⟩ (fun B b X w K h hB hE hw hz hK => exp_8 B b X w0 a nm n x y A c As cs sx sy w K h hB hE hw hz hr (ix (As 0) (cs 0) (hkk 0 (by simp [Nd.ks]))) wx.op5 wx.pos (iy (As 1) (cs 1) (hkk 1 (by simp [Nd.ks]))) wy.op5 wy.pos hK) hK
  | elet0 a nm x y sx sy hn wx wy ix iy =>
    intro A c hk
    obtain ⟨As, cs, hr, hkk⟩ := hk.at_
    exact fun B b X w K h hB hE hw hz hK => node_exp B b X w0 (.mk 9 a nm 0 [x, y]) A c _ w K h hB hE hw hz ⟨Nat.le_of_ble_eq_true rfl, Nat.le_of_ble_eq_true rfl⟩ (fun B b X w K h hB hE hw hz hK => exp_9 B b X w0 a nm x y A c As cs sx sy w K h hB hE hw hz hr (ix (As 0) (cs 0) (hkk 0 (by simp [Nd.ks]))) wx.op5 wx.pos (iy (As 1) (cs 1) (hkk 1 (by simp [Nd.ks]))) wy.op5 wy.pos hn hK) hK
  | elet1 a nm fa fx fm x y sx sy hn hf wx wy ix iy =>
    intro A c hk
    obtain ⟨As, cs, hr, hkk⟩ := hk.at_
    obtain ⟨Bs, ds, hr0, hk0⟩ := (hkk 0 (by simp [Nd.ks])).at_
    exact fun B b X w K h hB hE hw hz hK => node_exp B b X w0 (.mk 9 a nm 1 [.mk 7 fa fx fm [x], y]) A c _ w K h hB hE hw hz ⟨Nat.le_of_ble_eq_true rfl, Nat.le_of_ble_eq_true rfl⟩ (fun B b X w K h hB hE hw hz hK => exp_9r B b X w0 a nm A c As cs fa fx fm x y sx sy Bs ds w K h hB hE hw hz hr hr0 (ix (Bs 0) (ds 0) (hk0 0 Nat.zero_lt_one)) (iy (As 1) (cs 1) (hkk 1 (by simp [Nd.ks]))) wy.pos hn hf hK) hK
  | eseq a nm n x y sx sy wx wy ix iy =>
    intro A c hk
    obtain ⟨As, cs, hr, hkk⟩ := hk.at_
    exact fun B b X w K h hB hE hw hz hK => node_exp B b X w0 (.mk 10 a nm n [x, y]) A c _ w K h hB hE hw hz ⟨Nat.le_of_ble_eq_true rfl, Nat.le_of_ble_eq_true rfl⟩ (fun B b X w K h hB hE hw hz hK => exp_10 B b X w0 a nm n x y A c As cs sx sy w K h hB hE hw hz hr (ix (As 0) (cs 0) (hkk 0 (by simp [Nd.ks]))) wx.op5 wx.pos (iy (As 1) (cs 1) (hkk 1 (by simp [Nd.ks]))) wy.op5 wy.pos hK) hK
  | eif a nm n x y z sx sy sz wx wy wz ix iy iz =>
    intro A c hk
    obtain ⟨As, cs, hr, hkk⟩ := hk.at_
    exact fun B b X w K h hB hE hw hz hK => node_exp B b X w0 (.mk 11 a nm n [x, y, z]) A c _ w K h hB hE hw hz ⟨Nat.le_of_ble_eq_true rfl, Nat.le_of_ble_eq_true rfl⟩ (fun B b X w K h hB hE hw hz hK => exp_11 B b X w0 a nm n x y z A c As cs sx sy sz w K h hB hE hw hz hr (ix (As 0) (cs 0) (hkk 0 (by simp [Nd.ks]))) wx.op5 wx.pos (iy (As 1) (cs 1) (hkk 1 (by simp [Nd.ks]))) wy.op5 wy.pos (iz (As 2) (cs 2) (hkk 2 (by simp [Nd.ks]))) wz.op5 wz.pos hK) hK
  | epair a nm n x y sx sy wx wy ix iy =>
    intro A c hk
    obtain ⟨As, cs, hr, hkk⟩ := hk.at_
    exact fun B b X w K h hB hE hw hz hK => node_more B b X w0 (.mk 12 a nm n [x, y]) A c _ w K h hB hE hw hz ⟨Nat.le_of_ble_eq_true rfl, Nat.le_of_ble_eq_true rfl⟩ (fun B b X w K h hB hE hw hz hK => more_12 B b X w0 a nm n x y A c As cs sx sy w K h hB hE hw hz hr (ix (As 0) (cs 0) (hkk 0 (by simp [Nd.ks]))) wx.op5 wx.pos (iy (As 1) (cs 1) (hkk 1 (by simp [Nd.ks]))) wy.op5 wy.pos hK) hK
  | efst a nm n x sx wx ix =>
    intro A c hk
    obtain ⟨As, cs, hr, hkk⟩ := hk.at_
    exact fun B b X w K h hB hE hw hz hK => node_more B b X w0 (.mk 13 a nm n [x]) A c _ w K h hB hE hw hz ⟨Nat.le_of_ble_eq_true rfl, Nat.le_of_ble_eq_true rfl⟩ (fun B b X w K h hB hE hw hz hK => more_13 B b X w0 a nm n x A c As cs sx w K h hB hE hw hz hr (ix (As 0) (cs 0) (hkk 0 (by simp [Nd.ks]))) wx.op5 wx.pos hK) hK
  | esnd a nm n x sx wx ix =>
    intro A c hk
    obtain ⟨As, cs, hr, hkk⟩ := hk.at_
    exact fun B b X w K h hB hE hw hz hK => node_more B b X w0 (.mk 14 a nm n [x]) A c _ w K h hB hE hw hz ⟨Nat.le_of_ble_eq_true rfl, Nat.le_of_ble_eq_true rfl⟩ (fun B b X w K h hB hE hw hz hK => more_14 B b X w0 a nm n x A c As cs sx w K h hB hE hw hz hr (ix (As 0) (cs 0) (hkk 0 (by simp [Nd.ks]))) wx.op5 wx.pos hK) hK
  | enil a nm n  =>
    intro A c hk
    exact fun B b X w K h hB hE hw hz hK => node_more B b X w0 (.mk 15 a nm n []) A c _ w K h hB hE hw hz ⟨Nat.le_of_ble_eq_true rfl, Nat.le_of_ble_eq_true rfl⟩ (fun B b X w K h hB hE hw hz hK => more_15 B b X w0 a nm n  A c (fun _ => none) (fun _ => 0)  w K h hB hE hw hz  hK) hK
  | econs a nm n x y sx sy wx wy ix iy =>
    intro A c hk
    obtain ⟨As, cs, hr, hkk⟩ := hk.at_
    exact fun B b X w K h hB hE hw hz hK => node_more B b X w0 (.mk 16 a nm n [x, y]) A c _ w K h hB hE hw hz ⟨Nat.le_of_ble_eq_true rfl, Nat.le_of_ble_eq_true rfl⟩ (fun B b X w K h hB hE hw hz hK => more_16 B b X w0 a nm n x y A c As cs sx sy w K h hB hE hw hz hr (ix (As 0) (cs 0) (hkk 0 (by simp [Nd.ks]))) wx.op5 wx.pos (iy (As 1) (cs 1) (hkk 1 (by simp [Nd.ks]))) wy.op5 wy.pos hK) hK
  | ecase a nm n x y u v z sx sy sz hu hv wx wy wz ix iy iz =>
    intro A c hk
    obtain ⟨As, cs, hr, hkk⟩ := hk.at_
    exact fun B b X w K h hB hE hw hz hK => node_more B b X w0 (.mk 17 a nm n [x, y, u, v, z]) A c _ w K h hB hE hw hz ⟨Nat.le_of_ble_eq_true rfl, Nat.le_of_ble_eq_true rfl⟩ (fun B b X w K h hB hE hw hz hK => more_17 B b X w0 a nm n A c As cs x y u v z sx sy sz w K h hB hE hw hz hr (ix (As 0) (cs 0) (hkk 0 (by simp [Nd.ks]))) (iy (As 1) (cs 1) (hkk 1 (by simp [Nd.ks]))) (iz (As 4) (cs 4) (hkk 4 (by simp [Nd.ks]))) wx.pos wy.pos wz.pos hu hv hK) hK
  | eop a nm n x y sx sy hn wx wy ix iy =>
    intro A c hk
    obtain ⟨As, cs, hr, hkk⟩ := hk.at_
    have hm : 0 < nm.size := by rcases hn with rfl | rfl | rfl | rfl | rfl <;> decide
    by_cases h1 : nm = Z.k8 ∨ nm = Z.k17
    · have e : opT nm x y sx sy = (((inT 2 x sx ++ Z.k3) ++ nm) ++ Z.k3) ++ inT 2 y sy := by unfold opT; rw [if_pos h1]
      rw [e]
      exact fun B b X w K h hB hE hw hz hK => node_more B b X w0 (.mk 18 a nm n [x, y]) A c _ w K h hB hE hw hz ⟨Nat.le_of_ble_eq_true rfl, Nat.le_of_ble_eq_true rfl⟩ (fun B b X w K h hB hE hw hz hK => more_18_1 B b X w0 a nm n x y A c As cs sx sy w K h hB hE hw hz hr (ix (As 0) (cs 0) (hkk 0 (by simp [Nd.ks]))) wx.op5 wx.pos (iy (As 1) (cs 1) (hkk 1 (by simp [Nd.ks]))) wy.op5 wy.pos (fun _ => hn) (by rw [lvl_op, if_pos h1]) hm hK) hK
    · by_cases h2 : nm = Z.k6
      · have e : opT nm x y sx sy = (((inT 4 x sx ++ Z.k3) ++ nm) ++ Z.k3) ++ inT 5 y sy := by unfold opT; rw [if_neg h1, if_pos h2]
        rw [e]
        exact fun B b X w K h hB hE hw hz hK => node_more B b X w0 (.mk 18 a nm n [x, y]) A c _ w K h hB hE hw hz ⟨Nat.le_of_ble_eq_true rfl, Nat.le_of_ble_eq_true rfl⟩ (fun B b X w K h hB hE hw hz hK => more_18_4 B b X w0 a nm n x y A c As cs sx sy w K h hB hE hw hz hr (ix (As 0) (cs 0) (hkk 0 (by simp [Nd.ks]))) wx.op5 wx.pos (iy (As 1) (cs 1) (hkk 1 (by simp [Nd.ks]))) wy.op5 wy.pos (fun _ => hn) (by rw [lvl_op, if_neg h1, if_pos h2]) hm hK) hK
      · have e : opT nm x y sx sy = (((inT 3 x sx ++ Z.k3) ++ nm) ++ Z.k3) ++ inT 4 y sy := by unfold opT; rw [if_neg h1, if_neg h2]
        rw [e]
        exact fun B b X w K h hB hE hw hz hK => node_more B b X w0 (.mk 18 a nm n [x, y]) A c _ w K h hB hE hw hz ⟨Nat.le_of_ble_eq_true rfl, Nat.le_of_ble_eq_true rfl⟩ (fun B b X w K h hB hE hw hz hK => more_18_3 B b X w0 a nm n x y A c As cs sx sy w K h hB hE hw hz hr (ix (As 0) (cs 0) (hkk 0 (by simp [Nd.ks]))) wx.op5 wx.pos (iy (As 1) (cs 1) (hkk 1 (by simp [Nd.ks]))) wy.op5 wy.pos (fun _ => hn) (by rw [lvl_op, if_neg h1, if_neg h2]) hm hK) hK
  | edo a nm n x sx hn wx ix =>
    intro A c hk
    obtain ⟨As, cs, hr, hkk⟩ := hk.at_
    exact fun B b X w K h hB hE hw hz hK => node_more B b X w0 (.mk 19 a nm n [x]) A c _ w K h hB hE hw hz ⟨Nat.le_of_ble_eq_true rfl, Nat.le_of_ble_eq_true rfl⟩ (fun B b X w K h hB hE hw hz hK => more_19 B b X w0 a nm n x A c As cs sx w K h hB hE hw hz hr (ix (As 0) (cs 0) (hkk 0 (by simp [Nd.ks]))) wx.op5 wx.pos hn hK) hK
  | ehandle a nm n x r sx sb ds ss hn hrn hrk hl hc wx wr whs ix ir ihs =>
    intro A c hk
    have hcap := hk.cap
    obtain ⟨As, cs, hr, hkk⟩ := hk.at_
    obtain ⟨Bs, bs, hr1, hk1⟩ := (hkk 1 (by simp [Nd.ks])).at_
    have hcl : ∀ j, j < ds.length → (ds.getD j nd0).ks.length = 3 ∧ ∃ (Ds : Nat → Option Addr) (es : Nat → Nat), Gx.Rd w0 (As (j + 2)) (ds.getD j nd0).ks.length 5 (fun i => ndC ((ds.getD j nd0).ks.getD i nd0) (Ds i) (es i)) ∧ POK w0 ((ds.getD j nd0).ks.getD 2 nd0) (Ds 2) (es 2) (ss.getD j Z.E) := fun j hj => by
      obtain ⟨Ds, es, hr2, hk2⟩ := (hkk (j + 2) (by simp [Nd.ks]; omega)).at_
      exact ⟨(hc j hj).1, Ds, es, hr2, ihs j hj (Ds 2) (es 2) (hk2 2 (by show 2 < (ds.getD j nd0).ks.length; rw [(hc j hj).1]; omega))⟩
    rcases hn with rfl | rfl
    · rw [if_neg (by decide)]
      have hlen := clT_len ds ss (((((Z.k54 ++ sx) ++ Z.k40) ++ r.nm) ++ Z.k30) ++ sb) hl ds.length (Nat.le_refl _)
      exact fun B b X w K h hB hE hw hz hK => node_more B b X w0 (.mk 20 a nm 0 (x :: r :: ds)) A c _ w K h hB hE hw hz ⟨Nat.le_of_ble_eq_true rfl, Nat.le_of_ble_eq_true rfl⟩ (fun B b X w K h hB hE hw hz hK => more_20_0 B b X w0 a nm A c As cs x r ds ss sx sb Bs bs w K h hB hE hw hz hr hrk hr1 (ix (As 0) (cs 0) (hkk 0 (by simp [Nd.ks]))) (ir (Bs 0) (bs 0) (hk1 0 (by show 0 < r.ks.length; omega))) hl hcap
        (by rw [ByteArray.size_append] at hz; have q := hlen; rw [clT_all ds ss _ hl] at q; exact Nat.le_trans q (by omega)) hcl hK) hK
    · rw [if_pos rfl]
      have hlen := clT_len ds ss (((((Z.k55 ++ sx) ++ Z.k40) ++ r.nm) ++ Z.k30) ++ sb) hl ds.length (Nat.le_refl _)
      exact fun B b X w K h hB hE hw hz hK => node_more B b X w0 (.mk 20 a nm 1 (x :: r :: ds)) A c _ w K h hB hE hw hz ⟨Nat.le_of_ble_eq_true rfl, Nat.le_of_ble_eq_true rfl⟩ (fun B b X w K h hB hE hw hz hK => more_20_1 B b X w0 a nm A c As cs x r ds ss sx sb Bs bs w K h hB hE hw hz hr hrk hr1 (ix (As 0) (cs 0) (hkk 0 (by simp [Nd.ks]))) (ir (Bs 0) (bs 0) (hk1 0 (by show 0 < r.ks.length; omega))) hl hcap
        (by rw [ByteArray.size_append] at hz; have q := hlen; rw [clT_all ds ss _ hl] at q; exact Nat.le_trans q (by omega)) hcl hK) hK
  | tint a nm n  =>
    intro A c hk
    exact fun B b X w K h hB hE hw hz hK => node_typ B b X w0 (.mk 24 a nm n []) A c _ w K h hB hE hw hz ⟨Nat.le_of_ble_eq_true rfl, Nat.le_of_ble_eq_true rfl⟩ (fun B b X w K h hB hE hw hz hK => typ_24 B b X w0 a nm n  A c (fun _ => none) (fun _ => 0)  w K h hB hE hw hz  hK) hK
  | tbool a nm n  =>
    intro A c hk
    exact fun B b X w K h hB hE hw hz hK => node_typ B b X w0 (.mk 25 a nm n []) A c _ w K h hB hE hw hz ⟨Nat.le_of_ble_eq_true rfl, Nat.le_of_ble_eq_true rfl⟩ (fun B b X w K h hB hE hw hz hK => typ_25 B b X w0 a nm n  A c (fun _ => none) (fun _ => 0)  w K h hB hE hw hz  hK) hK
  | tunit a nm n  =>
    intro A c hk
    exact fun B b X w K h hB hE hw hz hK => node_typ B b X w0 (.mk 26 a nm n []) A c _ w K h hB hE hw hz ⟨Nat.le_of_ble_eq_true rfl, Nat.le_of_ble_eq_true rfl⟩ (fun B b X w K h hB hE hw hz hK => typ_26 B b X w0 a nm n  A c (fun _ => none) (fun _ => 0)  w K h hB hE hw hz  hK) hK
  | tlist a nm n x sx wx ix =>
    intro A c hk
    obtain ⟨As, cs, hr, hkk⟩ := hk.at_
    exact fun B b X w K h hB hE hw hz hK => node_typ B b X w0 (.mk 27 a nm n [x]) A c _ w K h hB hE hw hz ⟨Nat.le_of_ble_eq_true rfl, Nat.le_of_ble_eq_true rfl⟩ (fun B b X w K h hB hE hw hz hK => typ_27 B b X w0 a nm n x A c As cs sx w K h hB hE hw hz hr (ix (As 0) (cs 0) (hkk 0 (by simp [Nd.ks]))) wx.op5 wx.pos hK) hK
  | tpair a nm n x y sx sy wx wy ix iy =>
    intro A c hk
    obtain ⟨As, cs, hr, hkk⟩ := hk.at_
    exact fun B b X w K h hB hE hw hz hK => node_typ B b X w0 (.mk 28 a nm n [x, y]) A c _ w K h hB hE hw hz ⟨Nat.le_of_ble_eq_true rfl, Nat.le_of_ble_eq_true rfl⟩ (fun B b X w K h hB hE hw hz hK => typ_28 B b X w0 a nm n x y A c As cs sx sy w K h hB hE hw hz hr (ix (As 0) (cs 0) (hkk 0 (by simp [Nd.ks]))) wx.op5 wx.pos (iy (As 1) (cs 1) (hkk 1 (by simp [Nd.ks]))) wy.op5 wy.pos hK) hK
  | tfn a nm n x y sx sy ps hp wx wy ix iy =>
    intro A c hk
    have hcap := hk.cap
    obtain ⟨As, cs, hr, hkk⟩ := hk.at_
    exact fun B b X w K h hB hE hw hz hK => node_typ B b X w0 (.mk 29 a nm n (x :: y :: ps)) A c _ w K h hB hE hw hz ⟨Nat.le_of_ble_eq_true rfl, Nat.le_of_ble_eq_true rfl⟩ (fun B b X w K h hB hE hw hz hK => typ_29 B b X w0 a nm n A c As cs x y ps sx sy w K h hB hE hw hz hr (ix (As 0) (cs 0) (hkk 0 (by simp [Nd.ks]))) (iy (As 1) (cs 1) (hkk 1 (by simp [Nd.ks]))) wx.op5 wx.pos wy.pos hcap
      (by have q2 := arL_len ps hp ps.length (Nat.le_refl _); have q3 := arrT_bd ps; simp only [ByteArray.size_append] at hz; omega) hK) hK
end Go.Proofs.YtinilkomfggjiaaDoor
