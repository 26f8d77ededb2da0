/- What the tokens of a tree say is what is written of it: plain laws. -/
import Derived.Test.YtinilkomfggjiaaDoorZk
import Derived.Test.YtinilkomfggjiaaDoorAgTree
set_option linter.unusedVariables false
set_option linter.unusedSimpArgs false
namespace Go.Ag
open Go.Gx (byteAt)
open Go.Lex Go.Syn
theorem dig_acc (m : Nat) : ∀ acc, Lex.digB m acc = Show.digB m ++ acc := by
  induction m using Nat.strongRecOn with
  | ind m ih =>
    intro acc
    by_cases h : m < 10
    · rw [Lex.digB_end (by omega), Show.dig_small h, Nat.mod_eq_of_lt h]
    · rw [Lex.digB_go (by omega), ih (m / 10) (by omega), Show.dig_step h, append_assoc']
theorem say_u (m : Nat) : sayT (nuT m) = Show.digB m := by
  show Lex.digB m ⟨#[]⟩ = _
  rw [dig_acc, append_nil']
theorem bl_def (l : List Tk) : (joinW l).data.toList = bl l := rfl
theorem bl_int (n : Int) : bl (intL n) = (intT n).data.toList := by
  unfold intL intT
  split
  · rw [bl_cons _ (by simp), bl_one, say_s, say_u]; simp [ap_toList]
  · rw [bl_one, say_u]
def nmB : List ByteArray → List UInt8
  | [] => []
  | [p] => p.data.toList
  | p :: q :: r => p.data.toList ++ [32, 44, 32] ++ nmB (q :: r)
theorem psL_ne {ps : List ByteArray} (h : ps ≠ []) : psL ps ≠ [] := by
  match ps with
  | [] => exact absurd rfl h
  | [p] => simp [psL]
  | p :: q :: r => simp [psL]
theorem bl_ps {ps : List ByteArray} (h : ps ≠ []) : bl (psL ps) = nmB ps := by
  induction ps with
  | nil => exact absurd rfl h
  | cons p r ih =>
    cases r with
    | nil => rfl
    | cons q r =>
      have h2 := psL_ne (ps := q :: r) (by simp)
      show bl (nmT p :: sg Z.k16 :: psL (q :: r)) = _
      rw [bl_cons _ (by simp), bl_cons _ h2, ih (by simp), say_n, say_s]
      simp [nmB]
theorem nmB_snoc (ps : List ByteArray) (p : ByteArray) : nmB (ps ++ [p]) = if ps = [] then p.data.toList else nmB ps ++ [32, 44, 32] ++ p.data.toList := by
  induction ps with
  | nil => rfl
  | cons q r ih =>
    cases r with
    | nil => simp [nmB]
    | cons q' r =>
      rw [if_neg (by simp)] at ih ⊢
      simp only [List.cons_append, nmB] at ih ⊢
      rw [ih]
      simp
theorem getD_map {α : Type} (f : α → Nd) (l : List α) (i : Nat) (h : i < l.length) (d : Nd) : (l.map f).getD i d = f l[i] := by
  rw [List.getD_eq_getElem?_getD, List.getElem?_map, List.getElem?_eq_getElem h]; rfl
theorem arL_bl (ps : List (Nat × ByteArray)) : ∀ i, i ≤ ps.length → (arL (ps.map pNd) i).data.toList = [32, 45, 32, 123, 32] ++ nmB ((ps.take i).map (·.2)) := by
  intro i
  induction i with
  | zero => intro _; simp [arL, nmB]
  | succ i ih =>
    intro hi
    have h1 := ih (by omega)
    rw [arL, getD_map _ _ _ (by omega), ← List.take_append_getElem (by omega), List.map_append, List.map_singleton, nmB_snoc]
    show ((if i > 0 then _ else _) ++ (ps[i]).2).data.toList = _
    by_cases h0 : i > 0
    · rw [if_pos h0, if_neg (by simp only [List.map_eq_nil_iff, List.take_eq_nil_iff]; rintro (rfl | rfl); omega; simp at hi), ap_toList, ap_toList, h1]
      simp
    · obtain rfl : i = 0 := by omega
      rw [if_neg h0, if_pos (by simp), ap_toList, h1]
      simp [nmB]
theorem arT_ne (ps : List ByteArray) : arT ps ≠ [] := by unfold arT; split <;> simp
theorem arT_bl (ps : List (Nat × ByteArray)) : (arrT (ps.map pNd)).data.toList = 32 :: bl (arT (ps.map (·.2))) ++ [32] := by
  unfold arrT arT
  by_cases h : ps = []
  · subst h; rfl
  · have h2 : ps.map (·.2) ≠ [] := by simpa using h
    have h3 := psL_ne h2
    have hl : ps.length ≠ 0 := by simpa using h
    rw [if_neg (by simpa using h), if_neg h2, ap_toList, List.length_map, arL_bl ps ps.length (Nat.le_refl _), List.take_length]
    simp [bl_cons, bl_app, bl_one, bl_ps, h3, h2, say_s]
theorem psL_gt {ps : List ByteArray} (h : ∀ p ∈ ps, GT (nmT p)) : ∀ x ∈ psL ps, GT x := by
  induction ps with
  | nil => intro x hx; cases hx
  | cons p r ih =>
    cases r with
    | nil => intro x hx; simp only [psL, List.mem_cons, List.not_mem_nil, or_false] at hx; subst hx; exact h p List.mem_cons_self
    | cons q r =>
      intro x hx
      simp only [psL, List.mem_append, List.mem_cons, List.not_mem_nil, or_false] at hx
      rcases hx with (rfl | rfl) | hx
      · exact h p List.mem_cons_self
      · exact gt_cm
      · exact ih (fun z hz => h z (List.mem_cons_of_mem _ hz)) x hx
theorem arT_gt {ps : List (Nat × ByteArray)} (h : ∀ p ∈ ps, GT (nmT p.2)) : ∀ x ∈ arT (ps.map (·.2)), GT x := by
  have h1 : ∀ p ∈ ps.map (·.2), GT (nmT p) := by
    intro p hp
    obtain ⟨z, hz, rfl⟩ := List.mem_map.1 hp
    exact h z hz
  have h2 := psL_gt h1
  unfold arT
  intro x hx
  split at hx
  · simp only [List.mem_cons, List.not_mem_nil, or_false] at hx; subst hx; exact gt_to
  · simp only [List.mem_append, List.mem_cons, List.not_mem_nil, or_false] at hx
    rcases hx with ((rfl | rfl) | hx) | (rfl | rfl)
    · exact gt_mi
    · exact gt_oc
    · exact h2 x hx
    · exact gt_cc
    · exact gt_to
theorem opL_ne {nm : ByteArray} {x y : Nd} {lx ly : List Tk} : opL nm x y lx ly ≠ [] := by unfold opL; split <;> (try split) <;> simp
theorem cl_bl (cs : List Cd) (hne : ∀ c ∈ cs, c.le ≠ []) : ∀ b, (clT (cs.map Cd.node) (cs.map (fun c => joinW c.le)) b).data.toList = b.data.toList ++ cs.flatMap (fun c => 32 :: bl c.tks) := by
  induction cs with
  | nil => intro b; simp [clT]
  | cons c r ih =>
    intro b
    have h := hne c List.mem_cons_self
    rw [List.map_cons, List.map_cons, clT, ih (fun z hz => hne z (List.mem_cons_of_mem _ hz))]
    have e : (cl1 c.node (joinW c.le) b).data.toList = b.data.toList ++ 32 :: bl c.tks := by
      unfold cl1 Cd.tks Cd.node
      simp [bl_cons, bl_app, bl_one, h, say_s, say_n, ap_toList, Nd.nm, Nd.ks, bl_def]
    rw [e]
    simp
theorem bl_tks (cs : List Cd) (l : List Tk) (hl : l ≠ []) : bl (l ++ cs.flatMap Cd.tks) = bl l ++ cs.flatMap (fun c => 32 :: bl c.tks) := by
  induction cs generalizing l with
  | nil => simp
  | cons c r ih =>
    have h : c.tks ≠ [] := by simp [Cd.tks]
    rw [List.flatMap_cons, ← List.append_assoc, ih (l ++ c.tks) (by simp [hl]), bl_app hl h]
    simp
def AG (l : List Tk) : Prop := ∀ x ∈ l, GT x
theorem ag_app {l m : List Tk} : AG (l ++ m) ↔ AG l ∧ AG m := List.forall_mem_append
theorem ag_cons {x : Tk} {l : List Tk} : AG (x :: l) ↔ GT x ∧ AG l := List.forall_mem_cons
theorem ag_nil : AG [] := fun _ h => by cases h
theorem ag_inL {k : Int} {t : Nd} {l : List Tk} (h : AG l) : AG (inL k t l) := inL_gt h
structure Say (t : Nd) (l : List Tk) : Prop where
  ne : l ≠ []
  gt : AG l
  wr : Wr t (joinW l)
theorem gt_pos {s : ByteArray} (h : GT (nmT s)) : 0 < s.size := by
  by_cases e : s.size = 0
  · have hs : s = e0 := by
      cases s with
      | mk d => have : d.size = 0 := e; have h2 : d = #[] := Array.eq_empty_of_size_eq_zero this; rw [h2]
    subst hs
    have := h.toks
    rw [say_n, toks_nil0] at this
    simp [sigs] at this
  · omega
theorem tw_say {t : Nd} {l : List Tk} (h : Tw t l) : Say t l := by
  induction h with
  | eint a n h1 h2 h3 =>
    refine ⟨by unfold intL; split <;> simp, ?_, wr_mk (Wr.eint a _ n h1 h2) (by_list (by rw [bl_def, bl_int]))⟩
    unfold intL
    split
    · rw [show (-n).toNat = n.natAbs by omega]; simp [ag_cons, ag_nil, h3, gt_tl]
    · rw [show n.toNat = n.natAbs by omega]; simp [ag_cons, ag_nil, h3]
  | ebool a n h => rcases h with rfl | rfl <;> exact ⟨by simp, by simp [ag_cons, ag_nil, gw_op, gw_once, gw_many, gw_def, gw_rec, gw_main, gw_let, gw_in, gw_fn, gw_if, gw_then, gw_else, gw_case, gw_of, gw_end, gw_do, gw_fst, gw_snd, gw_handle, gw_shallow, gw_with, gw_return, gw_true, gw_false, gw_int, gw_bool, gw_unit, gw_list, gt_op, gt_cp, gt_ob, gt_cb, gt_oc, gt_cc, gt_cm, gt_sc, gt_cn, gt_eq, gt_mi, gt_pl, gt_ti, gt_lt, gt_br, gt_tl, gt_cs, gt_ee, gt_ar, gt_to], wr_mk (Wr.ebool a _ _) rfl⟩
  | eunit a =>
    exact ⟨by simp, by simp only [ag_app, ag_cons, ag_nil, gw_op, gw_once, gw_many, gw_def, gw_rec, gw_main, gw_let, gw_in, gw_fn, gw_if, gw_then, gw_else, gw_case, gw_of, gw_end, gw_do, gw_fst, gw_snd, gw_handle, gw_shallow, gw_with, gw_return, gw_true, gw_false, gw_int, gw_bool, gw_unit, gw_list, gt_op, gt_cp, gt_ob, gt_cb, gt_oc, gt_cc, gt_cm, gt_sc, gt_cn, gt_eq, gt_mi, gt_pl, gt_ti, gt_lt, gt_br, gt_tl, gt_cs, gt_ee, gt_ar, gt_to, and_self, true_and, and_true], wr_mk (Wr.eunit a _ 0) (by_list (by rw [bl_def]; simp [bl_cons, bl_app, bl_one, inL_ne, inL_bl, bl_def, ap_toList, say_w, say_s, say_n]))⟩
  | evar a nm h =>
    exact ⟨by simp, by simp only [ag_app, ag_cons, ag_nil, h, gw_op, gw_once, gw_many, gw_def, gw_rec, gw_main, gw_let, gw_in, gw_fn, gw_if, gw_then, gw_else, gw_case, gw_of, gw_end, gw_do, gw_fst, gw_snd, gw_handle, gw_shallow, gw_with, gw_return, gw_true, gw_false, gw_int, gw_bool, gw_unit, gw_list, gt_op, gt_cp, gt_ob, gt_cb, gt_oc, gt_cc, gt_cm, gt_sc, gt_cn, gt_eq, gt_mi, gt_pl, gt_ti, gt_lt, gt_br, gt_tl, gt_cs, gt_ee, gt_ar, gt_to, and_self, true_and, and_true], wr_mk (Wr.evar a nm 0 (gt_pos h)) (by_list (by rw [bl_def]; simp [bl_cons, bl_app, bl_one, inL_ne, inL_bl, bl_def, ap_toList, say_w, say_s, say_n]))⟩
  | efn a nm x lx h _ hx =>
    exact ⟨by simp, by simp only [ag_app, ag_cons, ag_nil, ag_inL hx.gt, hx.gt, h, gw_op, gw_once, gw_many, gw_def, gw_rec, gw_main, gw_let, gw_in, gw_fn, gw_if, gw_then, gw_else, gw_case, gw_of, gw_end, gw_do, gw_fst, gw_snd, gw_handle, gw_shallow, gw_with, gw_return, gw_true, gw_false, gw_int, gw_bool, gw_unit, gw_list, gt_op, gt_cp, gt_ob, gt_cb, gt_oc, gt_cc, gt_cm, gt_sc, gt_cn, gt_eq, gt_mi, gt_pl, gt_ti, gt_lt, gt_br, gt_tl, gt_cs, gt_ee, gt_ar, gt_to, and_self, true_and, and_true], wr_mk (Wr.efn a nm 0 x _ (gt_pos h) hx.wr) (by_list (by rw [bl_def]; simp [bl_cons, bl_app, bl_one, inL_ne, inL_bl, bl_def, ap_toList, say_w, say_s, say_n, hx.ne]))⟩
  | eapp a x y lx ly _ _ hx hy =>
    refine ⟨?_, ?_, wr_mk (Wr.eapp a _ 0 x y _ _ hx.wr hy.wr) (by_list (by rw [bl_def]; split <;> simp [bl_cons, bl_app, bl_one, inL_ne, inL_bl, bl_def, ap_toList, say_w, say_s, say_n, hx.ne, hy.ne]))⟩
    · split <;> simp [inL_ne, hx.ne, hy.ne]
    · rw [ag_app]; refine ⟨?_, ag_inL hy.gt⟩; split; exact hx.gt; exact ag_inL hx.gt
  | elet0 a nm x y lx ly h _ _ hx hy =>
    exact ⟨by simp, by simp only [ag_app, ag_cons, ag_nil, ag_inL hx.gt, hx.gt, ag_inL hy.gt, hy.gt, h, gw_op, gw_once, gw_many, gw_def, gw_rec, gw_main, gw_let, gw_in, gw_fn, gw_if, gw_then, gw_else, gw_case, gw_of, gw_end, gw_do, gw_fst, gw_snd, gw_handle, gw_shallow, gw_with, gw_return, gw_true, gw_false, gw_int, gw_bool, gw_unit, gw_list, gt_op, gt_cp, gt_ob, gt_cb, gt_oc, gt_cc, gt_cm, gt_sc, gt_cn, gt_eq, gt_mi, gt_pl, gt_ti, gt_lt, gt_br, gt_tl, gt_cs, gt_ee, gt_ar, gt_to, and_self, true_and, and_true], wr_mk (Wr.elet0 a nm x y _ _ (gt_pos h) hx.wr hy.wr) (by_list (by rw [bl_def]; simp [bl_cons, bl_app, bl_one, inL_ne, inL_bl, bl_def, ap_toList, say_w, say_s, say_n, hx.ne, hy.ne]))⟩
  | elet1 a nm fa fx x y lx ly h h2 _ _ hx hy =>
    exact ⟨by simp, by simp only [ag_app, ag_cons, ag_nil, ag_inL hx.gt, hx.gt, ag_inL hy.gt, hy.gt, h, h2, gw_op, gw_once, gw_many, gw_def, gw_rec, gw_main, gw_let, gw_in, gw_fn, gw_if, gw_then, gw_else, gw_case, gw_of, gw_end, gw_do, gw_fst, gw_snd, gw_handle, gw_shallow, gw_with, gw_return, gw_true, gw_false, gw_int, gw_bool, gw_unit, gw_list, gt_op, gt_cp, gt_ob, gt_cb, gt_oc, gt_cc, gt_cm, gt_sc, gt_cn, gt_eq, gt_mi, gt_pl, gt_ti, gt_lt, gt_br, gt_tl, gt_cs, gt_ee, gt_ar, gt_to, and_self, true_and, and_true], wr_mk (Wr.elet1 a nm fa fx 0 x y _ _ (gt_pos h) (gt_pos h2) hx.wr hy.wr) (by_list (by rw [bl_def]; simp [bl_cons, bl_app, bl_one, inL_ne, inL_bl, bl_def, ap_toList, say_w, say_s, say_n, hx.ne, hy.ne]))⟩
  | eseq a x y lx ly _ _ hx hy =>
    exact ⟨by simp, by simp only [ag_app, ag_cons, ag_nil, ag_inL hx.gt, hx.gt, ag_inL hy.gt, hy.gt, gw_op, gw_once, gw_many, gw_def, gw_rec, gw_main, gw_let, gw_in, gw_fn, gw_if, gw_then, gw_else, gw_case, gw_of, gw_end, gw_do, gw_fst, gw_snd, gw_handle, gw_shallow, gw_with, gw_return, gw_true, gw_false, gw_int, gw_bool, gw_unit, gw_list, gt_op, gt_cp, gt_ob, gt_cb, gt_oc, gt_cc, gt_cm, gt_sc, gt_cn, gt_eq, gt_mi, gt_pl, gt_ti, gt_lt, gt_br, gt_tl, gt_cs, gt_ee, gt_ar, gt_to, and_self, true_and, and_true], wr_mk (Wr.eseq a _ 0 x y _ _ hx.wr hy.wr) (by_list (by rw [bl_def]; simp [bl_cons, bl_app, bl_one, inL_ne, inL_bl, bl_def, ap_toList, say_w, say_s, say_n, hx.ne, hy.ne]))⟩
  | eif a x y z lx ly lz _ _ _ hx hy hz =>
    exact ⟨by simp, by simp only [ag_app, ag_cons, ag_nil, ag_inL hx.gt, hx.gt, ag_inL hy.gt, hy.gt, ag_inL hz.gt, hz.gt, gw_op, gw_once, gw_many, gw_def, gw_rec, gw_main, gw_let, gw_in, gw_fn, gw_if, gw_then, gw_else, gw_case, gw_of, gw_end, gw_do, gw_fst, gw_snd, gw_handle, gw_shallow, gw_with, gw_return, gw_true, gw_false, gw_int, gw_bool, gw_unit, gw_list, gt_op, gt_cp, gt_ob, gt_cb, gt_oc, gt_cc, gt_cm, gt_sc, gt_cn, gt_eq, gt_mi, gt_pl, gt_ti, gt_lt, gt_br, gt_tl, gt_cs, gt_ee, gt_ar, gt_to, and_self, true_and, and_true], wr_mk (Wr.eif a _ 0 x y z _ _ _ hx.wr hy.wr hz.wr) (by_list (by rw [bl_def]; simp [bl_cons, bl_app, bl_one, inL_ne, inL_bl, bl_def, ap_toList, say_w, say_s, say_n, hx.ne, hy.ne, hz.ne]))⟩
  | epair a x y lx ly _ _ hx hy =>
    exact ⟨by simp, by simp only [ag_app, ag_cons, ag_nil, ag_inL hx.gt, hx.gt, ag_inL hy.gt, hy.gt, gw_op, gw_once, gw_many, gw_def, gw_rec, gw_main, gw_let, gw_in, gw_fn, gw_if, gw_then, gw_else, gw_case, gw_of, gw_end, gw_do, gw_fst, gw_snd, gw_handle, gw_shallow, gw_with, gw_return, gw_true, gw_false, gw_int, gw_bool, gw_unit, gw_list, gt_op, gt_cp, gt_ob, gt_cb, gt_oc, gt_cc, gt_cm, gt_sc, gt_cn, gt_eq, gt_mi, gt_pl, gt_ti, gt_lt, gt_br, gt_tl, gt_cs, gt_ee, gt_ar, gt_to, and_self, true_and, and_true], wr_mk (Wr.epair a _ 0 x y _ _ hx.wr hy.wr) (by_list (by rw [bl_def]; simp [bl_cons, bl_app, bl_one, inL_ne, inL_bl, bl_def, ap_toList, say_w, say_s, say_n, hx.ne, hy.ne]))⟩
  | efst a x lx _ hx =>
    exact ⟨by simp, by simp only [ag_app, ag_cons, ag_nil, ag_inL hx.gt, hx.gt, gw_op, gw_once, gw_many, gw_def, gw_rec, gw_main, gw_let, gw_in, gw_fn, gw_if, gw_then, gw_else, gw_case, gw_of, gw_end, gw_do, gw_fst, gw_snd, gw_handle, gw_shallow, gw_with, gw_return, gw_true, gw_false, gw_int, gw_bool, gw_unit, gw_list, gt_op, gt_cp, gt_ob, gt_cb, gt_oc, gt_cc, gt_cm, gt_sc, gt_cn, gt_eq, gt_mi, gt_pl, gt_ti, gt_lt, gt_br, gt_tl, gt_cs, gt_ee, gt_ar, gt_to, and_self, true_and, and_true], wr_mk (Wr.efst a _ 0 x _ hx.wr) (by_list (by rw [bl_def]; simp [bl_cons, bl_app, bl_one, inL_ne, inL_bl, bl_def, ap_toList, say_w, say_s, say_n, hx.ne]))⟩
  | esnd a x lx _ hx =>
    exact ⟨by simp, by simp only [ag_app, ag_cons, ag_nil, ag_inL hx.gt, hx.gt, gw_op, gw_once, gw_many, gw_def, gw_rec, gw_main, gw_let, gw_in, gw_fn, gw_if, gw_then, gw_else, gw_case, gw_of, gw_end, gw_do, gw_fst, gw_snd, gw_handle, gw_shallow, gw_with, gw_return, gw_true, gw_false, gw_int, gw_bool, gw_unit, gw_list, gt_op, gt_cp, gt_ob, gt_cb, gt_oc, gt_cc, gt_cm, gt_sc, gt_cn, gt_eq, gt_mi, gt_pl, gt_ti, gt_lt, gt_br, gt_tl, gt_cs, gt_ee, gt_ar, gt_to, and_self, true_and, and_true], wr_mk (Wr.esnd a _ 0 x _ hx.wr) (by_list (by rw [bl_def]; simp [bl_cons, bl_app, bl_one, inL_ne, inL_bl, bl_def, ap_toList, say_w, say_s, say_n, hx.ne]))⟩
  | enil a =>
    exact ⟨by simp, by simp only [ag_app, ag_cons, ag_nil, gw_op, gw_once, gw_many, gw_def, gw_rec, gw_main, gw_let, gw_in, gw_fn, gw_if, gw_then, gw_else, gw_case, gw_of, gw_end, gw_do, gw_fst, gw_snd, gw_handle, gw_shallow, gw_with, gw_return, gw_true, gw_false, gw_int, gw_bool, gw_unit, gw_list, gt_op, gt_cp, gt_ob, gt_cb, gt_oc, gt_cc, gt_cm, gt_sc, gt_cn, gt_eq, gt_mi, gt_pl, gt_ti, gt_lt, gt_br, gt_tl, gt_cs, gt_ee, gt_ar, gt_to, and_self, true_and, and_true], wr_mk (Wr.enil a _ 0) (by_list (by rw [bl_def]; simp [bl_cons, bl_app, bl_one, inL_ne, inL_bl, bl_def, ap_toList, say_w, say_s, say_n]))⟩
  | econs a x y lx ly _ _ hx hy =>
    exact ⟨by simp, by simp only [ag_app, ag_cons, ag_nil, ag_inL hx.gt, hx.gt, ag_inL hy.gt, hy.gt, gw_op, gw_once, gw_many, gw_def, gw_rec, gw_main, gw_let, gw_in, gw_fn, gw_if, gw_then, gw_else, gw_case, gw_of, gw_end, gw_do, gw_fst, gw_snd, gw_handle, gw_shallow, gw_with, gw_return, gw_true, gw_false, gw_int, gw_bool, gw_unit, gw_list, gt_op, gt_cp, gt_ob, gt_cb, gt_oc, gt_cc, gt_cm, gt_sc, gt_cn, gt_eq, gt_mi, gt_pl, gt_ti, gt_lt, gt_br, gt_tl, gt_cs, gt_ee, gt_ar, gt_to, and_self, true_and, and_true], wr_mk (Wr.econs a _ 0 x y _ _ hx.wr hy.wr) (by_list (by rw [bl_def]; simp [bl_cons, bl_app, bl_one, inL_ne, inL_bl, bl_def, ap_toList, say_w, say_s, say_n, hx.ne, hy.ne]))⟩
  | ecase a x y z ua va un vn lx ly lz h h2 _ _ _ hx hy hz =>
    exact ⟨by simp, by simp only [ag_app, ag_cons, ag_nil, ag_inL hx.gt, hx.gt, ag_inL hy.gt, hy.gt, ag_inL hz.gt, hz.gt, h, h2, gw_op, gw_once, gw_many, gw_def, gw_rec, gw_main, gw_let, gw_in, gw_fn, gw_if, gw_then, gw_else, gw_case, gw_of, gw_end, gw_do, gw_fst, gw_snd, gw_handle, gw_shallow, gw_with, gw_return, gw_true, gw_false, gw_int, gw_bool, gw_unit, gw_list, gt_op, gt_cp, gt_ob, gt_cb, gt_oc, gt_cc, gt_cm, gt_sc, gt_cn, gt_eq, gt_mi, gt_pl, gt_ti, gt_lt, gt_br, gt_tl, gt_cs, gt_ee, gt_ar, gt_to, and_self, true_and, and_true], wr_mk (Wr.ecase a _ 0 x y (.mk 23 ua un 0 []) (.mk 23 va vn 0 []) z _ _ _ (gt_pos h) (gt_pos h2) hx.wr hy.wr hz.wr) (by_list (by rw [bl_def]; simp [bl_cons, bl_app, bl_one, inL_ne, inL_bl, bl_def, ap_toList, say_w, say_s, say_n, hx.ne, hy.ne, hz.ne, Nd.nm]))⟩
  | eop a nm x y lx ly h _ _ hx hy =>
    refine ⟨opL_ne, ?_, wr_mk (Wr.eop a nm 0 x y _ _ h hx.wr hy.wr) (by_list ?_)⟩
    · have hn : GT (sg nm) := by rcases h with rfl | rfl | rfl | rfl | rfl; exact gt_ee; exact gt_lt; exact gt_pl; exact gt_mi; exact gt_ti
      unfold opL; split <;> (try split) <;> simp only [ag_app, ag_cons, ag_nil, ag_inL hx.gt, ag_inL hy.gt, hn, and_self]
    · rw [bl_def]; unfold opL opT; split <;> (try split) <;> simp [bl_cons, bl_app, bl_one, inL_ne, inL_bl, bl_def, ap_toList, say_w, say_s, say_n, hx.ne, hy.ne]
  | edo a nm x lx h _ hx =>
    exact ⟨by simp, by simp only [ag_app, ag_cons, ag_nil, ag_inL hx.gt, hx.gt, h, gw_op, gw_once, gw_many, gw_def, gw_rec, gw_main, gw_let, gw_in, gw_fn, gw_if, gw_then, gw_else, gw_case, gw_of, gw_end, gw_do, gw_fst, gw_snd, gw_handle, gw_shallow, gw_with, gw_return, gw_true, gw_false, gw_int, gw_bool, gw_unit, gw_list, gt_op, gt_cp, gt_ob, gt_cb, gt_oc, gt_cc, gt_cm, gt_sc, gt_cn, gt_eq, gt_mi, gt_pl, gt_ti, gt_lt, gt_br, gt_tl, gt_cs, gt_ee, gt_ar, gt_to, and_self, true_and, and_true], wr_mk (Wr.edo a nm 0 x _ (gt_pos h) hx.wr) (by_list (by rw [bl_def]; simp [bl_cons, bl_app, bl_one, inL_ne, inL_bl, bl_def, ap_toList, say_w, say_s, say_n, hx.ne]))⟩
  | ehandle a n x b ra rn lx lb cs hn h hc _ _ _ hx hb hcs =>
    have hne : ∀ c ∈ cs, c.le ≠ [] := fun c hc => (hcs c hc).ne
    refine ⟨by simp, ?_, wr_mk (Wr.ehandle a _ n x (.mk 21 ra rn 0 [b]) _ _ (cs.map Cd.node) (cs.map (fun c => joinW c.le)) hn (gt_pos h) rfl (by simp) ?_ hx.wr hb.wr ?_) (by_list ?_)⟩
    · have h1 : AG (cs.flatMap Cd.tks) := by
        intro x hx
        obtain ⟨c, hc1, hc2⟩ := List.mem_flatMap.1 hx
        have g := hc c hc1
        have g2 := (hcs c hc1).gt
        have : AG c.tks := by unfold Cd.tks; simp only [ag_app, ag_cons, ag_nil, g.1, g.2.1, g.2.2, g2, gw_op, gw_once, gw_many, gw_def, gw_rec, gw_main, gw_let, gw_in, gw_fn, gw_if, gw_then, gw_else, gw_case, gw_of, gw_end, gw_do, gw_fst, gw_snd, gw_handle, gw_shallow, gw_with, gw_return, gw_true, gw_false, gw_int, gw_bool, gw_unit, gw_list, gt_op, gt_cp, gt_ob, gt_cb, gt_oc, gt_cc, gt_cm, gt_sc, gt_cn, gt_eq, gt_mi, gt_pl, gt_ti, gt_lt, gt_br, gt_tl, gt_cs, gt_ee, gt_ar, gt_to, and_self]
        exact this x hc2
      rcases hn with rfl | rfl <;> simp [ag_app, ag_cons, ag_nil, hx.gt, hb.gt, h, h1, gw_op, gw_once, gw_many, gw_def, gw_rec, gw_main, gw_let, gw_in, gw_fn, gw_if, gw_then, gw_else, gw_case, gw_of, gw_end, gw_do, gw_fst, gw_snd, gw_handle, gw_shallow, gw_with, gw_return, gw_true, gw_false, gw_int, gw_bool, gw_unit, gw_list, gt_op, gt_cp, gt_ob, gt_cb, gt_oc, gt_cc, gt_cm, gt_sc, gt_cn, gt_eq, gt_mi, gt_pl, gt_ti, gt_lt, gt_br, gt_tl, gt_cs, gt_ee, gt_ar, gt_to]
    · intro i hi
      rw [List.length_map] at hi
      rw [getD_map _ _ _ hi]
      have g := hc cs[i] (List.getElem_mem hi)
      exact ⟨rfl, gt_pos g.1, gt_pos g.2.1, gt_pos g.2.2⟩
    · intro i hi
      rw [List.length_map] at hi
      have e2 : (cs.map (fun c => joinW c.le)).getD i Z.E = joinW cs[i].le := by rw [List.getD_eq_getElem?_getD, List.getElem?_map, List.getElem?_eq_getElem hi]; rfl
      rw [getD_map _ _ _ hi, e2]
      exact (hcs cs[i] (List.getElem_mem hi)).wr
    · rw [bl_def, ap_toList, cl_bl cs hne]
      have e : ∀ l : List Tk, l ≠ [] → bl (l ++ cs.flatMap Cd.tks ++ [sg Z.k11]) = (bl l ++ cs.flatMap (fun c => 32 :: bl c.tks)) ++ 32 :: Z.k11.data.toList := fun l hl => by rw [bl_app (by simp [hl]) (by simp), bl_tks cs l hl, bl_one, say_s]
      rw [e _ (by simp)]
      rcases hn with rfl | rfl <;> simp [bl_cons, bl_app, bl_one, inL_ne, inL_bl, bl_def, ap_toList, say_w, say_s, say_n, hx.ne, hb.ne, Nd.nm]
theorem ty_say {t : Nd} {l : List Tk} (h : Ty t l) : Say t l := by
  induction h with
  | tint a =>
    exact ⟨by simp, by simp only [ag_app, ag_cons, ag_nil, gw_op, gw_once, gw_many, gw_def, gw_rec, gw_main, gw_let, gw_in, gw_fn, gw_if, gw_then, gw_else, gw_case, gw_of, gw_end, gw_do, gw_fst, gw_snd, gw_handle, gw_shallow, gw_with, gw_return, gw_true, gw_false, gw_int, gw_bool, gw_unit, gw_list, gt_op, gt_cp, gt_ob, gt_cb, gt_oc, gt_cc, gt_cm, gt_sc, gt_cn, gt_eq, gt_mi, gt_pl, gt_ti, gt_lt, gt_br, gt_tl, gt_cs, gt_ee, gt_ar, gt_to, and_self, true_and, and_true], wr_mk (Wr.tint a _ 0) (by_list (by rw [bl_def]; simp [bl_cons, bl_app, bl_one, inL_ne, inL_bl, bl_def, ap_toList, say_w, say_s, say_n]))⟩
  | tbool a =>
    exact ⟨by simp, by simp only [ag_app, ag_cons, ag_nil, gw_op, gw_once, gw_many, gw_def, gw_rec, gw_main, gw_let, gw_in, gw_fn, gw_if, gw_then, gw_else, gw_case, gw_of, gw_end, gw_do, gw_fst, gw_snd, gw_handle, gw_shallow, gw_with, gw_return, gw_true, gw_false, gw_int, gw_bool, gw_unit, gw_list, gt_op, gt_cp, gt_ob, gt_cb, gt_oc, gt_cc, gt_cm, gt_sc, gt_cn, gt_eq, gt_mi, gt_pl, gt_ti, gt_lt, gt_br, gt_tl, gt_cs, gt_ee, gt_ar, gt_to, and_self, true_and, and_true], wr_mk (Wr.tbool a _ 0) (by_list (by rw [bl_def]; simp [bl_cons, bl_app, bl_one, inL_ne, inL_bl, bl_def, ap_toList, say_w, say_s, say_n]))⟩
  | tunit a =>
    exact ⟨by simp, by simp only [ag_app, ag_cons, ag_nil, gw_op, gw_once, gw_many, gw_def, gw_rec, gw_main, gw_let, gw_in, gw_fn, gw_if, gw_then, gw_else, gw_case, gw_of, gw_end, gw_do, gw_fst, gw_snd, gw_handle, gw_shallow, gw_with, gw_return, gw_true, gw_false, gw_int, gw_bool, gw_unit, gw_list, gt_op, gt_cp, gt_ob, gt_cb, gt_oc, gt_cc, gt_cm, gt_sc, gt_cn, gt_eq, gt_mi, gt_pl, gt_ti, gt_lt, gt_br, gt_tl, gt_cs, gt_ee, gt_ar, gt_to, and_self, true_and, and_true], wr_mk (Wr.tunit a _ 0) (by_list (by rw [bl_def]; simp [bl_cons, bl_app, bl_one, inL_ne, inL_bl, bl_def, ap_toList, say_w, say_s, say_n]))⟩
  | tlist a x lx _ hx =>
    exact ⟨by simp, by simp only [ag_app, ag_cons, ag_nil, ag_inL hx.gt, hx.gt, gw_op, gw_once, gw_many, gw_def, gw_rec, gw_main, gw_let, gw_in, gw_fn, gw_if, gw_then, gw_else, gw_case, gw_of, gw_end, gw_do, gw_fst, gw_snd, gw_handle, gw_shallow, gw_with, gw_return, gw_true, gw_false, gw_int, gw_bool, gw_unit, gw_list, gt_op, gt_cp, gt_ob, gt_cb, gt_oc, gt_cc, gt_cm, gt_sc, gt_cn, gt_eq, gt_mi, gt_pl, gt_ti, gt_lt, gt_br, gt_tl, gt_cs, gt_ee, gt_ar, gt_to, and_self, true_and, and_true], wr_mk (Wr.tlist a _ 0 x _ hx.wr) (by_list (by rw [bl_def]; simp [bl_cons, bl_app, bl_one, inL_ne, inL_bl, bl_def, ap_toList, say_w, say_s, say_n, hx.ne]))⟩
  | tpair a x y lx ly _ _ hx hy =>
    exact ⟨by simp, by simp only [ag_app, ag_cons, ag_nil, ag_inL hx.gt, hx.gt, ag_inL hy.gt, hy.gt, gw_op, gw_once, gw_many, gw_def, gw_rec, gw_main, gw_let, gw_in, gw_fn, gw_if, gw_then, gw_else, gw_case, gw_of, gw_end, gw_do, gw_fst, gw_snd, gw_handle, gw_shallow, gw_with, gw_return, gw_true, gw_false, gw_int, gw_bool, gw_unit, gw_list, gt_op, gt_cp, gt_ob, gt_cb, gt_oc, gt_cc, gt_cm, gt_sc, gt_cn, gt_eq, gt_mi, gt_pl, gt_ti, gt_lt, gt_br, gt_tl, gt_cs, gt_ee, gt_ar, gt_to, and_self, true_and, and_true], wr_mk (Wr.tpair a _ 0 x y _ _ hx.wr hy.wr) (by_list (by rw [bl_def]; simp [bl_cons, bl_app, bl_one, inL_ne, inL_bl, bl_def, ap_toList, say_w, say_s, say_n, hx.ne, hy.ne]))⟩
  | tfn a x y lx ly ps h _ _ hx hy =>
    refine ⟨by simp [inL_ne, hx.ne], ?_, wr_mk (Wr.tfn a _ 0 x y _ _ (ps.map pNd) ?_ hx.wr hy.wr) (by_list ?_)⟩
    · rw [ag_app, ag_app]; exact ⟨⟨ag_inL hx.gt, arT_gt h⟩, hy.gt⟩
    · intro i hi
      rw [List.length_map] at hi
      rw [getD_map _ _ _ hi]
      exact gt_pos (h ps[i] (List.getElem_mem hi))
    · rw [bl_def, ap_toList, ap_toList, arT_bl]
      simp [bl_cons, bl_app, bl_one, inL_ne, inL_bl, bl_def, ap_toList, say_w, say_s, say_n, hx.ne, hy.ne, arT_ne]
end Go.Ag
