/- What is written of a tree that was read is read as that tree: the plain law. -/
import Derived.Test.YtinilkomfggjiaaDoorZk
import Derived.Test.YtinilkomfggjiaaDoorAgGood
set_option linter.unusedVariables false
set_option linter.unusedSimpArgs false
namespace Go.Ag
open Go.Gx (byteAt)
open Go.Lex Go.Syn
theorem parse_pg {s : ByteArray} {t : Nd} {a : Nat} (h : parseP s = (t, 0, a)) : ∃ p : PgD, p.Ok ∧ t = p.node ∧ sz t ≤ 400000000 := by
  unfold parseP at h
  split at h
  · cases h
  · rename_i hs
    have g0 : Gk s (nextR s q00) := ⟨first_ok (by omega), gq_next (fun _ => ⟨Nat.zero_le _, fun hk => absurd rfl hk⟩)⟩
    have pst := (run_ih (S := s) fuelP .prog _ g0).2
    have m0 : M s (nextR s q00) ≤ 3002 := by have := g0.1.size; unfold M; split <;> (try split) <;> omega
    generalize run s fuelP .prog (nextR s q00) = r at h pst
    dsimp only at h
    split at h
    · rename_i hl
      have f : r.2.fk = 0 := by
        unfold lastR at hl
        split at hl
        · rename_i ho; exact (okB_iff _).1 ho
        · rename_i ho; exact absurd hl ho
      obtain ⟨_, ⟨p, hp, e⟩, z⟩ := pst f
      cases h
      exact ⟨p, hp, e, by simp only [szA, szB] at z; omega⟩
    · rename_i hl
      simp only [Prod.mk.injEq] at h
      exact absurd ((okB_iff _).2 h.2.1) hl
def opF (o : OpD) : ByteArray → ByteArray := fun s => (((((((s ++ (⟨#[111, 112, 32]⟩ : ByteArray)) ++ (if o.n = 1 then (⟨#[111, 110, 99, 101, 32]⟩ : ByteArray) else (⟨#[109, 97, 110, 121, 32]⟩ : ByteArray))) ++ o.nm) ++ (⟨#[32, 58, 32]⟩ : ByteArray)) ++ joinW o.lx) ++ Z.k30) ++ joinW o.ly) ++ Z.k3
def dfF (o : DfD) : ByteArray → ByteArray := fun s => (((((s ++ (⟨#[100, 101, 102, 32]⟩ : ByteArray)) ++ (if o.n = 1 then (⟨#[114, 101, 99, 32]⟩ : ByteArray) else Z.E)) ++ o.nm) ++ Z.k3) ++ ((o.fx ++ Z.k52) ++ joinW o.lx)) ++ Z.k3
theorem opF_bl {o : OpD} (h : o.Ok) (s : ByteArray) : (opF o s).data.toList = s.data.toList ++ (bl o.tks ++ [32]) := by
  have hx := ty_say h.x
  have hy := ty_say h.y
  unfold opF OpD.tks
  rcases h.n with hn | hn <;> (rw [hn]; simp [bl_cons, bl_app, bl_one, inL_ne, inL_bl, bl_def, ap_toList, say_w, say_s, say_n, hx.ne, hy.ne])
theorem dfF_bl {o : DfD} (h : o.Ok) (s : ByteArray) : (dfF o s).data.toList = s.data.toList ++ (bl o.tks ++ [32]) := by
  have hx := tw_say h.x
  unfold dfF DfD.tks
  rcases h.n with hn | hn <;> (rw [hn]; simp [bl_cons, bl_app, bl_one, inL_ne, inL_bl, bl_def, ap_toList, say_w, say_s, say_n, hx.ne])
theorem op_dc {o : OpD} (h : o.Ok) : Dc o.node (opF o) := .op o.a o.nm o.n o.x o.y _ _ h.n (gt_pos h.nm) (ty_say h.x).wr (ty_say h.y).wr
theorem df_dc {o : DfD} (h : o.Ok) : Dc o.node (dfF o) := .df o.a o.nm o.n o.fa o.fx 0 o.x _ (gt_pos h.nm) (gt_pos h.fx) (tw_say h.x).wr
theorem dl_app {l m : List Nd} {f g : List (ByteArray → ByteArray)} (h : DL l f) (k : DL m g) : DL (l ++ m) (f ++ g) := by
  induction h with
  | nil => exact k
  | cons h1 _ ih => exact .cons h1 ih
theorem dl_ops {os : List OpD} (h : ∀ o ∈ os, o.Ok) : DL (os.map OpD.node) (os.map opF) := by
  induction os with
  | nil => exact .nil
  | cons o r ih => exact .cons (op_dc (h o List.mem_cons_self)) (ih (fun z hz => h z (List.mem_cons_of_mem _ hz)))
theorem dl_dfs {os : List DfD} (h : ∀ o ∈ os, o.Ok) : DL (os.map DfD.node) (os.map dfF) := by
  induction os with
  | nil => exact .nil
  | cons o r ih => exact .cons (df_dc (h o List.mem_cons_self)) (ih (fun z hz => h z (List.mem_cons_of_mem _ hz)))
theorem pg_ops {os : List OpD} (h : ∀ o ∈ os, o.Ok) : ∀ b, (pgF (os.map opF) b).data.toList = b.data.toList ++ os.flatMap (fun o => bl o.tks ++ [32]) := by
  induction os with
  | nil => intro b; simp [pgF]
  | cons o r ih =>
    intro b
    have := ih (fun z hz => h z (List.mem_cons_of_mem _ hz)) (opF o b)
    rw [opF_bl (h o List.mem_cons_self)] at this
    simp only [pgF, List.map_cons, List.foldl_cons] at this ⊢
    rw [this]; simp
theorem pg_dfs {os : List DfD} (h : ∀ o ∈ os, o.Ok) : ∀ b, (pgF (os.map dfF) b).data.toList = b.data.toList ++ os.flatMap (fun o => bl o.tks ++ [32]) := by
  induction os with
  | nil => intro b; simp [pgF]
  | cons o r ih =>
    intro b
    have := ih (fun z hz => h z (List.mem_cons_of_mem _ hz)) (dfF o b)
    rw [dfF_bl (h o List.mem_cons_self)] at this
    simp only [pgF, List.map_cons, List.foldl_cons] at this ⊢
    rw [this]; simp
theorem bl_flat {α : Type} (f : α → List Tk) (hf : ∀ a, f a ≠ []) (l : List α) (m : List Tk) (hm : m ≠ []) : bl (l.flatMap f ++ m) = l.flatMap (fun a => bl (f a) ++ [32]) ++ bl m := by
  induction l with
  | nil => rfl
  | cons a r ih =>
    rw [List.flatMap_cons, List.append_assoc, bl_app (hf a) (by simp [hm]), ih]
    simp
theorem pgF_app (f g : List (ByteArray → ByteArray)) (b : ByteArray) : pgF (f ++ g) b = pgF g (pgF f b) := by unfold pgF; rw [List.foldl_append]
def pgFs (p : PgD) : List (ByteArray → ByteArray) := p.os.map opF ++ p.ds.map dfF ++ [fun s => (s ++ Z.k61) ++ joinW p.le]
theorem prog_dl {p : PgD} (h : p.Ok) : DL (p.os.map OpD.node ++ p.ds.map DfD.node ++ [p.e]) (pgFs p) :=
  dl_app (dl_app (dl_ops h.os) (dl_dfs h.ds)) (.cons (.main p.e _ (wr_kind (tw_say h.e).wr) (tw_say h.e).wr) .nil)
theorem prog_say {p : PgD} (h : p.Ok) : pgF (pgFs p) Z.E = joinW p.tks := by
  have he := tw_say h.e
  refine by_list ?_
  unfold pgFs PgD.tks
  rw [bl_def, bl_flat OpD.tks (fun a => by simp [OpD.tks]) _ _ (by simp), bl_flat DfD.tks (fun a => by simp [DfD.tks]) _ _ (by simp), pgF_app, pgF_app]
  simp only [pgF, List.foldl_cons, List.foldl_nil]
  have e1 := pg_ops h.os Z.E
  have e2 := pg_dfs h.ds (pgF (p.os.map opF) Z.E)
  simp only [pgF] at e1 e2
  rw [ap_toList, ap_toList, e2, e1]
  simp [bl_cons, bl_app, bl_one, inL_ne, inL_bl, bl_def, ap_toList, say_w, say_s, say_n, he.ne]
theorem gt_size {x : Tk} (h : GT x) : 0 < (sayT x).size := by
  by_cases e : (sayT x).size = 0
  · have hs : sayT x = e0 := by
      generalize sayT x = s at e
      cases s with
      | mk d => have : d.size = 0 := e; have h2 : d = #[] := Array.eq_empty_of_size_eq_zero this; rw [h2]
    have := h.toks
    rw [hs, toks_nil0] at this
    simp [sigs] at this
  · omega
theorem len_le {l : List Tk} (h : AG l) : l.length ≤ (joinW l).size := by
  induction l with
  | nil => exact Nat.zero_le _
  | cons x r ih =>
    have hx := gt_size (ag_cons.1 h).1
    have hr := ih (ag_cons.1 h).2
    by_cases hn : r = []
    · subst hn; exact hx
    · rw [joinW_cons x hn, ByteArray.size_append, ByteArray.size_append, List.length_cons]
      have : ((⟨#[32, 32]⟩ : ByteArray).size = 2) := rfl
      omega
theorem pg_ag {p : PgD} (h : p.Ok) : AG p.tks := by
  have h1 : AG (p.os.flatMap OpD.tks) := by
    intro x hx
    obtain ⟨o, ho, hm⟩ := List.mem_flatMap.1 hx
    have g := h.os o ho
    have g1 := (ty_say g.x).gt
    have g2 := (ty_say g.y).gt
    have : AG o.tks := by
      unfold OpD.tks
      rcases g.n with hn | hn <;> (rw [hn]; simp [ag_app, ag_cons, ag_nil, g1, g2, g.nm, gw_op, gw_once, gw_many, gt_cn, gt_ar])
    exact this x hm
  have h2 : AG (p.ds.flatMap DfD.tks) := by
    intro x hx
    obtain ⟨o, ho, hm⟩ := List.mem_flatMap.1 hx
    have g := h.ds o ho
    have g1 := (tw_say g.x).gt
    have : AG o.tks := by
      unfold DfD.tks
      rcases g.n with hn | hn <;> (rw [hn]; simp [ag_app, ag_cons, ag_nil, g1, g.nm, g.fx, gw_def, gw_rec, gt_eq])
    exact this x hm
  have h3 := (tw_say h.e).gt
  unfold PgD.tks
  simp [ag_app, ag_cons, ag_nil, h1, h2, h3, gw_main, gt_eq]
theorem reparse {p : PgD} (h : p.Ok) (hz : (joinW p.tks).size ≤ 3000) (hh : hgt p.node ≤ 200) : ∃ p' : PgD, parseP (joinW p.tks) = (p'.node, 0, 0) ∧ p'.Ok ∧ p'.tks = p.tks ∧ Sm p.node p'.node := by
  have ag := pg_ag h
  have hl := len_le ag
  have s0 := St.first (toks_joinW ag)
  obtain ⟨p', q', e1, s1, o1, t1, m1⟩ := prog_rd h hh (S := joinW p.tks) (k := fuelP) (q := nextR (joinW p.tks) q00) (by show _ ≤ 48100; omega) s0 rfl rfl
  obtain ⟨k1, _, _⟩ := St.head (k := 0) (t := e0) (n := 0) s1
  have hk : (((q'.k : Nat) : Int) != (0 : Int)) = false := by rw [k1]; rfl
  refine ⟨p', ?_, o1, t1, m1⟩
  unfold parseP
  rw [if_neg (by omega)]
  simp only [e1, lastR, s1.ok, hk, Bool.false_eq_true, if_true, if_false, reduceIte]
end Go.Ag
