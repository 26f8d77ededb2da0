/- What is written of a tree is one text; how long, how high: plain laws. -/
import Derived.Test.YtinilkomfggjiaaDoorZk
import Derived.Test.YtinilkomfggjiaaDoorAgLaw
set_option linter.unusedVariables false
set_option linter.unusedSimpArgs false
namespace Go.Ag
open Go.Gx (byteAt)
open Go.Lex Go.Syn
def W : List Tk → Nat
  | [] => 0
  | x :: r => (sayT x).size + 2 + W r
theorem W_app (l m : List Tk) : W (l ++ m) = W l + W m := by
  induction l with
  | nil => simp [W]
  | cons x r ih => simp only [List.cons_append, W, ih]; omega
theorem W_le (l : List Tk) : (joinW l).size ≤ W l := by
  induction l with
  | nil => exact Nat.zero_le _
  | cons x r ih =>
    by_cases hn : r = []
    · subst hn; exact Nat.le_add_right _ _
    · rw [joinW_cons x hn, ByteArray.size_append, ByteArray.size_append, W]
      have : (⟨[32].toArray⟩ : ByteArray).size = 1 := rfl
      simp only [szl, List.length_cons, List.length_nil]; omega
theorem inL_w {k : Int} {x : Nd} {l : List Tk} : W (inL k x l) ≤ W l + 6 := by
  unfold inL; split
  · simp only [W_app, W, say_w, say_s, say_n, sz, szL, szl, List.length_cons, List.length_nil]; omega
  · omega
theorem flat_w {α : Type} (f : α → List Tk) (g : α → Nd) : ∀ {l : List α}, (∀ a ∈ l, W (f a) ≤ sz (g a)) → W (l.flatMap f) ≤ szL (l.map g)
  | [], _ => Nat.le_refl _
  | a :: r, h => by
    have h1 := h a List.mem_cons_self
    have h2 := flat_w f g (fun z hz => h z (List.mem_cons_of_mem a hz))
    rw [List.flatMap_cons, W_app, List.map_cons, szL]; omega
theorem intL_w {n : Int} (h1 : -9223372036854775807 ≤ n) (h2 : n ≤ 9223372036854775807) : W (intL n) ≤ 60 := by
  have h := (intT_le h1 h2).2
  unfold intT at h; unfold intL
  split at h <;> rename_i hn
  · rw [if_pos hn]; rw [ByteArray.size_append] at h; simp only [W_app, W, say_w, say_s, say_n, sz, szL, szl, List.length_cons, List.length_nil, say_u]; omega
  · rw [if_neg hn]; simp only [W, say_u]; omega
theorem ps_w : ∀ ps : List (Nat × ByteArray), W (psL (ps.map (·.2))) ≤ szL (ps.map pNd)
  | [] => Nat.le_refl _
  | [p] => by simp only [List.map_cons, List.map_nil, psL, pNd, W_app, W, say_w, say_s, say_n, sz, szL, szl, List.length_cons, List.length_nil]; omega
  | p :: q :: r => by
    have h := ps_w (q :: r)
    simp only [List.map_cons, psL, pNd, W_app, W, say_w, say_s, say_n, sz, szL, szl, List.length_cons, List.length_nil] at h ⊢; omega
theorem tw_w {t : Nd} {l : List Tk} (h : Tw t l) : W l ≤ sz t := by
  induction h with
  | eint a n h1 h2 h3 => have := intL_w h1 h2; simp only [W_app, W, say_w, say_s, say_n, sz, szL, szl, List.length_cons, List.length_nil]; omega
  | ebool a n h => split <;> simp only [W_app, W, say_w, say_s, say_n, sz, szL, szl, List.length_cons, List.length_nil] <;> omega
  | eunit a => simp only [W_app, W, say_w, say_s, say_n, sz, szL, szl, List.length_cons, List.length_nil]; omega
  | evar a nm h => simp only [W_app, W, say_w, say_s, say_n, sz, szL, szl, List.length_cons, List.length_nil]; omega
  | enil a => simp only [W_app, W, say_w, say_s, say_n, sz, szL, szl, List.length_cons, List.length_nil]; omega
  | efn a nm x lx h _ hx => simp only [W_app, W, say_w, say_s, say_n, sz, szL, szl, List.length_cons, List.length_nil]; omega
  | eapp a x y lx ly w w2 hx hy => have h0 := @inL_w 6 x lx; have h1 := @inL_w 6 y ly; split <;> simp only [W_app, W, say_w, say_s, say_n, sz, szL, szl, List.length_cons, List.length_nil] <;> omega
  | elet0 a nm x y lx ly h _ _ hx hy => simp only [W_app, W, say_w, say_s, say_n, sz, szL, szl, List.length_cons, List.length_nil]; omega
  | elet1 a nm fa fx x y lx ly h h2 _ _ hx hy => simp only [W_app, W, say_w, say_s, say_n, sz, szL, szl, List.length_cons, List.length_nil]; omega
  | eseq a x y lx ly w w2 hx hy => have h0 := @inL_w 1 x lx; simp only [W_app, W, say_w, say_s, say_n, sz, szL, szl, List.length_cons, List.length_nil]; omega
  | eif a x y z lx ly lz _ _ _ hx hy hz => simp only [W_app, W, say_w, say_s, say_n, sz, szL, szl, List.length_cons, List.length_nil]; omega
  | epair a x y lx ly _ _ hx hy => simp only [W_app, W, say_w, say_s, say_n, sz, szL, szl, List.length_cons, List.length_nil]; omega
  | efst a x lx _ hx => have h0 := @inL_w 6 x lx; simp only [W_app, W, say_w, say_s, say_n, sz, szL, szl, List.length_cons, List.length_nil]; omega
  | esnd a x lx _ hx => have h0 := @inL_w 6 x lx; simp only [W_app, W, say_w, say_s, say_n, sz, szL, szl, List.length_cons, List.length_nil]; omega
  | econs a x y lx ly w w2 hx hy => have h0 := @inL_w 3 x lx; have h1 := @inL_w 2 y ly; simp only [W_app, W, say_w, say_s, say_n, sz, szL, szl, List.length_cons, List.length_nil]; omega
  | ecase a x y z ua va un vn lx ly lz h h2 _ _ _ hx hy hz => simp only [W_app, W, say_w, say_s, say_n, sz, szL, szl, List.length_cons, List.length_nil]; omega
  | edo a nm x lx h _ hx => have h0 := @inL_w 6 x lx; simp only [W_app, W, say_w, say_s, say_n, sz, szL, szl, List.length_cons, List.length_nil]; omega
  | eop a nm x y lx ly h w w2 hx hy =>
    have e : W (opL nm x y lx ly) ≤ W lx + W ly + nm.size + 20 := by
      have h1 := fun k => @inL_w k x lx; have h2 := fun k => @inL_w k y ly
      have a1 := h1 2; have a2 := h1 3; have a3 := h1 4; have b1 := h2 2; have b2 := h2 4; have b3 := h2 5
      unfold opL
      split <;> (try split) <;> simp only [W_app, W, say_w, say_s, say_n, sz, szL, szl, List.length_cons, List.length_nil] <;> omega
    simp only [sz, szL]; omega
  | ehandle a n x b ra rn lx lb cs hn h hc _ _ _ hx hb hcs =>
    have h1 := flat_w Cd.tks Cd.node (l := cs) (fun c hc => by have := hcs c hc; simp only [Cd.tks, Cd.node, W_app, W, say_w, say_s, say_n, sz, szL, szl, List.length_cons, List.length_nil]; omega)
    split <;> simp only [W_app, W, say_w, say_s, say_n, sz, szL, szl, List.length_cons, List.length_nil] <;> omega
theorem ty_w {t : Nd} {l : List Tk} (h : Ty t l) : W l ≤ sz t := by
  induction h with
  | tint a => simp only [W_app, W, say_w, say_s, say_n, sz, szL, szl, List.length_cons, List.length_nil]; omega
  | tbool a => simp only [W_app, W, say_w, say_s, say_n, sz, szL, szl, List.length_cons, List.length_nil]; omega
  | tunit a => simp only [W_app, W, say_w, say_s, say_n, sz, szL, szl, List.length_cons, List.length_nil]; omega
  | tlist a x lx _ hx => have h0 := @inL_w 2 x lx; simp only [W_app, W, say_w, say_s, say_n, sz, szL, szl, List.length_cons, List.length_nil]; omega
  | tpair a x y lx ly _ _ hx hy => have h0 := @inL_w 2 x lx; have h1 := @inL_w 1 y ly; simp only [W_app, W, say_w, say_s, say_n, sz, szL, szl, List.length_cons, List.length_nil]; omega
  | tfn a x y lx ly ps h w w2 hx hy =>
    have h0 := @inL_w 1 x lx; have h1 := ps_w ps
    have h2 : W (arT (ps.map (·.2))) ≤ W (psL (ps.map (·.2))) + 20 := by unfold arT; split <;> simp only [W_app, W, say_w, say_s, say_n, sz, szL, szl, List.length_cons, List.length_nil] <;> omega
    simp only [W_app, sz, szL]; omega
mutual
theorem hgt_le : ∀ t : Nd, hgt t ≤ sz t
  | .mk _ _ nm _ ks => by have := hgtL_le ks; simp only [hgt, sz]; omega
theorem hgtL_le : ∀ l : List Nd, hgtL l ≤ szL l
  | [] => Nat.le_refl _
  | x :: r => by have := hgt_le x; have := hgtL_le r; simp only [hgtL, szL]; omega
end
theorem pg_w {p : PgD} (h : p.Ok) : W p.tks ≤ sz p.node := by
  have h1 := flat_w OpD.tks OpD.node (l := p.os) (fun o ho => by
    have g := h.os o ho; have g1 := ty_w g.x; have g2 := ty_w g.y
    simp only [OpD.tks, OpD.node]; split <;> simp only [W_app, W, say_w, say_s, say_n, sz, szL, szl, List.length_cons, List.length_nil] <;> omega)
  have h2 := flat_w DfD.tks DfD.node (l := p.ds) (fun o ho => by
    have g := h.ds o ho; have g1 := tw_w g.x
    simp only [DfD.tks, DfD.node]; split <;> simp only [W_app, W, say_w, say_s, say_n, sz, szL, szl, List.length_cons, List.length_nil] <;> omega)
  have h3 := tw_w h.e
  simp only [PgD.tks, PgD.node, szL_app, W_app, W, say_w, say_s, say_n, sz, szL, szl, List.length_cons, List.length_nil]; omega
theorem gt_one : GT (nuT 1) := by
  have hs : ((⟨#[49]⟩ : ByteArray).size = 1) := rfl
  have hb : byteAt (⟨#[49]⟩ : ByteArray) 0 = 49 := rfl
  have e : tokAt (⟨#[49]⟩ : ByteArray) 0 = ⟨1, 0, ⟨#[]⟩, 1, 1, 0, 0⟩ := by
    have h3 : stop digitB (⟨#[49]⟩ : ByteArray) 0 = 1 := by rw [stop_go (by rw [hs]; omega) (by rw [hb]; decide +kernel), stop_at (by rw [hs]; omega)]
    unfold tokAt
    rw [hb, if_pos (by decide +kernel)]
    unfold numAt
    have h4 : numOk (⟨#[49]⟩ : ByteArray) 0 1 = true := by decide +kernel
    have h5 : dval (⟨#[49]⟩ : ByteArray) 0 (1 - 0) = 1 := by decide +kernel
    rw [h3, if_pos h4, h5]
  have g := GT.of (self_tok (s := (⟨#[49]⟩ : ByteArray)) (j := 0) (by rw [hs]; omega) (by rw [e]))
  rw [e] at g
  exact g
theorem main_ex : ∃ p : PgD, p.Ok ∧ parseP Z.k53 = (p.node, 0, 0) ∧ joinW p.tks = Z.k53 := by
  have ok : PgD.Ok ⟨[], [], .mk 3 0 Z.E 1 [], intL 1⟩ := ⟨fun o h => (by cases h), fun o h => (by cases h), .eint 0 1 (by decide) (by decide) gt_one⟩
  have hj : joinW (PgD.tks ⟨[], [], .mk 3 0 Z.E 1 [], intL 1⟩) = Z.k53 := by
    have e1 : PgD.tks ⟨[], [], .mk 3 0 Z.E 1 [], intL 1⟩ = [wd Z.k44, sg Z.k7, nuT 1] := rfl
    rw [e1, joinW, joinW, joinW, say_w, say_s, say_u, Show.dig_small (by decide)]
    rfl
  obtain ⟨p', e1, o1, t1, m1⟩ := reparse ok (by rw [hj]; decide) (by decide)
  rw [hj] at e1
  exact ⟨p', o1, e1, by rw [t1, hj]⟩
theorem pg_size {s : ByteArray} {p : PgD} {a : Nat} (h : parseP s = (p.node, 0, a)) : sz p.node ≤ 400000000 := by
  obtain ⟨_, _, e, z⟩ := parse_pg h
  exact z
theorem pg_bound {s : ByteArray} {p : PgD} {a : Nat} (hp : p.Ok) (h : parseP s = (p.node, 0, a)) : (joinW p.tks).size ≤ 400000000 := Nat.le_trans (W_le _) (Nat.le_trans (pg_w hp) (pg_size h))
theorem pg_small {s : ByteArray} {p : PgD} {a : Nat} (hp : p.Ok) (h : parseP s = (p.node, 0, a)) : hgt p.node ≤ 1000000000 := Nat.le_trans (hgt_le _) (Nat.le_trans (pg_size h) (by decide))
theorem parse_nd0 {s : ByteArray} {t : Nd} {fk fa : Nat} (h : parseP s = (t, fk, fa)) (hf : fk ≠ 0) : t = nd0 := by
  unfold parseP at h
  split at h
  · cases h; rfl
  · dsimp only at h
    split at h
    · cases h; exact absurd rfl hf
    · cases h; rfl
end Go.Ag
