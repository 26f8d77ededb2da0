/- How what is written grows, piece by piece: plain laws. -/
import Derived.Test.YtinilkomfggjiaaDoorZk
import Derived.Test.YtinilkomfggjiaaDoorSynGood
set_option linter.unusedVariables false
set_option linter.unusedSimpArgs false
namespace Go.Syn
open Go.Show (digB)
open Go.Lex
theorem cl1_grow (c : Nd) (s b : ByteArray) : b.size ≤ (cl1 c s b).size := by
  unfold cl1
  simp only [ByteArray.size_append]
  omega
theorem clT_grow (cs : List Nd) (ss : List ByteArray) (b : ByteArray) : b.size ≤ (clT cs ss b).size := by
  induction cs generalizing ss b with
  | nil => exact Nat.le_refl _
  | cons c cs ih =>
    cases ss with
    | nil => exact Nat.le_refl _
    | cons s ss => exact Nat.le_trans (cl1_grow c s b) (ih ss _)
theorem clT_succ (cs : List Nd) (ss : List ByteArray) (b : ByteArray) (j : Nat) (h : ss.length = cs.length) (hj : j < cs.length) : clT (cs.take (j + 1)) (ss.take (j + 1)) b = cl1 (cs.getD j nd0) (ss.getD j Z.E) (clT (cs.take j) (ss.take j) b) := by
  induction cs generalizing ss b j with
  | nil => exact absurd hj (Nat.not_lt_zero j)
  | cons c cs ih =>
    cases ss with
    | nil => cases h
    | cons s ss =>
      cases j with
      | zero => rfl
      | succ j => exact ih ss (cl1 c s b) j (by simpa using h) (by simpa using hj)
theorem clT_le (cs : List Nd) (ss : List ByteArray) (b : ByteArray) (j : Nat) : (clT (cs.take j) (ss.take j) b).size ≤ (clT cs ss b).size := by
  induction cs generalizing ss b j with
  | nil => simp [clT]
  | cons c cs ih =>
    cases ss with
    | nil => cases j <;> exact Nat.le_refl _
    | cons s ss =>
      cases j with
      | zero => exact clT_grow (c :: cs) (s :: ss) b
      | succ j => exact ih ss (cl1 c s b) j
theorem clT_all (cs : List Nd) (ss : List ByteArray) (b : ByteArray) (h : ss.length = cs.length) : clT (cs.take cs.length) (ss.take cs.length) b = clT cs ss b := by
  rw [List.take_length, ← h, List.take_length]
theorem Dc.grow {d : Nd} {f : ByteArray → ByteArray} (h : Dc d f) (b : ByteArray) : b.size ≤ (f b).size := by
  cases h
  all_goals (simp only [ByteArray.size_append]; omega)
theorem DL.len {ds : List Nd} {fs : List (ByteArray → ByteArray)} (h : DL ds fs) : fs.length = ds.length := by
  induction h with
  | nil => rfl
  | cons _ _ ih => simp [ih]
theorem DL.at_ {ds : List Nd} {fs : List (ByteArray → ByteArray)} (h : DL ds fs) (i : Nat) (hi : i < ds.length) : Dc (ds.getD i nd0) (fs.getD i id) := by
  induction h generalizing i with
  | nil => exact absurd hi (Nat.not_lt_zero i)
  | cons h1 _ ih =>
    cases i with
    | zero => exact h1
    | succ i => exact ih i (by simpa using hi)
theorem pgF_succ (fs : List (ByteArray → ByteArray)) (b : ByteArray) (i : Nat) (hi : i < fs.length) : pgF (fs.take (i + 1)) b = (fs.getD i id) (pgF (fs.take i) b) := by
  unfold pgF
  rw [← List.take_append_getElem hi, List.foldl_append, List.getD_eq_getElem?_getD, List.getElem?_eq_getElem hi]
  rfl
theorem pgF_grow {ds : List Nd} {fs : List (ByteArray → ByteArray)} (h : DL ds fs) (b : ByteArray) : b.size ≤ (pgF fs b).size := by
  induction h generalizing b with
  | nil => exact Nat.le_refl _
  | @cons d f ds fs h1 _ ih => exact Nat.le_trans (h1.grow b) (ih (f b))
theorem pgF_le {ds : List Nd} {fs : List (ByteArray → ByteArray)} (h : DL ds fs) (b : ByteArray) (i : Nat) : (pgF (fs.take i) b).size ≤ (pgF fs b).size := by
  induction h generalizing b i with
  | nil => simp
  | @cons d f ds fs h1 h2 ih =>
    cases i with
    | zero => exact pgF_grow (.cons h1 h2) b
    | succ i => exact ih (f b) i
theorem arL_succ (ps : List Nd) (i : Nat) : arL ps (i + 1) = (if i > 0 then arL ps i ++ Z.k60 else arL ps i) ++ (ps.getD i nd0).nm := rfl
theorem arL_len (ps : List Nd) (h : ∀ i, i < ps.length → 0 < (ps.getD i nd0).nm.size) : ∀ i, i ≤ ps.length → i ≤ (arL ps i).size := by
  intro i
  induction i with
  | zero => intro _; exact Nat.zero_le _
  | succ i ih =>
    intro hi
    have := ih (by omega)
    have := h i (by omega)
    rw [arL_succ]
    split <;> simp only [ByteArray.size_append] <;> omega
theorem arrT_bd (ps : List Nd) : (arL ps ps.length).size ≤ (arrT ps).size + 5 := by
  unfold arrT
  split
  · rename_i h; rw [h]; show 5 ≤ _; omega
  · rw [ByteArray.size_append]; omega
theorem clT_le' (cs : List Nd) (ss : List ByteArray) (b : ByteArray) (j : Nat) (h : ss.length = cs.length) (hj : j < cs.length) : (cl1 (cs.getD j nd0) (ss.getD j Z.E) (clT (cs.take j) (ss.take j) b)).size ≤ (clT cs ss b).size := by
  rw [← clT_succ cs ss b j h hj]
  exact clT_le cs ss b (j + 1)
theorem clT_len (cs : List Nd) (ss : List ByteArray) (b : ByteArray) (h : ss.length = cs.length) : ∀ j, j ≤ cs.length → j ≤ (clT (cs.take j) (ss.take j) b).size := by
  intro j
  induction j with
  | zero => intro _; exact Nat.zero_le _
  | succ j ih =>
    intro hj
    have := ih (by omega)
    rw [clT_succ cs ss b j h (by omega)]
    unfold cl1
    simp only [ByteArray.size_append, lz3]
    omega
theorem pgF_le' {ds : List Nd} {fs : List (ByteArray → ByteArray)} (h : DL ds fs) (b : ByteArray) (i : Nat) (hi : i < ds.length) : ((fs.getD i id) (pgF (fs.take i) b)).size ≤ (pgF fs b).size := by
  rw [← pgF_succ fs b i (by rw [h.len]; exact hi)]
  exact pgF_le h b (i + 1)
theorem pgF_len {ds : List Nd} {fs : List (ByteArray → ByteArray)} (h : DL ds fs) (b : ByteArray) : ∀ i, i ≤ ds.length → i ≤ (pgF (fs.take i) b).size := by
  intro i
  induction i with
  | zero => intro _; exact Nat.zero_le _
  | succ i ih =>
    intro hi
    have h1 := ih (by omega)
    rw [pgF_succ fs b i (by rw [h.len]; omega)]
    have h2 := h.at_ i (by omega)
    generalize pgF (fs.take i) b = s at h1 ⊢
    generalize ds.getD i nd0 = d at h2
    generalize fs.getD i id = f at h2 ⊢
    cases h2
    all_goals (simp only [ByteArray.size_append, lz3, lz4, lz7]; omega)
theorem Dc.op_inv {d : Nd} {f : ByteArray → ByteArray} (h : Dc d f) (k : d.k = 1) : ∃ sx sy, d.ks.length = 2 ∧ (d.n = 0 ∨ d.n = 1) ∧ 0 < d.nm.size ∧ Wr (d.ks.getD 0 nd0) sx ∧ Wr (d.ks.getD 1 nd0) sy ∧
    f = (fun s => (((((((s ++ (⟨#[111, 112, 32]⟩ : ByteArray)) ++ (if d.n = 1 then (⟨#[111, 110, 99, 101, 32]⟩ : ByteArray) else (⟨#[109, 97, 110, 121, 32]⟩ : ByteArray))) ++ d.nm) ++ (⟨#[32, 58, 32]⟩ : ByteArray)) ++ sx) ++ Z.k30) ++ sy) ++ Z.k3) := by
  cases h with
  | op a nm n x y sx sy hn hm wx wy => exact ⟨sx, sy, rfl, hn, hm, wx, wy, rfl⟩
  | df => cases k
  | main x sx hk => omega
theorem Dc.df_inv {d : Nd} {f : ByteArray → ByteArray} (h : Dc d f) (k : d.k = 2) : ∃ fa fx fm x sx, d.ks.length = 1 ∧ d.ks.getD 0 nd0 = .mk 7 fa fx fm [x] ∧ 0 < d.nm.size ∧ 0 < fx.size ∧ Wr x sx ∧
    f = (fun s => (((((s ++ (⟨#[100, 101, 102, 32]⟩ : ByteArray)) ++ (if d.n = 1 then (⟨#[114, 101, 99, 32]⟩ : ByteArray) else Z.E)) ++ d.nm) ++ Z.k3) ++ ((fx ++ Z.k52) ++ sx)) ++ Z.k3) := by
  cases h with
  | op => cases k
  | df a nm n fa fx fm x sx hm hx wx => exact ⟨fa, fx, fm, x, sx, rfl, rfl, hm, hx, wx, rfl⟩
  | main x sx hk => omega
theorem Dc.main_inv {d : Nd} {f : ByteArray → ByteArray} (h : Dc d f) (k1 : d.k ≠ 1) (k2 : d.k ≠ 2) : 3 ≤ d.k ∧ ∃ sx, Wr d sx ∧ f = (fun s => (s ++ Z.k61) ++ sx) := by
  cases h with
  | op => exact absurd rfl k1
  | df => exact absurd rfl k2
  | main x sx hk w => exact ⟨hk, _, w, rfl⟩
def arJ (ps : List Nd) : Nat → ByteArray
  | 0 => (⟨#[45, 32, 123]⟩ : ByteArray)
  | i + 1 => ((if i > 0 then (arJ ps i ++ Z.k3) ++ Z.k16 else arJ ps i) ++ Z.k3) ++ (ps.getD i nd0).nm
theorem arJ_succ (ps : List Nd) (i : Nat) : arJ ps (i + 1) = ((if i > 0 then (arJ ps i ++ Z.k3) ++ Z.k16 else arJ ps i) ++ Z.k3) ++ (ps.getD i nd0).nm := rfl
theorem bl {a b : ByteArray} (h : a.data.toList = b.data.toList) : a = b := bytes_ext (by rw [ByteArray.toList_eq, ByteArray.toList_eq]; exact h)
theorem l_app (a b : ByteArray) : (a ++ b).data.toList = a.data.toList ++ b.data.toList := by rw [ByteArray.data_append, Array.toList_append]
theorem arL_arJ (ps : List Nd) (i : Nat) : arL ps (i + 1) = Z.k3 ++ arJ ps (i + 1) := by
  induction i with
  | zero => exact bl (by simp [arL_succ, arJ_succ, arL, arJ, l_app])
  | succ i ih =>
    rw [arL_succ ps (i + 1), arJ_succ ps (i + 1), ih, if_pos (Nat.succ_pos i), if_pos (Nat.succ_pos i)]
    exact bl (by simp [l_app])
theorem arrT_arJ (ps : List Nd) (h : ps.length ≠ 0) : arrT ps = (Z.k3 ++ arJ ps ps.length) ++ (⟨#[32, 125, 32, 45, 62, 32]⟩ : ByteArray) := by
  unfold arrT
  rw [if_neg h]
  obtain ⟨i, hi⟩ : ∃ i, ps.length = i + 1 := ⟨ps.length - 1, by omega⟩
  rw [hi, arL_arJ]
theorem arJ_mono (ps : List Nd) (i k : Nat) : (arJ ps i).size ≤ (arJ ps (i + k)).size := by
  induction k with
  | zero => exact Nat.le_refl _
  | succ k ih =>
    refine Nat.le_trans ih ?_
    rw [show i + (k + 1) = (i + k) + 1 by omega, arJ_succ]
    split <;> simp only [ByteArray.size_append] <;> omega
theorem arJ_le (ps : List Nd) (i : Nat) (h : i ≤ ps.length) : (arJ ps i).size ≤ (arJ ps ps.length).size := by
  have := arJ_mono ps i (ps.length - i)
  rwa [show i + (ps.length - i) = ps.length by omega] at this
theorem arJ_pos (ps : List Nd) (i : Nat) : 0 < (arJ ps i).size := by
  have := arJ_mono ps 0 i
  rw [Nat.zero_add] at this
  have h : (arJ ps 0).size = 3 := rfl
  omega
theorem arJ_step (ps : List Nd) (i : Nat) : (arJ ps i).size + 1 + (ps.getD i nd0).nm.size ≤ (arJ ps (i + 1)).size := by
  rw [arJ_succ]
  split <;> simp only [ByteArray.size_append, lz1] <;> omega
theorem beq_tl {a b : ByteArray} : (a.toList == b.toList) = true ↔ a = b := ⟨fun h => bytes_ext (by simpa using h), fun h => by simp [h]⟩
theorem lvl_op (a : Nat) (nm : ByteArray) (n : Int) (ks : List Nd) : lvl (.mk 18 a nm n ks) = if nm = Z.k8 ∨ nm = Z.k17 then 1 else if nm = Z.k6 then 4 else 3 := rfl
end Go.Syn
