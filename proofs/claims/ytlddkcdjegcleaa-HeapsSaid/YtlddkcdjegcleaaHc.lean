/- Collect: the table of first places, what is turned, what slides. -/
import Derived.Test.YtlddkcdjegcleaaHk
set_option linter.unusedVariables false
set_option linter.unusedSimpArgs false
namespace Go.Hp
def kt (M : List Th) (f : Nat → Bool) (k : Nat) : Nat := (ks f M.length).getD k 0
theorem kt_of {M : List Th} {f : Nat → Bool} {k : Nat} (h : k < (ks f M.length).length) : kt M f k < M.length ∧ f (kt M f k) = true ∧ k = (ks f (kt M f k)).length := by
  have e : (ks f M.length)[k]? = some (kt M f k) := by unfold kt; rw [List.getD_eq_getElem?_getD, List.getElem?_eq_getElem h]; rfl
  exact ks_of e
theorem kt_at {M : List Th} {f : Nat → Bool} {i : Nat} (h : i < M.length) (hf : f i = true) : kt M f (ks f i).length = i := by
  unfold kt; rw [List.getD_eq_getElem?_getD, ks_at h hf]; rfl
/-- Numbers of things by their ranks. -/
theorem rk_lt {f : Nat → Bool} {i j : Nat} (h : (ks f i).length < (ks f j).length) : i < j := by
  rcases Nat.lt_or_ge i j with q | q
  · exact q
  · have := (ks_pre f q).length_le; omega
/-! ### First places -/
def F1 (M : List Th) (f : Nat → Bool) : Nat → Nat → Int
  | 0 => fun _ => -1
  | k + 1 => fun j => if j = adr M (kt M f k) / 64 ∧ F1 M f k j < 0 then (nx M f (kt M f k) : Int) else F1 M f k j
theorem F1_ok (M : List Th) (f : Nat → Bool) : ∀ k, k ≤ (ks f M.length).length → (∀ j, F1 M f k j = -1 ∨ F1 M f k j = (Sx M f (64 * j) : Int)) ∧ ∀ i, i < M.length → f i = true → (ks f i).length < k → F1 M f k (adr M i / 64) = (Sx M f (64 * (adr M i / 64)) : Int)
  | 0, _ => ⟨fun _ => .inl rfl, fun _ _ _ h => by omega⟩
  | k + 1, hk => by
    obtain ⟨h1, h2⟩ := F1_ok M f k (by omega)
    obtain ⟨hi, hf, hr⟩ := kt_of (M := M) (f := f) (k := k) (by omega)
    generalize hii : kt M f k = ii at hi hf hr
    have key : F1 M f k (adr M ii / 64) < 0 → (nx M f ii : Int) = (Sx M f (64 * (adr M ii / 64)) : Int) := fun hneg => by
      rw [← Sx_adr (by omega)]
      congr 1
      refine Sx_gap (by omega) fun i' hi' hf' hle => ?_
      rcases Nat.lt_or_ge (adr M i') (adr M ii) with q | q
      · have hlt : i' < ii := (adr_lt_iff (by omega) (by omega)).1 q
        have h3 := h2 i' hi' hf' (by rw [hr]; exact ks_len_lt hlt hf')
        rw [show adr M i' / 64 = adr M ii / 64 by omega] at h3
        omega
      · exact q
    refine ⟨fun j => ?_, fun i hil hfi hrk => ?_⟩
    · simp only [F1, hii]
      split
      · rename_i hj; obtain ⟨rfl, hneg⟩ := hj; exact .inr (key hneg)
      · exact h1 j
    · simp only [F1, hii]
      by_cases e : i = ii
      · subst e
        split
        · rename_i hj; exact key hj.2
        · rename_i hj
          rcases h1 (adr M i / 64) with q | q
          · exact absurd ⟨rfl, by omega⟩ hj
          · exact q
      · have hr2 : (ks f i).length < k := by
          rcases Nat.lt_or_ge (ks f i).length k with q | q
          · exact q
          · have : (ks f i).length = (ks f ii).length := by omega
            have e1 := kt_at (M := M) hil hfi
            rw [this, kt_at hi hf] at e1
            exact absurd e1.symm e
        have h3 := h2 i hil hfi hr2
        split
        · rename_i hj; have := hj.2; omega
        · exact h3
def T1 (M : List Th) (f : Nat → Bool) (k : Nat) : Nat := (((ks f M.length).take k).map (szAt M)).sum
theorem ks_sum (M : List Th) (f : Nat → Bool) (i : Nat) : ((ks f i).map (szAt M)).sum = nx M f i := by
  induction i with
  | zero => rfl
  | succ i ih => rw [ks_succ, List.map_append, List.sum_append, ih, nx_succ]; split <;> simp
theorem T1_at {M : List Th} {f : Nat → Bool} {i : Nat} (h : i ≤ M.length) : T1 M f (ks f i).length = nx M f i := by
  obtain ⟨t, ht⟩ := ks_pre f h
  unfold T1
  rw [← ht, List.take_left, ks_sum]
theorem T1_next {M : List Th} {f : Nat → Bool} {i : Nat} {t : Th} (ht : M[i]? = some t) (hf : f i = true) : T1 M f ((ks f i).length + 1) = nx M f i + t.l.length + 1 := by
  rw [ks_yes hf, T1_at (List.getElem?_eq_some_iff.1 ht).1, nx_yes ht hf]; omega
/-! ### What is turned -/
def mapR (g : Cl → Cl) (D : Nat → Cl) (lo hi : Nat) : Nat → Cl := fun x => if lo ≤ x ∧ x < hi then g (D x) else D x
theorem mapR_step (g : Cl → Cl) (D : Nat → Cl) {lo x : Nat} (h : lo ≤ x) : upd (mapR g D lo x) x (g (D x)) = mapR g D lo (x + 1) := by
  funext y
  unfold upd mapR
  by_cases q : y = x
  · subst q; rw [if_pos rfl, if_pos ⟨h, by omega⟩]
  · rw [if_neg q]
    by_cases r : lo ≤ y ∧ y < x
    · rw [if_pos r, if_pos (by omega)]
    · rw [if_neg r, if_neg (by omega)]
theorem mapR_nil (g : Cl → Cl) (D : Nat → Cl) (lo : Nat) : mapR g D lo lo = D := by funext y; unfold mapR; rw [if_neg (by omega)]
theorem mapR_at (g : Cl → Cl) (D : Nat → Cl) (lo x : Nat) : mapR g D lo x x = D x := by unfold mapR; rw [if_neg (by omega)]
def C3 (M : List Th) (f : Nat → Bool) (C : Nat → Cl) : Nat → Nat → Cl
  | 0 => C
  | k + 1 => mapR (tn M f) (C3 M f C k) (adr M (kt M f k) + 1) (adr M (kt M f k + 1))
theorem C3_ge {M : List Th} {f : Nat → Bool} (C : Nat → Cl) {i x : Nat} (hi : i ≤ M.length) (hx : adr M i ≤ x) : ∀ k, k ≤ (ks f i).length → C3 M f C k x = C x
  | 0, _ => rfl
  | k + 1, hk => by
    obtain ⟨h1, h2, h3⟩ := kt_of (M := M) (f := f) (k := k) (Nat.lt_of_lt_of_le hk (ks_pre f hi).length_le)
    have hlt : kt M f k < i := rk_lt (f := f) (by omega)
    have := adr_le (M := M) (show kt M f k + 1 ≤ i by omega) hi
    unfold C3 mapR
    rw [if_neg (by omega)]
    exact C3_ge C hi hx k (by omega)
theorem C3_hd {M : List Th} {f : Nat → Bool} (C : Nat → Cl) {i : Nat} (hi : i < M.length) : ∀ k, k ≤ (ks f M.length).length → C3 M f C k (adr M i) = C (adr M i)
  | 0, _ => rfl
  | k + 1, hk => by
    obtain ⟨h1, h2, h3⟩ := kt_of (M := M) (f := f) (k := k) (by omega)
    unfold C3 mapR
    rw [if_neg (fun q => by
      rcases Nat.lt_or_ge (kt M f k) i with r | r
      · have := adr_le (M := M) (show kt M f k + 1 ≤ i by omega) (by omega); omega
      · have := adr_le (M := M) r (by omega); omega)]
    exact C3_hd C hi k (by omega)
theorem C3_fl {M : List Th} {f : Nat → Bool} (C : Nat → Cl) {i x : Nat} (hi : i < M.length) (hf : f i = true) (hx : adr M i < x) (hx2 : x < adr M (i + 1)) : ∀ k, k ≤ (ks f M.length).length → (ks f i).length < k → C3 M f C k x = tn M f (C x)
  | 0, _, h => by omega
  | k + 1, hk, h => by
    obtain ⟨h1, h2, h3⟩ := kt_of (M := M) (f := f) (k := k) (by omega)
    unfold C3 mapR
    rcases Nat.lt_or_ge (ks f i).length k with q | q
    · have hlt : i < kt M f k := rk_lt (f := f) (by omega)
      have := adr_le (M := M) (show i + 1 ≤ kt M f k by omega) (by omega)
      rw [if_neg (by omega)]
      exact C3_fl C hi hf hx hx2 k (by omega) q
    · have e : k = (ks f i).length := by omega
      have e2 : kt M f k = i := by rw [e]; exact kt_at hi hf
      rw [e2, if_pos (by omega), C3_ge C (i := i) (by omega) (by omega) k (by omega)]
/-! ### What slides -/
def C4 (M : List Th) (f : Nat → Bool) (D : Nat → Cl) : Nat → Nat → Cl
  | 0 => D
  | k + 1 => spl (C4 M f D k) (nx M f (kt M f k)) (szAt M (kt M f k)) (fun j => C4 M f D k (adr M (kt M f k) + j))
theorem nx_end {M : List Th} {f : Nat → Bool} {i : Nat} (hf : f i = true) : nx M f (i + 1) = nx M f i + szAt M i := by rw [nx_succ, if_pos hf]
theorem C4_ge {M : List Th} {f : Nat → Bool} (D : Nat → Cl) {i x : Nat} (hi : i ≤ M.length) (hx : adr M i ≤ x) : ∀ k, k ≤ (ks f i).length → C4 M f D k x = D x
  | 0, _ => rfl
  | k + 1, hk => by
    obtain ⟨h1, h2, h3⟩ := kt_of (M := M) (f := f) (k := k) (Nat.lt_of_lt_of_le hk (ks_pre f hi).length_le)
    have hlt : kt M f k < i := rk_lt (f := f) (by omega)
    have := adr_le (M := M) (show kt M f k + 1 ≤ i by omega) hi
    have := nx_le (M := M) (f := f) (show kt M f k + 1 ≤ M.length by omega)
    rw [nx_end h2] at this
    unfold C4 spl
    rw [if_neg (by omega)]
    exact C4_ge D hi hx k (by omega)
theorem C4_fin {M : List Th} {f : Nat → Bool} (D : Nat → Cl) {i j : Nat} (hi : i < M.length) (hf : f i = true) (hj : j < szAt M i) : ∀ k, k ≤ (ks f M.length).length → (ks f i).length < k → C4 M f D k (nx M f i + j) = D (adr M i + j)
  | 0, _, h => by omega
  | k + 1, hk, h => by
    obtain ⟨h1, h2, h3⟩ := kt_of (M := M) (f := f) (k := k) (by omega)
    unfold C4 spl
    rcases Nat.lt_or_ge (ks f i).length k with q | q
    · have hlt : i < kt M f k := rk_lt (f := f) (by omega)
      have := nx_mono (M := M) (f := f) (show i + 1 ≤ kt M f k by omega)
      rw [nx_end hf] at this
      rw [if_neg (by omega)]
      exact C4_fin D hi hf hj k (by omega) q
    · have e : k = (ks f i).length := by omega
      have e2 : kt M f k = i := by rw [e]; exact kt_at hi hf
      rw [e2, if_pos (by omega), show nx M f i + j - nx M f i = j by omega]
      exact C4_ge D (show i ≤ M.length by omega) (by omega) k (by omega)
/-- The heads of what is not yet gone over are there. -/
theorem C4_hd {M : List Th} {f : Nat → Bool} {C : Nat → Cl} (hl : Lays M C) {i : Nat} {t : Th} (ht : M[i]? = some t) : (C4 M f (C3 M f C (ks f M.length).length) (ks f i).length (adr M i)).n = hdv t := by
  have hi := (List.getElem?_eq_some_iff.1 ht).1
  rw [C4_ge _ (show i ≤ M.length by omega) (Nat.le_refl _) _ (Nat.le_refl _), C3_hd C hi _ (Nat.le_refl _), hl.hd i t ht]
theorem lays_col {M : List Th} {f : Nat → Bool} {C : Nat → Cl} (hl : Lays M C) : Lays (col M f M.length) (C4 M f (C3 M f C (ks f M.length).length) (ks f M.length).length) := by
  have key : ∀ (k : Nat) (u : Th), (col M f M.length)[k]? = some u → ∃ i t, M[i]? = some t ∧ f i = true ∧ k = (ks f i).length ∧ u = tnT M f t ∧ adr (col M f M.length) k = nx M f i := fun k u hu => by
    have hk := (List.getElem?_eq_some_iff.1 hu).1
    rw [col_len] at hk
    obtain ⟨h1, h2, h3⟩ := kt_of (M := M) (f := f) hk
    have ht := List.getElem?_eq_getElem h1
    have hc := col_at h1 h2 ht
    rw [← h3, hu] at hc
    exact ⟨_, _, ht, h2, h3, Option.some.inj hc, by have := col_adr (M := M) (f := f) (show kt M f k ≤ M.length by omega); rwa [← h3] at this⟩
  refine ⟨fun k u hu => ?_, fun k u j c hu hc => ?_⟩
  · obtain ⟨i, t, ht, hf, hk, rfl, ha⟩ := key k u hu
    have hi := (List.getElem?_eq_some_iff.1 ht).1
    have := C4_fin (C3 M f C (ks f M.length).length) hi hf (j := 0) (by rw [szAt_eq ht]; exact Nat.succ_pos _) _ (Nat.le_refl _) (ks_len_lt hi hf)
    rw [ha, ← Nat.add_zero (nx M f i), this, Nat.add_zero, C3_hd C hi _ (Nat.le_refl _), hl.hd i t ht]
    simp [hdv, tnT]
  · obtain ⟨i, t, ht, hf, hk, rfl, ha⟩ := key k u hu
    have hi := (List.getElem?_eq_some_iff.1 ht).1
    have hj : j < t.l.length := by have := (List.getElem?_eq_some_iff.1 hc).1; simpa [tnT] using this
    have := C4_fin (C3 M f C (ks f M.length).length) hi hf (j := 1 + j) (by rw [szAt_eq ht]; unfold sz; omega) _ (Nat.le_refl _) (ks_len_lt hi hf)
    have e2 := adr_succ ht
    unfold sz at e2
    rw [ha, Nat.add_assoc, this, C3_fl C hi hf (by omega) (by omega) _ (Nat.le_refl _) (ks_len_lt hi hf), ← Nat.add_assoc, hl.fl i t j t.l[j] ht (List.getElem?_eq_getElem hj)]
    simp only [tnT, List.getElem?_map, List.getElem?_eq_getElem hj, Option.map_some, Option.some.injEq] at hc
    exact hc
theorem sum_le (g h : Nat → Nat) : ∀ n, (∀ i, i < n → g i ≤ h i) → ((List.range n).map g).sum ≤ ((List.range n).map h).sum
  | 0, _ => Nat.le_refl _
  | n + 1, k => by
    have h1 := sum_le g h n (fun i hi => k i (by omega))
    have h2 := k n (by omega)
    rw [List.range_succ, List.map_append, List.map_append, List.sum_append, List.sum_append]
    simp only [List.map_cons, List.map_nil, List.sum_cons, List.sum_nil]
    omega
theorem Sx_le (M : List Th) (f : Nat → Bool) (b : Nat) : Sx M f b ≤ tots M := by
  have h1 : Sx M f b ≤ Sx M f (adr M M.length) := by
    unfold Sx
    refine sum_le _ _ _ fun n hn => ?_
    have hlt : adr M n < adr M M.length := adr_lt' hn (Nat.le_refl _)
    rw [decide_eq_true hlt]
    cases f n <;> cases decide (adr M n < b) <;> simp
  rw [Sx_adr (Nat.le_refl _)] at h1
  have := nx_le (M := M) (f := f) (Nat.le_refl M.length)
  rw [adr_len] at this
  omega
theorem tn_no {M : List Th} {f : Nat → Bool} {c : Cl} (h : c.p = false) : tn M f c = c := by unfold tn; rw [if_neg (by simp [h])]
theorem tn_yes {M : List Th} {f : Nat → Bool} {c : Cl} {j : Nat} (h : tgt M c j) : tn M f c = ⟨c.p, (nx M f j : Int)⟩ := by
  obtain ⟨h1, h2, h3⟩ := h
  unfold tn
  rw [if_pos h1, h3, Int.toNat_natCast, Sx_adr (by omega), h1]
theorem upd_no {D : Nat → Cl} {x : Nat} {c : Cl} (h : c = D x) : upd D x c = D := by funext y; unfold upd; by_cases q : y = x <;> simp [q, h]
/-! ### What the four ranges hold -/
open Go.RowKit Go.Gx Go.Sx
def fillN (i : Nat) : Nat → Int := fun j => if j < i then -1 else 0
theorem fill_zero : (fun _ => (0 : Int)) = fillN 0 := by funext j; simp [fillN]
theorem fill_set (k : IntKind) (N i : Nat) : (wds k N (fillN i)).set (i * 1) (.int k (-1)) = wds k N (fillN (i + 1)) := by
  rw [Nat.mul_one, wds_set]
  congr 1
  funext j
  unfold fillN
  by_cases q : j = i
  · rw [if_pos q, if_pos (by omega)]
  · rw [if_neg q]
    by_cases r : j < i
    · rw [if_pos r, if_pos (by omega)]
    · rw [if_neg r, if_neg (by omega)]
theorem fill_all (k : IntKind) (N : Nat) (M : List Th) (f : Nat → Bool) : wds k N (fillN N) = wds k N (F1 M f 0) := by
  unfold wds
  refine List.map_congr_left fun i hi => ?_
  have := List.mem_range.1 hi
  unfold fillN F1
  rw [if_pos this]
theorem F1_yes {M : List Th} {f : Nat → Bool} {k : Nat} (h : F1 M f k (adr M (kt M f k) / 64) < 0) : (fun j => if j = adr M (kt M f k) / 64 then ((nx M f (kt M f k) : Nat) : Int) else F1 M f k j) = F1 M f (k + 1) := by
  funext j
  simp only [F1]
  by_cases q : j = adr M (kt M f k) / 64
  · subst q; rw [if_pos rfl, if_pos ⟨rfl, h⟩]
  · rw [if_neg q, if_neg fun r => q r.1]
theorem F1_no {M : List Th} {f : Nat → Bool} {k : Nat} (h : ¬ F1 M f k (adr M (kt M f k) / 64) < 0) : F1 M f k = F1 M f (k + 1) := by
  funext j
  simp only [F1]
  rw [if_neg fun r => h (by rw [← r.1]; exact r.2)]
theorem T1_kt {M : List Th} {f : Nat → Bool} {k : Nat} {t : Th} (h : k < (ks f M.length).length) (ht : M[kt M f k]? = some t) : nx M f (kt M f k) + t.l.length + 1 = T1 M f (k + 1) := by
  obtain ⟨_, h2, h3⟩ := kt_of h
  have := T1_next ht h2
  rw [← h3] at this
  exact this.symm
def rst1 (fbx hxb tbx hb gf nw : Nat) (M : List Th) (f : Nat → Bool) (S : Nat → Prop) (k : Nat) : Sx.Item := comp (fun L => L = [.blk fbx (.cells #[.slice (some ⟨gf, 0, none⟩) nw nw] 62), .own 21 1 (some ⟨gf, 0, none⟩) nw nw (wds .i32 nw (F1 M f k)), .blk tbx (.cells #[.int .i64 ((T1 M f k : Nat) : Int)] 3), .blk hxb (.cells #[.pointer (some ⟨hb, 0, none⟩)] 23)]) S
def RK (M : List Th) (f : Nat → Bool) (R : Nat → Cl) (k : Nat) : Nat → Cl := fun j => if j < k then tn M f (R j) else R j
theorem RK_zero (M : List Th) (f : Nat → Bool) (R : Nat → Cl) : RK M f R 0 = R := by funext j; simp [RK]
theorem RK_at (M : List Th) (f : Nat → Bool) (R : Nat → Cl) (k : Nat) : RK M f R k k = R k := by simp [RK]
theorem RK_step (M : List Th) (f : Nat → Bool) (R : Nat → Cl) (k : Nat) : Hp.upd (RK M f R k) k (tn M f (RK M f R k k)) = RK M f R (k + 1) := by
  funext j
  rw [RK_at]
  unfold Hp.upd RK
  by_cases q : j = k
  · subst q; rw [if_pos rfl, if_pos (by omega)]
  · rw [if_neg q]
    by_cases r : j < k
    · rw [if_pos r, if_pos (by omega)]
    · rw [if_neg r, if_neg (by omega)]
theorem RK_all (M : List Th) (f : Nat → Bool) (R : Nat → Cl) (n : Nat) : cls n (RK M f R n) = cls n (fun j => tn M f (R j)) := cls_ext fun i hi => by unfold RK; rw [if_pos hi]
def in2 (mp sbx wbx tnx fbx hxb hb g N u gm nw gf gr n : Nat) (C : Nat → Cl) (W F : Nat → Int) (M : List Th) (f : Nat → Bool) (R : Nat → Cl) (S : Nat → Prop) (k : Nat) : Sx.Item := comp (fun L => L = [.blk sbx (.cells #[.map (some mp)] 66), pmI mp gr k,
  .blk wbx (.cells #[.func (.func 22) #[] #[.pointer (some ⟨fbx, 0, none⟩), .pointer (some ⟨hxb, 0, none⟩)]] 47), .blk tnx (.cells #[.func (.func 24) #[] #[.pointer (some ⟨wbx, 0, none⟩)]] 65), .blk fbx (.cells #[.slice (some ⟨gf, 0, none⟩) nw nw] 62), .blk hxb (.cells #[.pointer (some ⟨hb, 0, none⟩)] 23),
  .blk hb (.cells #[.slice (some ⟨g, 0, none⟩) N N, .int .i64 ((u : Nat) : Int), .slice (some ⟨gm, 0, none⟩) nw nw] 56), .own 43 2 (some ⟨g, 0, none⟩) N N (cls N C), .own 72 1 (some ⟨gm, 0, none⟩) nw nw (wds .u64 nw W), .own 21 1 (some ⟨gf, 0, none⟩) nw nw (wds .i32 nw F), .own 43 2 (some ⟨gr, 0, none⟩) n n (cls n (RK M f R k))]) S
def rst3 (wbx tnx fbx hxb hb gf nw : Nat) (F : Nat → Int) (S : Nat → Prop) (_ : Nat) : Sx.Item := comp (fun L => L = [.blk wbx (.cells #[.func (.func 22) #[] #[.pointer (some ⟨fbx, 0, none⟩), .pointer (some ⟨hxb, 0, none⟩)]] 47), .blk tnx (.cells #[.func (.func 24) #[] #[.pointer (some ⟨wbx, 0, none⟩)]] 65), .blk fbx (.cells #[.slice (some ⟨gf, 0, none⟩) nw nw] 62), .blk hxb (.cells #[.pointer (some ⟨hb, 0, none⟩)] 23), .own 21 1 (some ⟨gf, 0, none⟩) nw nw (wds .i32 nw F)]) S
def rst4 (hxb hb : Nat) (S : Nat → Prop) (_ : Nat) : Sx.Item := comp (fun L => L = [.blk hxb (.cells #[.pointer (some ⟨hb, 0, none⟩)] 23)]) S
theorem opn1 {w0 w : World} {L0 L : List Sx.Item} {P : Prop} (H : Hs w0 L0 w L) (i : Nat) (hb g N u gm nw : Nat) (W : Nat → Int) (Ck : Nat → Nat → Cl) (rst : (Nat → Prop) → Nat → Sx.Item) (S : Nat → Prop) (k : Nat) (hp : picked [i] L = some [hin hb g N u gm nw W Ck rst S k])
    (c : ∀ S', Hs w0 L0 w ([.blk hb (.cells #[.slice (some ⟨g, 0, none⟩) N N, .int .i64 ((u : Nat) : Int), .slice (some ⟨gm, 0, none⟩) nw nw] 56), .own 43 2 (some ⟨g, 0, none⟩) N N (cls N (Ck k)), .own 72 1 (some ⟨gm, 0, none⟩) nw nw (wds .u64 nw W), rst S' k] ++ rest [i] L) → P) : P := by
  obtain ⟨_, ⟨S2, rfl⟩, H2⟩ := H.opn i (shape := fun L => ∃ S', L = [.blk hb (.cells #[.slice (some ⟨g, 0, none⟩) N N, .int .i64 ((u : Nat) : Int), .slice (some ⟨gm, 0, none⟩) nw nw] 56), .own 43 2 (some ⟨g, 0, none⟩) N N (cls N (Ck k)), .own 72 1 (some ⟨gm, 0, none⟩) nw nw (wds .u64 nw W), rst S' k]) hp
  exact c S2 H2
theorem cls1 {w0 w : World} {L0 L : List Sx.Item} {P : Prop} (H : Hs w0 L0 w L) (I : List Nat) (hb g N u gm nw : Nat) (W : Nat → Int) (Ck : Nat → Nat → Cl) (rst : (Nat → Prop) → Nat → Sx.Item) (S1 : Nat → Prop) (k : Nat) (hr : (rst S1 k).wr = true)
    (hp : picked I L = some [.blk hb (.cells #[.slice (some ⟨g, 0, none⟩) N N, .int .i64 ((u : Nat) : Int), .slice (some ⟨gm, 0, none⟩) nw nw] 56), .own 43 2 (some ⟨g, 0, none⟩) N N (cls N (Ck k)), .own 72 1 (some ⟨gm, 0, none⟩) nw nw (wds .u64 nw W), rst S1 k])
    (c : ∀ S', Hs w0 L0 w (hin hb g N u gm nw W Ck rst S' k :: rest I L) → P) : P := by
  have H1 : Hs w0 L0 w ([.blk hb (.cells #[.slice (some ⟨g, 0, none⟩) N N, .int .i64 ((u : Nat) : Int), .slice (some ⟨gm, 0, none⟩) nw nw] 56), .own 43 2 (some ⟨g, 0, none⟩) N N (cls N (Ck k)), .own 72 1 (some ⟨gm, 0, none⟩) nw nw (wds .u64 nw W), rst S1 k] ++ rest I L) := H.perm (picked_perm hp)
  have H2 := H1.cls [0, 0, 0, 0] (by rfl) (shape := fun L => ∃ S', L = [.blk hb (.cells #[.slice (some ⟨g, 0, none⟩) N N, .int .i64 ((u : Nat) : Int), .slice (some ⟨gm, 0, none⟩) nw nw] 56), .own 43 2 (some ⟨g, 0, none⟩) N N (cls N (Ck k)), .own 72 1 (some ⟨gm, 0, none⟩) nw nw (wds .u64 nw W), rst S' k]) ⟨S1, rfl⟩ (by rw [List.all_cons, List.all_cons, List.all_cons, List.all_cons, hr]; rfl)
  exact c _ H2
theorem mapR_hd {M : List Th} {f : Nat → Bool} (D : Nat → Cl) {i ii x : Nat} (hi : i < M.length) (hii : ii < M.length) (hx : x ≤ adr M (ii + 1)) : mapR (tn M f) D (adr M ii + 1) x (adr M i) = D (adr M i) := by
  unfold mapR
  rw [if_neg fun q => by
    rcases Nat.lt_or_ge ii i with r | r
    · have := adr_le (M := M) (show ii + 1 ≤ i by omega) (by omega); omega
    · have := adr_le (M := M) r (by omega); omega]
theorem cls_sub {N a k : Nat} (D : Nat → Cl) (h : a + k ≤ N) : ((cls N D).drop (a * 2)).take (cls k (fun j => D (a + j))).length = cls k (fun j => D (a + j)) := by
  obtain ⟨r, rfl⟩ : ∃ r, N = a + (k + r) := ⟨N - a - k, by omega⟩
  rw [cls_add, ← cls_len a D, List.drop_left, cls_add, List.take_left]
theorem cls_one (N : Nat) (D : Nat → Cl) : ∀ u ∈ cls N D, u.oneCell' = true := fun u hu => by
  obtain ⟨i, _, hi⟩ := List.mem_flatMap.1 hu
  simp only [encC, List.mem_cons, List.not_mem_nil, or_false] at hi
  rcases hi with rfl | rfl <;> rfl
theorem C4_next {M : List Th} {f : Nat → Bool} {D : Nat → Cl} {N k : Nat} {t : Th} (ht : M[kt M f k]? = some t) (h : nx M f (kt M f k) + (t.l.length + 1) ≤ N) : (cls N (C4 M f D k)).take (nx M f (kt M f k) * 2) ++ cls (t.l.length + 1) (fun j => C4 M f D k (adr M (kt M f k) + j)) ++ (cls N (C4 M f D k)).drop (nx M f (kt M f k) * 2 + (cls (t.l.length + 1) (fun j => C4 M f D k (adr M (kt M f k) + j))).length) = cls N (C4 M f D (k + 1)) := by
  rw [cls_spl _ _ h]
  show cls N _ = cls N (spl _ _ (szAt M (kt M f k)) _)
  rw [szAt_eq ht]; rfl
end Go.Hp
