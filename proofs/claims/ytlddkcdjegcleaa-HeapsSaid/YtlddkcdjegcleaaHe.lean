/- The document's heap: the row of its things, their rows; rows of truth values; a map keyed by some addresses. -/
import Derived.Test.YtlddkcdjegcleaaHd
set_option linter.unusedVariables false
set_option linter.unusedSimpArgs false
namespace Go.Hp
open Go.RowKit Go.Gx Go.Sx
def thM (M : List Th) (i : Nat) : Th := (M[i]?).getD th0
theorem thM_eq {M : List Th} {i : Nat} {t : Th} (h : M[i]? = some t) : thM M i = t := by unfold thM; rw [h]; rfl
def encT (a : Nat) (t : Th) (g : Nat) : List Value := [.int .i64 (a : Int), .int .i64 t.kd, .int .i64 t.tg, .slice (some ⟨g, 0, none⟩) t.l.length t.l.length]
def ths (m : Nat) (a : Nat → Nat) (T : Nat → Th) (G : Nat → Nat) : List Value := (List.range m).flatMap fun i => encT (a i) (T i) (G i)
theorem ths_len (m : Nat) (a : Nat → Nat) (T : Nat → Th) (G : Nat → Nat) : (ths m a T G).length = m * 4 := by
  induction m with
  | zero => rfl
  | succ n ih => unfold ths at *; rw [List.range_succ, List.flatMap_append, List.length_append, ih]; simp [encT]; omega
theorem ths_add (m r : Nat) (a : Nat → Nat) (T : Nat → Th) (G : Nat → Nat) : ths (m + r) a T G = ths m a T G ++ ths r (fun j => a (m + j)) (fun j => T (m + j)) (fun j => G (m + j)) := by
  unfold ths; rw [List.range_add, List.flatMap_append, List.flatMap_map]
theorem ths_snoc (m : Nat) (a : Nat → Nat) (T : Nat → Th) (G : Nat → Nat) : ths m a T G ++ encT (a m) (T m) (G m) = ths (m + 1) a T G := by
  rw [ths_add]; rfl
theorem ths_ext {m : Nat} {a a' : Nat → Nat} {T T' : Nat → Th} {G G' : Nat → Nat} (h : ∀ i, i < m → encT (a i) (T i) (G i) = encT (a' i) (T' i) (G' i)) : ths m a T G = ths m a' T' G' := by
  unfold ths
  rw [List.flatMap_def, List.flatMap_def]
  exact congrArg List.flatten (List.map_congr_left fun i hi => h i (List.mem_range.1 hi))
theorem ths_at {m i : Nat} (a : Nat → Nat) (T : Nat → Th) (G : Nat → Nat) (h : i < m) : ((ths m a T G).drop (i * 4)).take 4 = encT (a i) (T i) (G i) := by
  obtain ⟨r, rfl⟩ : ∃ r, m = i + (1 + r) := ⟨m - i - 1, by omega⟩
  rw [ths_add, show i * 4 = (ths i a T G).length by rw [ths_len], List.drop_left, ths_add]
  rfl
theorem ths_get {m i : Nat} (a : Nat → Nat) (T : Nat → Th) (G : Nat → Nat) (h : i < m) (q : Nat) (hq : q < 4) : (ths m a T G)[i * 4 + q]? = (encT (a i) (T i) (G i))[q]? := by
  rw [← ths_at a T G h, List.getElem?_take, if_pos hq, List.getElem?_drop]
section
variable {P : Program} {t m i : Nat} {a : Nat → Nat} {T : Nat → Th} {G : Nat → Nat}
theorem ld_t (h : i < m) (ht : (match P.underlying t, P.info? t with | some (.struct _), some inf => Nat.beq inf.size 4 | _, _ => false) = true := by kernel_rfl) : loadX P t (ths m a T G) (i * 4) (.agg (encT (a i) (T i) (G i)).toArray) := by
  unfold loadX
  split at ht <;> try contradiction
  rename_i k inf hu hinf
  rw [hu]
  have hs : inf.size = 4 := Nat.eq_of_beq_eq_true ht
  exact ⟨inf, hinf, by rw [hs, ths_len]; omega, by rw [hs, ths_at a T G h]⟩
theorem ld_tat (h : i < m) (ht : P.underlying t = some (.int .i64) := by kernel_rfl) : loadX P t (ths m a T G) (i * 4) (.int .i64 (a i : Int)) := by unfold loadX; rw [ht]; exact ths_get a T G h 0 (by decide)
theorem ld_tl (h : i < m) (ht : (match P.underlying t with | some (.slice _) => true | _ => false) = true := by kernel_rfl) : loadX P t (ths m a T G) (i * 4 + 3) (.slice (some ⟨G i, 0, none⟩) (T i).l.length (T i).l.length) := by
  unfold loadX
  split at ht <;> try contradiction
  rename_i hu
  rw [hu]
  exact ths_get a T G h 3 (by decide)
end
/-! ### Rows of truth values -/
def bls (N : Nat) (I : Nat → Bool) : List Value := (List.range N).map fun i => .bool (I i)
theorem bls_len (N : Nat) (I : Nat → Bool) : (bls N I).length = N := by simp [bls]
theorem bls_rep (N : Nat) (v : Bool) : List.replicate N (Value.bool v) = bls N (fun _ => v) := by
  apply List.ext_getElem <;> simp [bls]
theorem bls_ext {N : Nat} {I J : Nat → Bool} (h : ∀ i, i < N → I i = J i) : bls N I = bls N J := by
  unfold bls; exact List.map_congr_left fun i hi => by rw [h i (List.mem_range.1 hi)]
theorem bls_set {N i : Nat} (I : Nat → Bool) : (bls N I).set (i * 1) (.bool true) = bls N (setB I i) := by
  rw [Nat.mul_one]
  apply List.ext_getElem
  · simp [bls]
  · intro j h1 h2
    simp only [bls, List.getElem_set, List.getElem_map, List.getElem_range, setB]
    by_cases q : i = j
    · rw [if_pos q]; simp [q]
    · rw [if_neg q, show decide (j = i) = false from decide_eq_false (Ne.symm q)]; simp
theorem ld_b {P : Program} {t N i : Nat} {I : Nat → Bool} (h : i < N) (ht : P.underlying t = some .bool := by kernel_rfl) : loadX P t (bls N I) (i * 1) (.bool (I i)) := by
  unfold loadX; rw [ht, Nat.mul_one]; simp [bls, h]
/-! ### The rows of the things -/
def rwsI (m : Nat) (G ln : Nat → Nat) (F : Nat → Nat → Cl) : Sx.Item := .abs (fun c => ∃ i, i < m ∧ c = G i) (fun w => (∀ i, i < m → Has w (G i) (.cells (cls (ln i) (F i)).toArray 43)) ∧ ∀ i j, i < m → j < m → G i = G j → i = j)
theorem rwsI_holds {m : Nat} {G ln : Nat → Nat} {F : Nat → Nat → Cl} {w : World} (h : ∀ i, i < m → Has w (G i) (.cells (cls (ln i) (F i)).toArray 43)) (hi : ∀ i j, i < m → j < m → G i = G j → i = j) : (rwsI m G ln F).holds w :=
  ⟨⟨h, hi⟩, fun c hc => by obtain ⟨i, hi, rfl⟩ := hc; exact (h i hi).lt, fun w w' _ hk ⟨h1, h2⟩ => ⟨fun i hi => (hk (G i) ⟨i, hi, rfl⟩).trans (h1 i hi), h2⟩⟩
theorem has_cells' {w : World} {b e : Nat} {cs xs : List Value} (h : Has w b (.cells cs.toArray e)) {off n : Nat} (hx : (cs.drop off).take n = xs) (hn : xs.length = n) : w.cells? 0 ⟨b, off, none⟩ n = some xs := by
  refine ChangeShapes.cells?_of (Nat.zero_le _) hn (fun j hj => ?_)
  rw [cell_of_row w b (off + j) cs.toArray e (0, 0) h, ← hx, List.getElem?_take, if_pos (by omega), List.getElem?_drop]
  simp
theorem rw_ld {m : Nat} {G ln : Nat → Nat} {F : Nat → Nat → Cl} {w : World} (h : (rwsI m G ln F).holds w) {i j : Nat} (hi : i < m) (hj : j < ln i) : w.cells? 0 ⟨G i, j * 2, none⟩ 2 = some [.bool (F i j).p, .int .i64 (F i j).n] :=
  has_cells' (h.1.1 i hi) (cls_at (F i) hj) rfl
theorem rw_ldp {m : Nat} {G ln : Nat → Nat} {F : Nat → Nat → Cl} {w : World} (h : (rwsI m G ln F).holds w) {i j : Nat} (hi : i < m) (hj : j < ln i) : w.cells? 0 ⟨G i, j * 2, none⟩ 1 = some [.bool (F i j).p] :=
  has_cells' (h.1.1 i hi) (by rw [show (1 : Nat) = min 1 2 from rfl, ← List.take_take, cls_at (F i) hj]; rfl) rfl
theorem rw_ldn {m : Nat} {G ln : Nat → Nat} {F : Nat → Nat → Cl} {w : World} (h : (rwsI m G ln F).holds w) {i j : Nat} (hi : i < m) (hj : j < ln i) : w.cells? 0 ⟨G i, j * 2 + 1, none⟩ 1 = some [.int .i64 (F i j).n] :=
  has_cells' (h.1.1 i hi) (by
    have e := cls_n (F i) hj
    have hl := (List.getElem?_eq_some_iff.1 e).1
    rw [List.drop_eq_getElem_cons hl]
    rw [List.getElem?_eq_getElem hl] at e
    rw [Option.some.inj e]; rfl) rfl
section
variable {w0 w : World} {L0 L : List Sx.Item}
theorem rw_nil (H : Hs w0 L0 w L) (G ln : Nat → Nat) (F : Nat → Nat → Cl) : Hs w0 L0 w (L ++ [rwsI 0 G ln F]) := H.add (Gx.Ext.refl _) (it := rwsI 0 G ln F) (rwsI_holds (fun _ h => absurd h (Nat.not_lt_zero _)) (fun _ _ h => absurd h (Nat.not_lt_zero _))) (fun _ ⟨_, h, _⟩ => absurd h (Nat.not_lt_zero _))
/-- Said anew: some of them, in other words. -/
theorem rw_as (H : Hs w0 L0 w L) (i : Nat) {m m' : Nat} {G G' ln ln' : Nat → Nat} {F F' : Nat → Nat → Cl} (hi : L[i]? = some (rwsI m G ln F)) (σ : Nat → Nat) (h : ∀ q, q < m' → σ q < m ∧ G' q = G (σ q) ∧ ln' q = ln (σ q) ∧ ∀ j, j < ln' q → F' q j = F (σ q) j) (hj : ∀ p q, p < m' → q < m' → σ p = σ q → p = q) : Hs w0 L0 w (L.set i (rwsI m' G' ln' F')) := by
  obtain ⟨⟨h1, h2⟩, _, _⟩ := H.at i hi
  refine H.as i _ hi rfl (rwsI_holds (fun q hq => ?_) fun p q hp hq e => ?_) fun c hc => ?_
  · obtain ⟨a, b, c, d⟩ := h q hq
    rw [b, cls_ext d, c]; exact h1 _ a
  · obtain ⟨a, b, _, _⟩ := h p hp
    obtain ⟨a', b', _, _⟩ := h q hq
    exact hj p q hp hq (h2 _ _ a a' (by rw [← b, ← b', e]))
  · obtain ⟨q, hq, rfl⟩ := hc
    obtain ⟨a, b, _, _⟩ := h q hq
    exact ⟨_, a, b⟩
theorem own_has {w : World} {g k : Nat} {D : Nat → Cl} (h : (Item.own 43 2 (some ⟨g, 0, none⟩) k k (cls k D)).holds w) : Has w g (.cells (cls k D).toArray 43) := by
  rcases h.2 with ⟨h0, _⟩ | ⟨g', cap', cur', hvv, hb0, hg', hnc, hcm, hcs, ht⟩
  · cases h0
  · injection hvv with q1 q2 q3
    injection q1 with q1; injection q1 with q1; subst q1 q3
    rw [List.take_of_length_le (by rw [Array.length_toList, hcs]; exact Nat.le_refl _)] at ht
    rw [← ht]; exact hg'
/-- One more. -/
theorem rw_app (H : Hs w0 L0 w L) (I : List Nat) {m g k : Nat} {G ln : Nat → Nat} {F : Nat → Nat → Cl} {D : Nat → Cl} (hp : picked I L = some [rwsI m G ln F, .own 43 2 (some ⟨g, 0, none⟩) k k (cls k D)]) {G' ln' : Nat → Nat} {F' : Nat → Nat → Cl}
    (h : ∀ q, q < m → G' q = G q ∧ ln' q = ln q ∧ ∀ j, j < ln' q → F' q j = F q j) (hm : G' m = g ∧ ln' m = k ∧ ∀ j, j < k → F' m j = D j) : Hs w0 L0 w (rwsI (m + 1) G' ln' F' :: rest I L) := by
  have H1 := H.cls I hp (shape := fun L => L = [rwsI m G ln F, .own 43 2 (some ⟨g, 0, none⟩) k k (cls k D)]) rfl rfl
  obtain ⟨L', rfl, H2⟩ := H1.opn 0 (shape := fun L => L = [rwsI m G ln F, .own 43 2 (some ⟨g, 0, none⟩) k k (cls k D)]) rfl
  have H2 : Hs w0 L0 w (rwsI m G ln F :: .own 43 2 (some ⟨g, 0, none⟩) k k (cls k D) :: rest I L) := H2
  obtain ⟨⟨h1, h2⟩, _, _⟩ := H2.at 0 rfl
  have h3 := own_has (H2.at 1 rfl)
  have hap : ∀ q, q < m → G q ≠ g := fun q hq e => by
    have := (List.pairwise_cons.1 H2.sp.dis).1 (.own 43 2 (some ⟨g, 0, none⟩) k k (cls k D)) (.head _) rfl (G q) ⟨q, hq, rfl⟩
    exact this (congrArg some e.symm)
  refine H1.as 0 (rwsI (m + 1) G' ln' F') rfl rfl (rwsI_holds (fun q hq => ?_) fun p q hp' hq' e => ?_) fun c hc => ?_
  · rcases Nat.lt_or_ge q m with r | r
    · obtain ⟨a, b, c⟩ := h q r
      rw [a, cls_ext c, b]; exact h1 q r
    · obtain rfl : q = m := by omega
      rw [hm.1, hm.2.1, cls_ext hm.2.2]; exact h3
  · rcases Nat.lt_or_ge p m with r | r <;> rcases Nat.lt_or_ge q m with s | s
    · exact h2 p q r s (by rw [← (h p r).1, ← (h q s).1, e])
    · obtain rfl : q = m := by omega
      exact absurd (by rw [← (h p r).1, e, hm.1]) (hap p r)
    · obtain rfl : p = m := by omega
      exact absurd (by rw [← (h q s).1, ← e, hm.1]) (hap q s)
    · omega
  · obtain ⟨q, hq, rfl⟩ := hc
    rcases Nat.lt_or_ge q m with r | r
    · exact ⟨_, .head _, q, r, (h q r).1⟩
    · obtain rfl : q = m := by omega
      exact ⟨_, .tail _ (.head _), by show some g = some _; rw [hm.1]⟩
end
end Go.Hp
namespace Go.Sx
open Go.RowKit Go.Gx Go.Hp
section
variable [Rd] {P : Program} {B : Exit → Act → World → Prop} {b : Nat → Value} {n : Nat} {d : List Deferred} {w0 w : World} {x : St} {L0 L : List Item}
/-- A store into a thing's row. -/
theorem srw (m i q t off K : Nat) (G ln : Nat → Nat) (F : Nat → Nat → Cl) (v : Value) (H : Hs w0 L0 w L) (hq : q < K) {F' : Nat → Nat → Cl} (ho : off + v.cells.toList.length ≤ ln q * 2) (hx : (cls (ln q) (F q)).take off ++ v.cells.toList ++ (cls (ln q) (F q)).drop (off + v.cells.toList.length) = cls (ln q) (F' q)) (hF : ∀ p, p ≠ q → F' p = F p)
    (k : ∀ w', Hs w0 L0 w' (L.set i (rwsI K G ln F')) → Goal P B b n d (nx (vX (via P b n m w x (ask (stA b n)))).y (vX (via P b n m w x (ask (stA b n)))).q undef) w')
    (h : vA (via P b n m w x (ask (stA b n))) = vB w (via P b n m w x (ask (stA b n))) := by kernel_rfl)
    (h2 : ((vX (via P b n m w x (ask (stA b n)))).u, (vX (via P b n m w x (ask (stA b n)))).t) = ([.pointer (some ⟨G q, off, none⟩), v], [t]) := by kernel_rfl)
    (hi : L[i]? = some (rwsI K G ln F) := by kernel_rfl) (hs : (P.info? t).map (·.size) = some v.cells.size := by kernel_rfl) (h1 : v.cells.all (·.oneCell') = true := by kernel_rfl) : Goal P B b n d x w := by
  obtain ⟨y, hr, hf⟩ := ask_ok h
  refine run_sound hr ?_
  generalize vX (via P b n m w x (ask (stA b n))) = z at *
  unfold stA at hf
  split at hf <;> try contradiction
  rename_i qq hqq
  split at hf <;> try contradiction
  rename_i t' s vl hop
  simp only [Option.some.injEq] at hf
  subst hf
  simp only [Prod.mk.injEq, List.cons.injEq, and_true] at h2
  obtain ⟨⟨h3, h4⟩, rfl⟩ := h2
  obtain ⟨⟨g1, g2⟩, _, _⟩ := H.at i hi
  have hlen : v.cells.toList.length = v.cells.size := Array.length_toList
  refine at_hd hqq fun j ho' hw _ K' hK => op_store ho' hw hop off v h3 h4 (g1 q hq) hs h1 (Nat.ble_eq_true_of_le (show off + v.cells.size ≤ (cls (ln q) (F q)).length by rw [cls_len, ← hlen]; exact ho)) _ rfl (fun w' k1 k2 => hK _ _ (k w' ?_))
  rw [List.toList_toArray, ← hlen, hx] at k2
  refine H.put i hi rfl (Kp.mono (Kp.of_G k1) (fun c hc => ⟨q, hq, (Option.some.inj hc).symm⟩)) (rwsI_holds (fun p hp => ?_) g2) (fun c hc => .inl hc)
  by_cases e : p = q
  · subst e; exact k2
  · rw [hF p e]
    exact (k1.block (G p) (g1 p hp).lt (fun r => e (g2 p q hp hq (Option.some.inj r)))).trans (g1 p hp)
end
end Go.Sx
