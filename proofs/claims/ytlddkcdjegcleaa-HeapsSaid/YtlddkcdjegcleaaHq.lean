/- What the walks of the heap need of lists and things. -/
import Derived.Test.YtlddkcdjegcleaaHb
import Derived.Test.YtlddkcdjegcleaaSx9
import Derived.Test.YtlddkcdjegcleaaSx11
set_option linter.unusedVariables false
set_option linter.unusedSimpArgs false
namespace Go.Hp
open Go.RowKit Go.Gx Go.Sx
def nts (l : List Nat) : List Value := l.map fun (a : Nat) => .int .i64 (a : Int)
theorem nts_app (l : List Nat) (a : Nat) : nts l ++ [.int .i64 (a : Int)] = nts (l ++ [a]) := by simp [nts]
theorem nts_last {P : Program} {t : Nat} {l : List Nat} {a : Nat} (ht : P.underlying t = some (.int .i64) := by kernel_rfl) : loadX P t (nts (l ++ [a])) (l.length * 1) (.int .i64 (a : Int)) := by
  unfold loadX; rw [ht]; simp [nts]
theorem nts_take (l : List Nat) (a : Nat) : (nts (l ++ [a])).take (l.length * 1) = nts l := by simp [nts]
theorem snoc_or {α : Type} (l : List α) : l = [] ∨ ∃ a x, l = a ++ [x] := by
  rcases List.eq_nil_or_concat l with h | ⟨a, x, h⟩
  · exact .inl h
  · exact .inr ⟨a, x, by simpa using h⟩
theorem pe {w0 w : World} {L0 L L1 : List Sx.Item} (H : Hs w0 L0 w L) (e : L0 = L1) (I : List Nat) {a : List Sx.Item} (h : picked I L = some a := by kernel_rfl) : Hs w0 L1 w a := e ▸ H.pick I h
theorem meet_no (B : Nat → Bool) (td : List Nat) {p : Bool} {v : Int} (h : p = false ∨ B v.toNat = true) : meetB B ⟨p, v⟩ = B ∧ meetT B td ⟨p, v⟩ = td := by
  unfold meetB meetT
  rcases h with h | h <;> simp [h]
theorem meet_yes (B : Nat → Bool) (td : List Nat) {a : Nat} (h : B a = false) : meetB B ⟨true, (a : Int)⟩ = setB B a ∧ meetT B td ⟨true, (a : Int)⟩ = td ++ [a] := by
  unfold meetB meetT; simp [h]
theorem tmod_emod (n m : Int) : Int.tmod n m % m = n % m := by
  have h := Int.tmod_add_mul_tdiv n m
  have h2 : (Int.tmod n m + m * Int.tdiv n m) % m = Int.tmod n m % m := Int.add_mul_emod_self_left ..
  rw [← h2, h]
theorem tmod_lt (n : Int) (m : Nat) (hm : 0 < m) : -(m : Int) < Int.tmod n m ∧ Int.tmod n m < (m : Int) :=
  ⟨Int.lt_tmod_of_pos n (by omega), Int.tmod_lt_of_pos n (by omega)⟩
theorem mod_neg (n : Int) (m : Nat) (hm : 0 < m) (h : Int.tmod n m < 0) : Int.tmod n m + m = n % m := by
  have := tmod_lt n m hm
  rw [← tmod_emod n m, ← Int.add_emod_right, Int.emod_eq_of_lt (by omega) (by omega)]
theorem mod_pos (n : Int) (m : Nat) (hm : 0 < m) (h : ¬ Int.tmod n m < 0) : Int.tmod n m = n % m := by
  have := tmod_lt n m hm
  rw [← tmod_emod n m, Int.emod_eq_of_lt (by omega) (by omega)]
def pls (g n : Nat) : List Value := (List.range n).map fun i => .pointer (some ⟨g, i * 2, none⟩)
theorem pls_snoc (g n : Nat) : pls g n ++ [.pointer (some ⟨g, n * 2, none⟩)] = pls g (n + 1) := by unfold pls; rw [List.range_succ]; simp
theorem pls_ld {P : Program} {t i g n : Nat} (h : i < n) (ht : (match P.underlying t with | some (.pointer _) => true | _ => false) = true := by kernel_rfl) : loadX P t (pls g n) (i * 1) (.pointer (some ⟨g, i * 2, none⟩)) := by
  unfold loadX
  split at ht <;> try contradiction
  rename_i hu
  rw [hu, Nat.mul_one]
  show (pls g n)[i]? = _
  simp [pls, h]
/-! ### The things that are reached, gone over -/
def yvT (M : List Th) (f : Nat → Bool) (k : Nat) : List Value := [.int .i64 ((adr M ((ks f M.length).getD k 0) : Nat) : Int), .int .i64 ((nx M f ((ks f M.length).getD k 0) : Nat) : Int)]
theorem yvT_at {M : List Th} {f : Nat → Bool} {i : Nat} (h : i < M.length) (hf : f i = true) : yvT M f (ks f i).length = [.int .i64 ((adr M i : Nat) : Int), .int .i64 ((nx M f i : Nat) : Int)] := by
  unfold yvT; rw [List.getD_eq_getElem?_getD, ks_at h hf]; rfl
def hin (hb g N u gm nw : Nat) (W : Nat → Int) (Ck : Nat → Nat → Cl) (rst : (Nat → Prop) → Nat → Sx.Item) (S : Nat → Prop) (k : Nat) : Sx.Item :=
  comp (fun L => ∃ S', L = [.blk hb (.cells #[.slice (some ⟨g, 0, none⟩) N N, .int .i64 ((u : Nat) : Int), .slice (some ⟨gm, 0, none⟩) nw nw] 56), .own 43 2 (some ⟨g, 0, none⟩) N N (cls N (Ck k)), .own 72 1 (some ⟨gm, 0, none⟩) nw nw (wds .u64 nw W), rst S' k]) S
theorem ks_yes {f : Nat → Bool} {i : Nat} (h : f i = true) : (ks f i).length + 1 = (ks f (i + 1)).length := by rw [ks_succ, if_pos h]; simp
theorem ks_no {f : Nat → Bool} {i : Nat} (h : f i = false) : (ks f i).length = (ks f (i + 1)).length := by rw [ks_succ, h]; simp
theorem nx_yes {M : List Th} {f : Nat → Bool} {i : Nat} {t : Th} (ht : M[i]? = some t) (h : f i = true) : nx M f (i + 1) = nx M f i + (t.l.length + 1) := by rw [nx_succ, if_pos h, szAt_eq ht]; rfl
theorem nx_no {M : List Th} {f : Nat → Bool} {i : Nat} (h : f i = false) : nx M f (i + 1) = nx M f i := by rw [nx_succ, h]; simp
theorem lt_of_adr {M : List Th} {i : Nat} (hi : i ≤ M.length) (h : adr M i < tots M) : i < M.length := by
  rcases Nat.lt_or_ge i M.length with q | q
  · exact q
  · rw [show i = M.length by omega, adr_len] at h; omega
theorem len_of_adr {M : List Th} {i : Nat} (hi : i ≤ M.length) (h : ¬ adr M i < tots M) : i = M.length := by
  rcases Nat.lt_or_ge i M.length with q | q
  · have := adr_lt' q (Nat.le_refl _); rw [adr_len] at this; omega
  · omega
theorem adr_lt_tots {M : List Th} {i : Nat} {t : Th} (h : M[i]? = some t) : adr M i + 1 + t.l.length ≤ tots M := by
  have := adr_lt h (List.getElem?_eq_some_iff.1 h).1 (Nat.le_refl _); rw [adr_len] at this; unfold sz at this; omega
/-- Two things made one, and taken apart. -/
theorem cls2 {w0 w : World} {L0 L : List Sx.Item} {P : Prop} (H : Hs w0 L0 w L) (I : List Nat) (hb g N u gm nw : Nat) (W : Nat → Int) (Ck : Nat → Nat → Cl) (rst : (Nat → Prop) → Nat → Sx.Item) (S1 : Nat → Prop) (k : Nat) (x y : Sx.Item) (hr : (rst S1 k).wr = true) (hx : x.wr = true) (hy : y.wr = true) (acc : (Nat → Prop) → Nat → Sx.Item)
    (ha : ∀ S k, acc S k = comp (fun L => ∃ S', L = [hin hb g N u gm nw W Ck rst S' k, x, y]) S) (hp : picked I L = some [.blk hb (.cells #[.slice (some ⟨g, 0, none⟩) N N, .int .i64 ((u : Nat) : Int), .slice (some ⟨gm, 0, none⟩) nw nw] 56), .own 43 2 (some ⟨g, 0, none⟩) N N (cls N (Ck k)), .own 72 1 (some ⟨gm, 0, none⟩) nw nw (wds .u64 nw W), rst S1 k, x, y])
    (c : ∀ S', Hs w0 L0 w (acc S' k :: rest I L) → P) : P := by
  have H1 : Hs w0 L0 w ([.blk hb (.cells #[.slice (some ⟨g, 0, none⟩) N N, .int .i64 ((u : Nat) : Int), .slice (some ⟨gm, 0, none⟩) nw nw] 56), .own 43 2 (some ⟨g, 0, none⟩) N N (cls N (Ck k)), .own 72 1 (some ⟨gm, 0, none⟩) nw nw (wds .u64 nw W), rst S1 k] ++ ([x, y] ++ rest I L)) := H.perm (picked_perm hp)
  have H2 := H1.cls [0, 0, 0, 0] (by rfl) (shape := fun L => ∃ S', L = [.blk hb (.cells #[.slice (some ⟨g, 0, none⟩) N N, .int .i64 ((u : Nat) : Int), .slice (some ⟨gm, 0, none⟩) nw nw] 56), .own 43 2 (some ⟨g, 0, none⟩) N N (cls N (Ck k)), .own 72 1 (some ⟨gm, 0, none⟩) nw nw (wds .u64 nw W), rst S' k]) ⟨S1, rfl⟩ (by rw [List.all_cons, List.all_cons, List.all_cons, List.all_cons, hr]; rfl)
  have H3 : Hs w0 L0 w ([hin hb g N u gm nw W Ck rst _ k, x, y] ++ rest I L) := H2
  have H4 := H3.cls [0, 0, 0] (by rfl) (shape := fun L => ∃ S', L = [hin hb g N u gm nw W Ck rst S' k, x, y]) ⟨_, rfl⟩ (by rw [List.all_cons, List.all_cons, List.all_cons, hx, hy]; rfl)
  exact c _ (by rw [ha]; exact H4)
theorem opn2 {w0 w : World} {L0 L : List Sx.Item} {P : Prop} (H : Hs w0 L0 w L) (i : Nat) (hb g N u gm nw : Nat) (W : Nat → Int) (Ck : Nat → Nat → Cl) (rst : (Nat → Prop) → Nat → Sx.Item) (S : Nat → Prop) (k : Nat) (x y : Sx.Item) (acc : (Nat → Prop) → Nat → Sx.Item)
    (ha : ∀ S k, acc S k = comp (fun L => ∃ S', L = [hin hb g N u gm nw W Ck rst S' k, x, y]) S) (hp : picked [i] L = some [acc S k])
    (c : ∀ S', Hs w0 L0 w ([.blk hb (.cells #[.slice (some ⟨g, 0, none⟩) N N, .int .i64 ((u : Nat) : Int), .slice (some ⟨gm, 0, none⟩) nw nw] 56), .own 43 2 (some ⟨g, 0, none⟩) N N (cls N (Ck k)), .own 72 1 (some ⟨gm, 0, none⟩) nw nw (wds .u64 nw W), rst S' k, x, y] ++ rest [i] L) → P) : P := by
  rw [ha] at hp
  obtain ⟨_, ⟨S1, rfl⟩, H1⟩ := H.opn i hp
  obtain ⟨_, ⟨S2, rfl⟩, H2⟩ := H1.opn 0 (shape := fun L => ∃ S', L = [.blk hb (.cells #[.slice (some ⟨g, 0, none⟩) N N, .int .i64 ((u : Nat) : Int), .slice (some ⟨gm, 0, none⟩) nw nw] 56), .own 43 2 (some ⟨g, 0, none⟩) N N (cls N (Ck k)), .own 72 1 (some ⟨gm, 0, none⟩) nw nw (wds .u64 nw W), rst S' k]) rfl
  exact c S2 H2
/-! ### The roots are met -/
def rB (R : Nat → Cl) : Nat → Nat → Bool
  | 0 => fun _ => false
  | k + 1 => meetB (rB R k) (R k)
def rT (R : Nat → Cl) : Nat → List Nat
  | 0 => []
  | k + 1 => meetT (rB R k) (rT R k) (R k)
def rts (R : Nat → Cl) (n : Nat) : List Cl := (List.range n).map R
theorem rts_mem {R : Nat → Cl} {n j : Nat} (h : j < n) : R j ∈ rts R n := List.mem_map.2 ⟨j, List.mem_range.2 h, rfl⟩
theorem rts_all {M : List Th} {R : Nat → Cl} {n : Nat} {Q : Nat → Prop} (h : ∀ j, j < n → ∀ i, tgt M (R j) i → Q i) : ∀ c ∈ rts R n, ∀ k, tgt M c k → Q k := fun c hc k hk => by
  obtain ⟨j, hj, rfl⟩ := List.mem_map.1 hc
  exact h j (List.mem_range.1 hj) k hk
theorem root_Mk {M : List Th} {R : Nat → Cl} {n : Nat} (hw : Wf M (rts R n)) : ∀ k, k ≤ n → Mk M (rts R n) (fun _ => False) (rB R k) (rT R k) ∧ (∀ j, j < k → ∀ i, tgt M (R j) i → rB R k (adr M i) = true)
  | 0, _ => ⟨Mk.init _ _, fun j h => by omega⟩
  | k + 1, hk => by
    obtain ⟨h1, h2⟩ := root_Mk hw k (by omega)
    refine ⟨(h1.meet (c := R k) (hw.root _ (rts_mem (by omega))) fun i hi => .root (rts_mem (by omega)) hi).1, fun j hj i hi => ?_⟩
    rcases Nat.lt_or_ge j k with q | q
    · exact meetB_mono (h2 j q i hi)
    · obtain rfl : j = k := by omega
      exact meetB_tgt hi
theorem Mk.td_le {M : List Th} {rt : List Cl} {ex : Nat → Prop} {B : Nat → Bool} {td : List Nat} (h : Mk M rt ex B td) : td.length ≤ tots M := Nat.le_trans h.le (Nat.le_trans (cnt_le _ _) (len_le _))
/-- What a cell that is met refers to. -/
theorem ok_lt {M : List Th} {c : Cl} (ok : Ok M c) {m : Nat} (h : tots M ≤ m) : c.p = true → ∃ a : Nat, c.n = (a : Int) ∧ a < m := fun hp => by
  obtain ⟨i, _, hi, e⟩ := ok hp
  exact ⟨adr M i, e, by have := adr_lt' hi (Nat.le_refl _); rw [adr_len] at this; omega⟩
def mIn (hxb tb fb hb g N u gm nw gr n : Nat) (R : Nat → Cl) (S : Nat → Prop) (k : Nat) : Sx.Item := comp (fun L => ∃ W A c, Words W (rB R k) ∧ L = [.blk hxb (.cells #[.pointer (some ⟨hb, 0, none⟩)] 23), .blk hb (.cells #[.slice (some ⟨g, 0, none⟩) N N, .int .i64 ((u : Nat) : Int), .slice (some ⟨gm, 0, none⟩) nw nw] 56), .own 72 1 (some ⟨gm, 0, none⟩) nw nw (wds .u64 nw W),
  .blk tb (.cells #[.slice A (rT R k).length c] 71), .own 3 1 A c (rT R k).length (nts (rT R k)), .own 43 2 (some ⟨gr, 0, none⟩) n n (cls n R), .blk fb (.cells #[.func (.func 29) #[] #[.pointer (some ⟨hxb, 0, none⟩), .pointer (some ⟨tb, 0, none⟩)]] 73)]) S
theorem wds_clear (k : IntKind) (N : Nat) (W : Nat → Int) : (wds k N W).take 0 ++ (List.replicate N [Value.int k 0]).flatten ++ (wds k N W).drop (0 + (List.replicate N [Value.int k 0]).flatten.length) = wds k N (fun _ => 0) := by
  have e : (List.replicate N [Value.int k 0]).flatten = wds k N (fun _ => 0) := by
    rw [← wds_rep]
    induction N with
    | zero => rfl
    | succ n ih => rw [List.replicate_succ, List.flatten_cons, ih]; rfl
  rw [e, wds_len, Nat.zero_add, List.drop_of_length_le (by rw [wds_len]; exact Nat.le_refl _)]; simp
end Go.Hp
