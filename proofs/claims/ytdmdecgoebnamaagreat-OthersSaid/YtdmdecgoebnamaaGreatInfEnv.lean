/- The names in sight and the operations, as they lie in memory; steps of the checker's plain form. -/
import Derived.Test.YtdmdecgoebnamaaGreatGraph
import Derived.Test.YtdmdecgoebnamaaGreatInf8
set_option linter.unusedVariables false
set_option linter.unusedSimpArgs false
namespace Go.Inf
open Go.RowKit Go.Sx Go.Gx Go.Syn
/-! ### One behind the other -/
theorem bs {α β : Type} {x : Option α} {f : α → Option β} {r : β} (h : (x >>= f) = some r) : ∃ a, x = some a ∧ f a = some r := by
  cases x with
  | none => cases h
  | some a => exact ⟨a, rfl, h⟩
theorem ck_put {c c1 : Ck} {kd r n : Nat} {a b : Option Nat} (h : c.put kd a b r = some (c1, n)) : ∃ g, c.g.put kd a b r = some (g, n) ∧ { c with g := g } = c1 := by
  unfold Ck.put at h
  split at h <;> try contradiction
  rename_i g m hg
  cases h
  exact ⟨g, hg, rfl⟩
theorem ck_var {c c1 : Ck} {n : Nat} (h : c.var = some (c1, n)) : ∃ g, c.g.var = some (g, n) ∧ { c with g := g } = c1 := ck_put h
theorem ck_putRow {c c1 : Ck} {l : List Nm} {nx : Option Nat} {n : Nat} (h : c.putRow l nx = some (c1, n)) : ∃ g, c.g.putRow l nx = some (g, n) ∧ { c with g := g } = c1 := by
  unfold Ck.putRow at h
  split at h <;> try contradiction
  rename_i g m hg
  cases h
  exact ⟨g, hg, rfl⟩
theorem ck_opn {c c1 : Ck} {n : Nat} (h : c.opn = some (c1, n)) : ∃ g, c.g.opn = some (g, n) ∧ { c with g := g } = c1 := ck_putRow h
theorem ck_ofT {k : Nat} {c c1 : Ck} {t : Ty} {n : Nat} (h : c.ofT k t = some (c1, n)) : ∃ g, Inf.ofT k c.g t = some (g, n) ∧ { c with g := g } = c1 := by
  unfold Ck.ofT at h
  split at h <;> try contradiction
  rename_i g m hg
  cases h
  exact ⟨g, hg, rfl⟩
theorem ck_no {c : Ck} {kd : Nat} {a : Int} : (c.no kd a).fk = (if c.fk = 0 then kd else c.fk) ∧ (c.no kd a).fa = (if c.fk = 0 then a else c.fa) ∧ (c.no kd a).g = c.g ∧ (c.no kd a).env = c.env ∧ (c.no kd a).ops = c.ops := by
  unfold Ck.no; split <;> simp_all
theorem row_keeps {k m n : Nat} {c c' : Ck} {a : Int} (h : c.row k m n a = some c') : c'.env = c.env ∧ c'.ops = c.ops := by
  have q := row_ck h
  by_cases e : c.fk = 0
  · obtain ⟨g, s, _, h1, h2⟩ := q.2 e
    cases s with
    | false => rw [← h1 rfl]; exact ⟨rfl, rfl⟩
    | true => rw [← h2 rfl]; exact ⟨rfl, rfl⟩
  · rw [q.1 e]; exact ⟨rfl, rfl⟩
theorem same_keeps {k m n : Nat} {c c' : Ck} {a : Int} (h : c.same k m n a = some c') : c'.env = c.env ∧ c'.ops = c.ops := by
  have q := same_ck h
  by_cases e : c.fk = 0
  · obtain ⟨g, s, _, h1, h2⟩ := q.2 e
    cases s with
    | false => rw [← h1 rfl]; exact ⟨rfl, rfl⟩
    | true =>
      obtain ⟨r1, z1, _, h3, h4⟩ := h2 rfl
      cases r1 with
      | true => rw [← h3 rfl]; exact ⟨rfl, rfl⟩
      | false =>
        obtain ⟨r2, z2, _, h5, h6⟩ := h4 rfl
        cases r2 with
        | true => rw [← h5 rfl]; exact ⟨rfl, rfl⟩
        | false => rw [← h6 rfl]; exact ⟨rfl, rfl⟩
  · rw [q.1 e]; exact ⟨rfl, rfl⟩
theorem big_keeps {k n : Nat} {c c' : Ck} {a : Int} (h : c.bigC k n a = some c') : c'.g = c.g ∧ c'.env = c.env ∧ c'.ops = c.ops := by
  have q := big_ck h
  by_cases e : c.fk = 0
  · obtain ⟨p, z, _, h1, h2⟩ := q.2 e
    rcases Nat.lt_or_ge 300 p with r | r
    · rw [← h1 r]; exact ⟨rfl, rfl, rfl⟩
    · rw [← h2 r]; exact ⟨rfl, rfl, rfl⟩
  · rw [q.1 e]; exact ⟨rfl, rfl, rfl⟩
theorem kv_len {w0 w : World} {L0 L : List Sx.Item} {Q : Nat → Prop} {ks : List Nd} {A : Option Addr} {c : Nat} (H : Hs w0 L0 w L) (j : Nat) (hi : L[j]? = some (kvI Q ks A c)) : ks.length ≤ 9223372036854775807 := by
  cases (H.at j hi).1 with
  | mk As cs _ hl _ _ _ => have : maxLen ≤ 9223372036854775807 := by decide
                           omega
/-! ### Names in sight -/
abbrev Nv := Nam × Option Nat × Option Nat
def nvC (x : Nv) : List Value := [.string x.1.nm, .int .i64 (x.1.t : Int), .bool x.1.all, .map x.2.1, .map x.2.2, .bool x.1.opn]
def envC (l : List Nv) : List Value := l.flatMap nvC
def NamR (w : World) (S : Nat → Prop) (x : Nv) : Prop := SetR w S x.2.1 x.1.tv ∧ SetR w S x.2.2 x.1.rv
theorem NamR.keep {w w' : World} {S : Nat → Prop} {x : Nv} (h : NamR w S x) (k : ∀ c, S c → w'.heap[c]? = w.heap[c]?) : NamR w' S x := ⟨h.1.keep k, h.2.keep k⟩
theorem NamR.mono {w : World} {S S' : Nat → Prop} {x : Nv} (h : NamR w S x) (k : ∀ c, S c → S' c) : NamR w S' x := ⟨h.1.mono k, h.2.mono k⟩
def mapsI (S : Nat → Prop) (l : List Nv) : Sx.Item := .ro S (fun w => ∀ x ∈ l, NamR w S x)
theorem mapsI_loc (S : Nat → Prop) (l : List Nv) : Sx.Loc S (fun w => ∀ x ∈ l, NamR w S x) := fun _ _ _ hk h x hx => (h x hx).keep hk
theorem rec_at {α : Type} (f : α → List Value) (m : Nat) (hf : ∀ x, (f x).length = m) : ∀ (l : List α) (i : Nat) (x : α), l[i]? = some x → ((l.flatMap f).drop (i * m)).take m = f x
  | [], i, x, h => by simp at h
  | y :: l, 0, x, h => by
    simp at h; subst h
    rw [List.flatMap_cons, Nat.zero_mul, List.drop_zero, ← hf y, List.take_left' rfl]
  | y :: l, i + 1, x, h => by
    rw [List.flatMap_cons, show (i + 1) * m = (f y).length + i * m by rw [hf]; rw [Nat.add_mul]; omega, List.drop_append, List.drop_of_length_le (by omega), List.nil_append]
    rw [show (f y).length + i * m - (f y).length = i * m by omega]
    exact rec_at f m hf l i x (by simpa using h)
theorem rec_len {α : Type} (f : α → List Value) (m : Nat) (hf : ∀ x, (f x).length = m) (l : List α) : (l.flatMap f).length = l.length * m := by
  induction l with
  | nil => simp
  | cons y l ih => rw [List.flatMap_cons, List.length_append, hf, ih, List.length_cons, Nat.add_mul]; omega
theorem rec_field {α : Type} (f : α → List Value) (m : Nat) (hf : ∀ x, (f x).length = m) {l : List α} {i j : Nat} {x : α} (h : l[i]? = some x) (hj : j < m) : (l.flatMap f)[i * m + j]? = (f x)[j]? := by
  have e := rec_at f m hf l i x h
  rw [← e, List.getElem?_take, if_pos hj, List.getElem?_drop]
theorem nvC_len (x : Nv) : (nvC x).length = 6 := rfl
theorem env_len {w0 w : World} {L0 L : List Sx.Item} (H : Hs w0 L0 w L) (j : Nat) {e n cap : Nat} {A : Option Addr} {l : List Nv} (hi : L[j]? = some (.own e 6 A cap n (envC l))) : l.length = n := by
  have := (H.at j hi).1
  unfold envC at this
  rw [rec_len nvC 6 nvC_len] at this
  omega
def structT (P : Program) (t : TypeId) (m : Nat) : Bool := match P.underlying t with
  | some (.struct _) => match P.info? t with
    | some inf => Nat.beq inf.size m
    | none => false
  | _ => false
def plainT (P : Program) (t : TypeId) : Bool := match P.underlying t with
  | some (.struct _) => false
  | some (.array _ _) => false
  | some _ => true
  | none => false
section
variable {α : Type} {f : α → List Value} {m : Nat} {P : Program} {t : TypeId} {l : List α} {i : Nat} {x : α}
/-- A record of a row of records. -/
theorem rec_load (hf : ∀ x, (f x).length = m) (h : l[i]? = some x) (hs : structT P t m = true := by kernel_rfl) : loadX P t (l.flatMap f) (i * m) (.agg (f x).toArray) := by
  unfold structT at hs
  split at hs <;> try contradiction
  rename_i fs hu
  split at hs <;> try contradiction
  rename_i inf hi
  have e := Nat.eq_of_beq_eq_true hs
  unfold loadX
  rw [hu]
  refine ⟨inf, hi, ?_, ?_⟩
  · rw [rec_len f m hf, e]
    have := (List.getElem?_eq_some_iff.1 h).1
    calc i * m + m = (i + 1) * m := by rw [Nat.add_mul]; omega
      _ ≤ l.length * m := Nat.mul_le_mul_right _ this
  · rw [e, rec_at f m hf l i x h]
/-- A part of it that is a record. -/
theorem rec_part (j q : Nat) (hf : ∀ x, (f x).length = m) (h : l[i]? = some x) (hj : j + q ≤ m) {cs : List Value} (hc : ((f x).drop j).take q = cs) (hs : structT P t q = true := by kernel_rfl) : loadX P t (l.flatMap f) (i * m + j) (.agg cs.toArray) := by
  unfold structT at hs
  split at hs <;> try contradiction
  rename_i fs hu
  split at hs <;> try contradiction
  rename_i inf hi
  have e := Nat.eq_of_beq_eq_true hs
  unfold loadX
  rw [hu]
  refine ⟨inf, hi, ?_, ?_⟩
  · rw [rec_len f m hf, e]
    have := (List.getElem?_eq_some_iff.1 h).1
    calc i * m + j + q ≤ i * m + m := by omega
      _ = (i + 1) * m := by rw [Nat.add_mul]; omega
      _ ≤ l.length * m := Nat.mul_le_mul_right _ this
  · rw [e, ← hc]
    have q1 := rec_at f m hf l i x h
    rw [← q1, List.drop_take, List.take_take, List.drop_drop, Nat.min_eq_left (by omega)]
/-- A cell of it. -/
theorem rec_cell (j : Nat) (hf : ∀ x, (f x).length = m) (h : l[i]? = some x) (hj : j < m) {v : Value} (hc : (f x)[j]? = some v) (hs : plainT P t = true := by kernel_rfl) : loadX P t (l.flatMap f) (i * m + j) v := by
  have e := (rec_field f m hf h hj).trans hc
  unfold plainT at hs
  unfold loadX
  split at hs <;> simp_all
end
theorem rec_app {α : Type} (f : α → List Value) (l : List α) (x : α) : l.flatMap f ++ f x = (l ++ [x]).flatMap f := by simp
/-! ### The operations -/
abbrev Ov := Opr × Tv × Tv
def ovC (x : Ov) : List Value := .string x.1.nm :: (tvC x.1.i x.2.1 ++ tvC x.1.o x.2.2 ++ [.int .i64 (x.1.n : Int)])
theorem ovC_len (x : Ov) : (ovC x).length = 12 := by unfold ovC; simp [tvC_len]
def opsC (l : List Ov) : List Value := l.flatMap ovC
def OvR (w : World) (S : Nat → Prop) (x : Ov) : Prop := TyIn w S x.2.1 x.1.i ∧ TyIn w S x.2.2 x.1.o
def tysI (S : Nat → Prop) (l : List Ov) : Sx.Item := .ro S (fun w => ∀ x ∈ l, OvR w S x)
theorem tysI_loc (S : Nat → Prop) (l : List Ov) : Sx.Loc S (fun w => ∀ x ∈ l, OvR w S x) := fun _ _ _ hk h x hx => ⟨(h x hx).1.keep hk, (h x hx).2.keep hk⟩
theorem ops_len {w0 w : World} {L0 L : List Sx.Item} (H : Hs w0 L0 w L) (j : Nat) {e n cap : Nat} {A : Option Addr} {l : List Ov} (hi : L[j]? = some (.own e 12 A cap n (opsC l))) : l.length = n := by
  have := (H.at j hi).1
  unfold opsC at this
  rw [rec_len ovC 12 ovC_len] at this
  omega
/-- Which operation has a name. -/
def opIx (nm : Nm) : List Ov → Option Nat
  | [] => none
  | o :: r => if eqN o.1.nm nm then some 0 else (opIx nm r).map (· + 1)
def opV (A : Option Addr) : Option Nat → Value
  | none => .pointer none
  | some k => match A with
    | some a => .pointer (some ⟨a.block, k * 12, none⟩)
    | none => .pointer none
theorem opIx_at {nm : Nm} : ∀ {l : List Ov}, opAt nm (l.map (·.1)) = none → opIx nm l = none
  | [], _ => rfl
  | o :: r, h => by
    simp only [List.map_cons, opAt] at h
    unfold opIx
    split at h
    · cases h
    · rename_i e; rw [if_neg e, opIx_at h]; rfl
theorem opIx_some {nm : Nm} {o : Opr} : ∀ {l : List Ov}, opAt nm (l.map (·.1)) = some o → ∃ k x, opIx nm l = some k ∧ l[k]? = some x ∧ x.1 = o
  | [], h => by simp [opAt] at h
  | y :: r, h => by
    simp only [List.map_cons, opAt] at h
    unfold opIx
    split at h
    · rename_i e; cases h; exact ⟨0, y, by rw [if_pos e], rfl, rfl⟩
    · rename_i e
      obtain ⟨k, x, h1, h2, h3⟩ := opIx_some h
      exact ⟨k + 1, x, by rw [if_neg e, h1]; rfl, by simpa using h2, h3⟩
theorem opIx_drop {nm : Nm} {l : List Ov} {i : Nat} {x : Ov} {o : Option Nat} (h : (opIx nm (l.drop i)).map (· + i) = o) (hx : l[i]? = some x) : if eqN x.1.nm nm then some i = o else (opIx nm (l.drop (i + 1))).map (· + (i + 1)) = o := by
  obtain ⟨hi, e⟩ := List.getElem?_eq_some_iff.1 hx
  rw [List.drop_eq_getElem_cons hi, e] at h
  unfold opIx at h
  split
  · rename_i q; rw [if_pos q] at h; simpa using h
  · rename_i q; rw [if_neg q, Option.map_map] at h; rw [← h]; congr 1; funext z; simp only [Function.comp]; omega
/-! ### The names in rows -/
abbrev rF (k : Nat) (all : List Nm) (s : Option Ck) (d : Nd) : Option Ck := match s with
  | some c => rowNames k c d all
  | none => none
theorem rF_none (k : Nat) (all : List Nm) (l : List Nd) : l.foldl (rF k all) none = none := by
  induction l with
  | nil => rfl
  | cons t l ih => rw [List.foldl_cons]; exact ih
theorem rowNames_cases {k kd na : Nat} {nm : Nm} {nn : Int} {ks : List Nd} {c c' : Ck} {all : List Nm} (h : rowNames (k + 1) c (.mk kd na nm nn ks) all = some c') :
    (c.fk ≠ 0 → c = c') ∧ (c.fk = 0 → (kd ≠ 29 → ks.foldl (rF k all) (some c) = some c') ∧ (kd = 29 → ∃ a b c1, ks[0]? = some a ∧ ks[1]? = some b ∧ rowNames k c a all = some c1 ∧ rowNames k (rowAll c1 all [] (ks.drop 2)) b all = some c')) := by
  unfold rowNames at h
  split at h
  · rename_i e; cases h; exact ⟨fun _ => rfl, fun q => absurd q e⟩
  · rename_i e
    have e : c.fk = 0 := by simpa using e
    refine ⟨fun q => absurd e q, fun _ => ⟨fun q => ?_, fun q => ?_⟩⟩
    · have q : (Nd.mk kd na nm nn ks).k ≠ 29 := q
      rw [if_pos q] at h
      exact h
    · subst q
      have q : ¬ (Nd.mk 29 na nm nn ks).k ≠ 29 := by simp [Nd.k]
      rw [if_neg q] at h
      simp only [Nd.ks] at h
      split at h <;> try contradiction
      rename_i a b r
      split at h <;> try contradiction
      rename_i c1 h1
      exact ⟨a, b, c1, rfl, rfl, h1, h⟩
theorem rF_step {k i : Nat} {all : List Nm} {ks : List Nd} {c c' : Ck} (h : (ks.drop i).foldl (rF k all) (some c) = some c') {d : Nd} (hd : ks[i]? = some d) : ∃ c1, rowNames k c d all = some c1 ∧ (ks.drop (i + 1)).foldl (rF k all) (some c1) = some c' := by
  obtain ⟨hi, e⟩ := List.getElem?_eq_some_iff.1 hd
  rw [List.drop_eq_getElem_cons hi, List.foldl_cons, e] at h
  cases hr : rowNames k c d all with
  | none => simp only [rF, hr] at h; rw [rF_none] at h; cases h
  | some c1 => simp only [rF, hr] at h; exact ⟨c1, rfl, h⟩
theorem rF_done {k i : Nat} {all : List Nm} {ks : List Nd} {c c' : Ck} (h : (ks.drop i).foldl (rF k all) (some c) = some c') (hi : ks.length ≤ i) : c = c' := by
  rw [List.drop_of_length_le hi] at h; simpa using h
abbrev twF (d : Nd) (c : Ck) (e : Nd) : Ck := if eqN e.nm d.nm then c.no 7 d.a else c
theorem rowAll_step {c : Ck} {all : List Nm} {ks : List Nd} {i : Nat} {d : Nd} {R : Ck} (h : rowAll c all ((ks.take i).drop 2) (ks.drop i) = R) (hi2 : 2 ≤ i) (hd : ks[i]? = some d) :
    ∃ c1, ((ks.take i).drop 2).foldl (twF d) (if inN d.nm all then c else c.no 6 d.a) = c1 ∧ rowAll c1 all ((ks.take (i + 1)).drop 2) (ks.drop (i + 1)) = R := by
  obtain ⟨hi, e⟩ := List.getElem?_eq_some_iff.1 hd
  rw [List.drop_eq_getElem_cons hi, e] at h
  unfold rowAll at h
  refine ⟨_, rfl, ?_⟩
  have e2 : (ks.take i).drop 2 ++ [d] = (ks.take (i + 1)).drop 2 := by
    rw [List.take_add_one, hd, List.drop_append, List.length_take]
    rw [show 2 - min i ks.length = 0 by omega]; rfl
  rw [← e2]
  exact h
theorem rowAll_done {c : Ck} {all : List Nm} {ks b : List Nd} {i : Nat} {R : Ck} (h : rowAll c all b (ks.drop i) = R) (hi : ks.length ≤ i) : c = R := by
  rw [List.drop_of_length_le hi] at h; unfold rowAll at h; exact h
theorem inN_take {s : Nm} {all : List Nm} {j : Nat} (hj : j < all.length) : inN s (all.take (j + 1)) = (inN s (all.take j) || eqN (gn all j) s) := by
  unfold inN
  rw [List.take_add_one, List.any_append, gn_at hj]
  simp
theorem tw_step {ks : List Nd} {i j : Nat} {d : Nd} {c R : Ck} (h : ((ks.take i).drop j).foldl (twF d) c = R) (hj : j < i) {kd na : Nat} {nm : Nm} {nn : Int} {k2 : List Nd} (hd : ks[j]? = some (.mk kd na nm nn k2)) : ((ks.take i).drop (j + 1)).foldl (twF d) (if eqN nm d.nm then c.no 7 d.a else c) = R := by
  obtain ⟨hi, e⟩ := List.getElem?_eq_some_iff.1 hd
  have hl : j < (ks.take i).length := by rw [List.length_take]; omega
  rw [List.drop_eq_getElem_cons hl, List.foldl_cons, List.getElem_take, e] at h
  exact h
theorem tw_done {ks : List Nd} {i j : Nat} {d : Nd} {c R : Ck} (h : ((ks.take i).drop j).foldl (twF d) c = R) (hj : i ≤ j) : c = R := by
  rw [List.drop_of_length_le (by rw [List.length_take]; omega)] at h; exact h
theorem rowAll_g {all : List Nm} : ∀ {r b : List Nd} {c : Ck}, (rowAll c all b r).g = c.g ∧ (rowAll c all b r).env = c.env ∧ (rowAll c all b r).ops = c.ops
  | [], b, c => ⟨rfl, rfl, rfl⟩
  | d :: r, b, c => by
    unfold rowAll
    have h1 : ∀ (l : List Nd) (c : Ck), (l.foldl (twF d) c).g = c.g ∧ (l.foldl (twF d) c).env = c.env ∧ (l.foldl (twF d) c).ops = c.ops := by
      intro l
      induction l with
      | nil => intro c; exact ⟨rfl, rfl, rfl⟩
      | cons e l ih =>
        intro c
        rw [List.foldl_cons]
        have h2 := ih (twF d c e)
        have h3 : (twF d c e).g = c.g ∧ (twF d c e).env = c.env ∧ (twF d c e).ops = c.ops := by
          unfold twF; split
          · exact ck_no.2.2
          · exact ⟨rfl, rfl, rfl⟩
        exact ⟨h2.1.trans h3.1, h2.2.1.trans h3.2.1, h2.2.2.trans h3.2.2⟩
    have h4 : (rowOne c all b d).g = c.g ∧ (rowOne c all b d).env = c.env ∧ (rowOne c all b d).ops = c.ops := by
      unfold rowOne
      have h5 := h1 b (if inN d.nm all then c else c.no 6 d.a)
      have h6 : (if inN d.nm all then c else c.no 6 d.a).g = c.g ∧ (if inN d.nm all then c else c.no 6 d.a).env = c.env ∧ (if inN d.nm all then c else c.no 6 d.a).ops = c.ops := by
        split
        · exact ⟨rfl, rfl, rfl⟩
        · exact ck_no.2.2
      exact ⟨h5.1.trans h6.1, h5.2.1.trans h6.2.1, h5.2.2.trans h6.2.2⟩
    have h7 := rowAll_g (all := all) (r := r) (b := b ++ [d]) (c := rowOne c all b d)
    exact ⟨h7.1.trans h4.1, h7.2.1.trans h4.2.1, h7.2.2.trans h4.2.2⟩
end Go.Inf
namespace Go.Sx
open Go.Inf Go.Syn
abbrev cX (b g : Nat) (A : Option Addr) (n c : Nat) (B : Option Addr) (m d k : Nat) (a : Int) (S : Nat → Prop) (G : Go.Inf.G) (el : List Nv) (Sm : Nat → Prop) (ol : List Ov) (So Q : Nat → Prop) (ks : List Nd) (nA : Option Addr) (nc : Nat) : List Item := [cB b g A n c B m d k a, GI S g G, .own 122 6 A c n (envC el), mapsI Sm el, .own 160 12 B d m (opsC ol), tysI So ol, kvI Q ks nA nc]
end Go.Sx
namespace Go.Proofs.YtdmdecgoebnamaaGreat
open Go.RowKit Go.Sx Go.Inf Go.Syn
attribute [local irreducible] Go.wpOps Go.Code.wp Go.wpOp Go.wpAnyH Go.Calls Go.Sx.Goal
set_option maxRecDepth 20000
theorem op_c (bc bg : Nat) (eA : Option Addr) (en ec : Nat) (oA : Option Addr) (on oc : Nat) (fk : Nat) (fa : Int) (ol : List Ov) (nm : Nm) (w : World) (K : Ending → World → Prop) (H0 : Sp w [Sx.cB bc bg eA en ec oA on oc fk fa, .own 160 12 oA oc on (opsC ol)]) (o : Option Nat) (ho : opIx nm ol = o) (hon : on < 1000000000) (hK : ∀ w', Hs w [Sx.cB bc bg eA en ec oA on oc fk fa, .own 160 12 oA oc on (opsC ol)] w' [Sx.cB bc bg eA en ec oA on oc fk fa, .own 160 12 oA oc on (opsC ol)] → K (.returned (opV oA o)) w') :
    Calls Tryz.prog 83 #[.p bc, .string nm] w K := by
  obtain ⟨L0, hL0, H⟩ := Sx.op0 H0
  refine Sx.en (vs := [.p bc, .string nm]) 31 Tryz.func83 ?_
  have hol := ops_len (e := 160) (n := on) (cap := oc) (A := oA) (l := ol) H 1 (by kernel_rfl)
  refine Sx.lp 12 (fun z l' w' => ∃ (i : Nat), l' = [(0, .p bc), (1, .string nm), (5, .n i)] ∧ z = ol.length - i ∧ w = w' ∧ (i ≤ ol.length) ∧ ((opIx nm (ol.drop i)).map (· + i) = o)) _ _ ⟨0, rfl, rfl, rfl, (Nat.zero_le _), (by simpa using ho)⟩ (fun b1 z1 l1 w1 hI1 K1 hK1 => ?_)
  obtain ⟨i, rfl, rfl, rfl, hil, hix⟩ := hI1
  refine Sx.l 7 0 H ?_
  refine Sx.br 4 (decide (((i : Nat) : Int) < ((on : Nat) : Int))) (fun h_c12 => ?_) (fun h_c12 => ?_)
  · have p_c12 := of_decide_eq_true h_c12
    obtain ⟨x, hx⟩ := some_at (l := ol) (i := i) (by omega)
    have hst := opIx_drop hix hx
    obtain ⟨wr1, rfl⟩ := H.row 1 (A := oA) (e := 160) (sz := 12) (cap := oc) (n := on) (xs := (opsC ol)) (by kernel_rfl) (by omega)
    refine Sx.l 9 0 H <| Sx.ir 1 wr1 i 12 on oc (by omega) <| Sx.lr 1 1 160 12 9 wr1 oc on (i * 12) (opsC ol) H (.string x.1.nm) (rec_cell 0 ovC_len hx (by decide) rfl) ?_
    refine Sx.br 4 (x.1.nm.toList == nm.toList) (fun h_c24 => ?_) (fun h_c24 => ?_)
    · rw [if_pos (by rw [eqN_eq]; exact h_c24)] at hst
      subst hst
      refine Sx.l 5 0 H <| Sx.ir 1 wr1 i 12 on oc (by omega) <| Sx.rt 9 [] H (.pointer (some (⟨wr1, i * 12, none⟩))) ?_
      subst hL0
      exact hK _ (H.pk [0, 0])
    rw [if_neg (by rw [eqN_eq, h_c24]; decide)] at hst
    refine Sx.v 5 (.int .i64 (IntKind.i64.wrap (((i : Nat) : Int) + (1 : Int)))) (.int .i64 ((i + 1 : Nat) : Int)) (congrArg (Value.int .i64) (Gx.i64n (by omega) (by omega))) ?_
    exact Sx.to 2 _ (hK1 _ _ _ _ (by omega) ⟨(i + 1), rfl, rfl, rfl, (by omega), hst⟩)
  have p_c12 := of_decide_eq_false h_c12
  rw [List.drop_of_length_le (by omega)] at hix
  obtain rfl : none = o := hix
  refine Sx.rt 11 [] H (.pointer none) ?_
  subst hL0
  exact hK _ (H.pk [0, 0])
set_option maxHeartbeats 8000000 in
theorem rowNames_c_s (k : Nat) (ih : ∀ (bc bg : Nat) (eA : Option Addr) (en ec : Nat) (oA : Option Addr) (on oc : Nat) (Q : Nat → Prop) (kd na : Nat) (nm : Nm) (nn : Int) (ks : List Nd) (nA : Option Addr) (nc : Nat) (Sa : Nat → Prop) (Aa : Option Addr) (an ac : Nat) (all : List Nm) (c : Ck) (w : World) (K : Ending → World → Prop) (H0 : Sp w [Sx.cB bc bg eA en ec oA on oc c.fk c.fa, kvI Q ks nA nc, strI Sa Aa all]) (c' : Ck) (hf : rowNames k c (.mk kd na nm nn ks) all = some c') (hnn : an = all.length) (haz : all.length < 1000000000) (hK : ∀ w', Hs w [Sx.cB bc bg eA en ec oA on oc c.fk c.fa, kvI Q ks nA nc, strI Sa Aa all] w' [Sx.cB bc bg eA en ec oA on oc c'.fk c'.fa, kvI Q ks nA nc, strI Sa Aa all] → K (.returned (.tuple #[])) w'),
    Calls Tryz.prog 84 #[.p bc, Sx.nA kd na nm nn nA ks nc, .slice Aa an ac] w K) (bc bg : Nat) (eA : Option Addr) (en ec : Nat) (oA : Option Addr) (on oc : Nat) (Q : Nat → Prop) (kd na : Nat) (nm : Nm) (nn : Int) (ks : List Nd) (nA : Option Addr) (nc : Nat) (Sa : Nat → Prop) (Aa : Option Addr) (an ac : Nat) (all : List Nm) (c : Ck) (w : World) (K : Ending → World → Prop) (H0 : Sp w [Sx.cB bc bg eA en ec oA on oc c.fk c.fa, kvI Q ks nA nc, strI Sa Aa all]) (c' : Ck) (hf : rowNames (k + 1) c (.mk kd na nm nn ks) all = some c') (hnn : an = all.length) (haz : all.length < 1000000000) (hK : ∀ w', Hs w [Sx.cB bc bg eA en ec oA on oc c.fk c.fa, kvI Q ks nA nc, strI Sa Aa all] w' [Sx.cB bc bg eA en ec oA on oc c'.fk c'.fa, kvI Q ks nA nc, strI Sa Aa all] → K (.returned (.tuple #[])) w') :
    Calls Tryz.prog 84 #[.p bc, Sx.nA kd na nm nn nA ks nc, .slice Aa an ac] w K := by
  obtain ⟨L0, hL0, H⟩ := Sx.op0 H0
  refine Sx.en (vs := [.p bc, Sx.nA kd na nm nn nA ks nc, .slice Aa an ac]) 109 Tryz.func84 ?_
  have hkz := kv_len (Q := Q) (ks := ks) (A := nA) (c := nc) H 1 (by kernel_rfl)
  obtain ⟨hc0, hc1⟩ := rowNames_cases hf
  refine Sx.nw 2 H fun k1 w1 H1 => ?_
  refine Sx.c 6 [0] H1 (fun Hp R hZ => ok_c bc bg eA en ec oA on oc c.fk c.fa w1 R Hp  (fun w2 G1 => hZ _ _ _ G1 fun H2 => ?_))
  refine Sx.br 3 (!(c.fk == 0)) (fun h_c13 => ?_) (fun h_c13 => ?_)
  · have h0 : c.fk ≠ 0 := by simpa using h_c13
    obtain rfl := hc0 h0
    refine Sx.rt 2 [] H2 (.tuple #[]) ?_
    subst hL0
    exact hK _ (H2.pk [0, 0, 0])
  have h0 : c.fk = 0 := by simpa using h_c13
  obtain ⟨hn, hy⟩ := hc1 h0
  refine Sx.l 6 3 H2 ?_
  refine Sx.br 3 (((kd : Nat) : Int) != (29 : Int)) (fun h_c16 => ?_) (fun h_c16 => ?_)
  · have p_c16 := h_c16; try simp [-List.getD_eq_getElem?_getD] at p_c16
    have hfo := hn (by omega)
    refine Sx.lp 7 (fun z l' w' => ∃ (i : Nat) (cc : Ck), l' = [(0, .p bc), (2, .slice Aa an ac), (4, .p k1), (6, .n i)] ∧ z = ks.length - i ∧ Hs w L0 w' [Sx.cB bc bg eA en ec oA on oc cc.fk cc.fa, kvI Q ks nA nc, strI Sa Aa all, .blk k1 (.cells #[.n kd, .n na, .string nm, .int .i64 nn, .slice nA ks.length nc] 62)] ∧ (i ≤ ks.length) ∧ ((ks.drop i).foldl (rF k all) (some cc) = some c')) _ _ ⟨0, c, rfl, rfl, H2.pk [0, 0, 0, 0], (Nat.zero_le _), hfo⟩ (fun b1 z1 l1 w3 hI1 K1 hK1 => ?_)
    obtain ⟨i, cc, rfl, rfl, H4, hil, hfo⟩ := hI1
    refine Sx.l 5 3 H4 ?_
    refine Sx.br 4 (decide (((i : Nat) : Int) < ((ks.length : Nat) : Int))) (fun h_c21 => ?_) (fun h_c21 => ?_)
    · have p_c21 := of_decide_eq_true h_c21
      obtain ⟨dZ, hdZ⟩ := some_at (l := ks) (i := i) (by omega)
      obtain ⟨c2, hq, hfo2⟩ := rF_step hfo hdZ
      obtain ⟨kddZ, nadZ, nmdZ, nndZ, ksdZ⟩ := dZ
      obtain ⟨B1, cb1, a1, ha1, H5⟩ := nd_kid (Q := Q) (ks := ks) (A := nA) (c := nc) (i := i) H4 1 (by kernel_rfl) hdZ
      refine Sx.l 7 3 H5 <| Sx.ia 1 a1 i 5 ks.length nc ha1 (at_lt hdZ) <| Sx.lo (c := 5) (t := 62) 0 (Sx.nC kddZ nadZ nmdZ nndZ B1 ksdZ cb1) (Sx.nA kddZ nadZ nmdZ nndZ B1 ksdZ cb1) (cel_at (Q := Q) (a := a1.add (i * 5)) (n := 5) (cs := (Sx.nC kddZ nadZ nmdZ nndZ B1 ksdZ cb1)) H5 4 (by kernel_rfl)) ?_
      refine Sx.c 1 [0, 4, 1] H5 (fun Hp R hZ => ih bc bg eA en ec oA on oc Q kddZ nadZ nmdZ nndZ ksdZ B1 cb1 Sa Aa an ac all cc w3 R Hp c2 hq hnn haz (fun w4 G2 => hZ _ _ _ G2 fun H6 => ?_))
      refine Sx.v 5 (.int .i64 (IntKind.i64.wrap (((i : Nat) : Int) + (1 : Int)))) (.int .i64 ((i + 1 : Nat) : Int)) (congrArg (Value.int .i64) (Gx.i64n (by omega) (by omega))) ?_
      exact Sx.to 2 _ (hK1 _ _ _ _ (by omega) ⟨(i + 1), c2, rfl, rfl, H6.pk [0, 2, 1, 1], (by omega), hfo2⟩)
    have p_c21 := of_decide_eq_false h_c21
    obtain rfl := rF_done hfo (by omega)
    refine Sx.rt 7 [] H4 (.tuple #[]) ?_
    subst hL0
    exact hK _ (H4.pk [0, 0, 0])
  have p_c16 := h_c16; try simp [-List.getD_eq_getElem?_getD] at p_c16
  obtain ⟨dA, dB, c1, hd0, hd1, hr1, hr2⟩ := hy (by omega)
  obtain ⟨kddA, nadA, nmdA, nndA, ksdA⟩ := dA
  obtain ⟨B2, cb2, a2, ha2, H8⟩ := nd_kid (Q := Q) (ks := ks) (A := nA) (c := nc) (i := 0) H2 1 (by kernel_rfl) hd0
  refine Sx.l 6 3 H8 <| Sx.ia 0 a2 0 5 ks.length nc ha2 (at_lt hd0) <| Sx.lo (c := 5) (t := 62) 0 (Sx.nC kddA nadA nmdA nndA B2 ksdA cb2) (Sx.nA kddA nadA nmdA nndA B2 ksdA cb2) (cel_at (Q := Q) (a := a2.add (0 * 5)) (n := 5) (cs := (Sx.nC kddA nadA nmdA nndA B2 ksdA cb2)) H8 4 (by kernel_rfl)) ?_
  refine Sx.c 1 [0, 4, 1] H8 (fun Hp R hZ => ih bc bg eA en ec oA on oc Q kddA nadA nmdA nndA ksdA B2 cb2 Sa Aa an ac all c w2 R Hp c1 hr1 hnn haz (fun w5 G3 => hZ _ _ _ G3 fun H9 => ?_))
  refine Sx.lp 9 (fun z l' w' => ∃ (i : Nat) (cc : Ck), l' = [(0, .p bc), (2, .slice Aa an ac), (4, .p k1), (7, .n i)] ∧ z = ks.length - i ∧ Hs w L0 w' [Sx.cB bc bg eA en ec oA on oc cc.fk cc.fa, kvI Q ks nA nc, strI Sa Aa all, .blk k1 (.cells #[.n kd, .n na, .string nm, .int .i64 nn, .slice nA ks.length nc] 62)] ∧ (2 ≤ i) ∧ (i ≤ ks.length) ∧ (rowAll cc all ((ks.take i).drop 2) (ks.drop i) = rowAll c1 all [] (ks.drop 2))) _ _ ⟨2, c1, rfl, rfl, H9.pk [0, 2, 1, 1], (Nat.le_refl _), (at_lt hd1), (by rw [List.drop_of_length_le (by rw [List.length_take]; omega)])⟩ (fun b2 z2 l2 w6 hI2 K2 hK2 => ?_)
  obtain ⟨i, cc, rfl, rfl, H11, hi2, hil, hra⟩ := hI2
  refine Sx.l 5 3 H11 ?_
  refine Sx.br 4 (decide (((i : Nat) : Int) < ((ks.length : Nat) : Int))) (fun h_c43 => ?_) (fun h_c43 => ?_)
  · have p_c43 := of_decide_eq_true h_c43
    obtain ⟨dZ, hdZ⟩ := some_at (l := ks) (i := i) (by omega)
    obtain ⟨c3, htw, hra2⟩ := rowAll_step hra hi2 hdZ
    obtain ⟨kddZ, nadZ, nmdZ, nndZ, ksdZ⟩ := dZ
    obtain ⟨B3, cb3, a3, ha3, H12⟩ := nd_kid (Q := Q) (ks := ks) (A := nA) (c := nc) (i := i) H11 1 (by kernel_rfl) hdZ
    refine Sx.lp 16 (fun z l' w' => ∃ (j : Nat) (b : Bool), l' = [(0, .p bc), (2, .slice Aa an ac), (4, .p k1), (7, .n i), (8, .bool b), (9, .n j)] ∧ z = all.length - j ∧ Hs w L0 w' [Sx.cB bc bg eA en ec oA on oc cc.fk cc.fa, kvI Q ks nA nc, strI Sa Aa all, .blk k1 (.cells #[.n kd, .n na, .string nm, .int .i64 nn, .slice nA ks.length nc] 62), celI Q (a3.add (i * 5)) 5 (Sx.nC kddZ nadZ nmdZ nndZ B3 ksdZ cb3), kvI Q ksdZ B3 cb3] ∧ (j ≤ all.length) ∧ (inN nmdZ (all.take j) = b)) _ _ ⟨0, false, rfl, rfl, H12.pk [0, 0, 0, 0, 0, 0], (Nat.zero_le _), rfl⟩ (fun b3 z3 l3 w7 hI3 K3 hK3 => ?_)
    obtain ⟨j, b, rfl, rfl, H14, hjl, hb⟩ := hI3
    rcases b with _ | _
    · refine Sx.br 9 (decide (((j : Nat) : Int) < ((an : Nat) : Int))) (fun h_c49 => ?_) (fun h_c49 => ?_)
      · refine Sx.dr 4 H14 [2, 3, 4] [] (LJ := [strI Sa Aa all, .blk k1 (.cells #[.n kd, .n na, .string nm, .int .i64 nn, .slice nA ks.length nc] 62), celI Q (a3.add (i * 5)) 5 (Sx.nC kddZ nadZ nmdZ nndZ B3 ksdZ cb3)]) (by kernel_rfl) fun w8 H15 => ?_
        have p_c49 := of_decide_eq_true h_c49
        obtain ⟨a4, ha4, _, hc1⟩ := (H15.at 2 (it := strI Sa Aa all) (by kernel_rfl)).1 j _ (gn_at (l := all) (by omega))
        refine Sx.tk [(0, none), (1, none), (2, none), (3, none)] (H15.sb [2, 2, 2]) <| Sx.tvi 4 [] a4 j 1 an ac ha4 (by omega) (H15.sb [2, 2, 2]) <| Sx.tvo (c := 1) (t := 9) 5 [] [.string (gn all j)] (.string (gn all j)) (fun w' hs => (sp_at hs 0 (it := strI Sa Aa all) (by kernel_rfl)).1.one ha4 (gn_at (by omega))) (H15.sb [2, 2, 2]) <| Sx.tk [(6, none), (7, some (1, [])), (8, none)] (H15.sb [2, 2, 2]) <| Sx.tvi 9 [] a3 i 5 ks.length nc ha3 (at_lt hdZ) (H15.sb [2, 2, 2]) <| Sx.tvf 10 [] (a3.add (i * 5)) 2 (H15.sb [2, 2, 2]) ?_
        refine Sx.tvo (c := 1) (t := 9) 11 [] [.string nmdZ] (.string nmdZ) (fun w' hs => (cells_sub (i := 2) (m := 1) (cel_sp (Q := Q) (a := a3.add (i * 5)) (n := 5) (cs := (Sx.nC kddZ nadZ nmdZ nndZ B3 ksdZ cb3)) hs 2 (by kernel_rfl)) (by decide))) (H15.sb [2, 2, 2]) <| Sx.tk [(12, none), (13, none), (14, none)] (H15.sb [2, 2, 2]) <| Sx.dn <| Sx.v 4 (.int .i64 (IntKind.i64.wrap (((j : Nat) : Int) + (1 : Int)))) (.int .i64 ((j + 1 : Nat) : Int)) (congrArg (Value.int .i64) (Gx.i64n (by omega) (by omega))) ?_
        exact Sx.to 2 _ (hK3 _ _ _ _ (by omega) ⟨(j + 1), ((gn all j).toList == nmdZ.toList), rfl, rfl, H15.pk [0, 0, 0, 0, 0, 0], (by omega), (by rw [inN_take (by omega), hb, eqN_eq]; rfl)⟩)
      have p_c49 := of_decide_eq_false h_c49
      have hin : inN (Nd.mk kddZ nadZ nmdZ nndZ ksdZ).nm all = false := by rw [List.take_of_length_le (by omega)] at hb; exact hb
      rw [if_neg (by rw [hin]; decide)] at htw
      refine Sx.l 16 3 H14 <| Sx.ia 1 a3 i 5 ks.length nc ha3 (at_lt hdZ) <| Sx.fa 0 (a3.add (i * 5)) 1 <| Sx.lo (c := 1) (t := 3) 0 [.n nadZ] (.n nadZ) (cells_sub (i := 1) (m := 1) (cel_at (Q := Q) (a := a3.add (i * 5)) (n := 5) (cs := (Sx.nC kddZ nadZ nmdZ nndZ B3 ksdZ cb3)) H14 4 (by kernel_rfl)) (by decide)) ?_
      refine Sx.c 0 [0] H14 (fun Hp R hZ => no_c bc bg eA en ec oA on oc cc.fk cc.fa 6 ((nadZ : Nat) : Int) w7 R Hp  (fun w9 G4 => hZ _ _ _ G4 fun H17 => ?_))
      rw [← (ck_no (c := cc) (kd := 6) (a := ((nadZ : Nat) : Int))).1, ← (ck_no (c := cc) (kd := 6) (a := ((nadZ : Nat) : Int))).2.1] at H17
      refine Sx.lp 8 (fun z l' w' => ∃ (j : Nat) (cd : Ck), l' = [(0, .p bc), (2, .slice Aa an ac), (4, .p k1), (7, .n i), (10, .n j)] ∧ z = i - j ∧ Hs w L0 w' [Sx.cB bc bg eA en ec oA on oc cd.fk cd.fa, kvI Q ks nA nc, strI Sa Aa all, .blk k1 (.cells #[.n kd, .n na, .string nm, .int .i64 nn, .slice nA ks.length nc] 62), celI Q (a3.add (i * 5)) 5 (Sx.nC kddZ nadZ nmdZ nndZ B3 ksdZ cb3), kvI Q ksdZ B3 cb3] ∧ (2 ≤ j) ∧ (j ≤ i) ∧ (((ks.take i).drop j).foldl (twF (Nd.mk kddZ nadZ nmdZ nndZ ksdZ)) cd = c3)) _ _ ⟨2, (Ck.no cc 6 ((nadZ : Nat) : Int)), rfl, rfl, H17.pk [0, 0, 0, 0, 0, 0], (Nat.le_refl _), hi2, htw⟩ (fun b4 z4 l4 w10 hI4 K4 hK4 => ?_)
      obtain ⟨j, cd, rfl, rfl, H19, hj2, hji, htw⟩ := hI4
      refine Sx.br 8 (decide (((j : Nat) : Int) < ((i : Nat) : Int))) (fun h_c78 => ?_) (fun h_c78 => ?_)
      · have p_c78 := of_decide_eq_true h_c78
        obtain ⟨dV, hdV⟩ := some_at (l := ks) (i := j) (by omega)
        obtain ⟨kddV, nadV, nmdV, nndV, ksdV⟩ := dV
        obtain ⟨B4, cb4, a5, ha5, H20⟩ := nd_kid (Q := Q) (ks := ks) (A := nA) (c := nc) (i := j) H19 1 (by kernel_rfl) hdV
        have htw2 := tw_step htw (by omega) hdV
        refine Sx.dr 5 H20 [3, 6, 4] [] (LJ := [.blk k1 (.cells #[.n kd, .n na, .string nm, .int .i64 nn, .slice nA ks.length nc] 62), celI Q (a5.add (j * 5)) 5 (Sx.nC kddV nadV nmdV nndV B4 ksdV cb4), celI Q (a3.add (i * 5)) 5 (Sx.nC kddZ nadZ nmdZ nndZ B3 ksdZ cb3)]) (by kernel_rfl) fun w11 H21 => Sx.tk [(0, none), (1, some (0, [])), (2, none)] (H21.sb [3, 5, 3]) <| Sx.tvi 3 [] a5 j 5 ks.length nc ha5 (at_lt hdV) (H21.sb [3, 5, 3]) <| Sx.tvf 4 [] (a5.add (j * 5)) 2 (H21.sb [3, 5, 3]) <| Sx.tvo (c := 1) (t := 9) 5 [] [.string nmdV] (.string nmdV) (fun w' hs => (cells_sub (i := 2) (m := 1) (cel_sp (Q := Q) (a := a5.add (j * 5)) (n := 5) (cs := (Sx.nC kddV nadV nmdV nndV B4 ksdV cb4)) hs 1 (by kernel_rfl)) (by decide))) (H21.sb [3, 5, 3]) <| Sx.tk [(6, none), (7, some (0, [])), (8, none)] (H21.sb [3, 5, 3]) ?_
        refine Sx.tvi 9 [] a3 i 5 ks.length nc ha3 (at_lt hdZ) (H21.sb [3, 5, 3]) <| Sx.tvf 10 [] (a3.add (i * 5)) 2 (H21.sb [3, 5, 3]) <| Sx.tvo (c := 1) (t := 9) 11 [] [.string nmdZ] (.string nmdZ) (fun w' hs => (cells_sub (i := 2) (m := 1) (cel_sp (Q := Q) (a := a3.add (i * 5)) (n := 5) (cs := (Sx.nC kddZ nadZ nmdZ nndZ B3 ksdZ cb3)) hs 2 (by kernel_rfl)) (by decide))) (H21.sb [3, 5, 3]) <| Sx.tk [(12, none)] (H21.sb [3, 5, 3]) <| Sx.dn ?_
        refine Sx.br 1 (nmdV.toList == nmdZ.toList) (fun h_c93 => ?_) (fun h_c93 => ?_)
        · have he : eqN nmdV (Nd.mk kddZ nadZ nmdZ nndZ ksdZ).nm = true := by rw [eqN_eq]; exact h_c93
          rw [if_pos he] at htw2
          refine Sx.l 3 3 H21 <| Sx.ia 1 a3 i 5 ks.length nc ha3 (at_lt hdZ) <| Sx.fa 0 (a3.add (i * 5)) 1 <| Sx.lo (c := 1) (t := 3) 0 [.n nadZ] (.n nadZ) (cells_sub (i := 1) (m := 1) (cel_at (Q := Q) (a := a3.add (i * 5)) (n := 5) (cs := (Sx.nC kddZ nadZ nmdZ nndZ B3 ksdZ cb3)) H21 4 (by kernel_rfl)) (by decide)) ?_
          refine Sx.c 0 [0] H21 (fun Hp R hZ => no_c bc bg eA en ec oA on oc cd.fk cd.fa 7 ((nadZ : Nat) : Int) w11 R Hp  (fun w12 G5 => hZ _ _ _ G5 fun H22 => ?_))
          rw [← (ck_no (c := cd) (kd := 7) (a := ((nadZ : Nat) : Int))).1, ← (ck_no (c := cd) (kd := 7) (a := ((nadZ : Nat) : Int))).2.1] at H22
          refine Sx.v 5 (.int .i64 (IntKind.i64.wrap (((j : Nat) : Int) + (1 : Int)))) (.int .i64 ((j + 1 : Nat) : Int)) (congrArg (Value.int .i64) (Gx.i64n (by omega) (by omega))) ?_
          exact Sx.to 2 _ (hK4 _ _ _ _ (by omega) ⟨(j + 1), (Ck.no cd 7 ((nadZ : Nat) : Int)), rfl, rfl, H22.pk [0, 0, 0, 0, 0, 0], (by omega), (by omega), htw2⟩)
        have he : eqN nmdV (Nd.mk kddZ nadZ nmdZ nndZ ksdZ).nm = false := by rw [eqN_eq]; exact h_c93
        rw [if_neg (by rw [he]; decide)] at htw2
        refine Sx.v 5 (.int .i64 (IntKind.i64.wrap (((j : Nat) : Int) + (1 : Int)))) (.int .i64 ((j + 1 : Nat) : Int)) (congrArg (Value.int .i64) (Gx.i64n (by omega) (by omega))) ?_
        exact Sx.to 2 _ (hK4 _ _ _ _ (by omega) ⟨(j + 1), cd, rfl, rfl, H21.pk [0, 0, 0, 0, 0, 0], (by omega), (by omega), htw2⟩)
      have p_c78 := of_decide_eq_false h_c78
      obtain rfl := tw_done htw (by omega)
      refine Sx.v 8 (.int .i64 (IntKind.i64.wrap (((i : Nat) : Int) + (1 : Int)))) (.int .i64 ((i + 1 : Nat) : Int)) (congrArg (Value.int .i64) (Gx.i64n (by omega) (by omega))) ?_
      exact Sx.to 2 _ (hK2 _ _ _ _ (by omega) ⟨(i + 1), cd, rfl, rfl, H19.pk [0, 0, 0, 0], (by omega), (by omega), hra2⟩)
    refine Sx.br 9 (decide (((j : Nat) : Int) < ((an : Nat) : Int))) (fun h_c49 => ?_) (fun h_c49 => ?_)
    · refine Sx.dr 4 H14 [] [] (LJ := []) (by kernel_rfl) fun w13 H26 => ?_
      refine Sx.tk [(0, none), (1, none), (2, none), (3, none), (4, none), (5, none), (6, none), (7, none), (8, none), (9, none), (10, none), (11, none), (12, none), (13, none), (14, none)] Sx.sn <| Sx.dn ?_
      have p_c49 := of_decide_eq_true h_c49
      refine Sx.v 4 (.int .i64 (IntKind.i64.wrap (((j : Nat) : Int) + (1 : Int)))) (.int .i64 ((j + 1 : Nat) : Int)) (congrArg (Value.int .i64) (Gx.i64n (by omega) (by omega))) ?_
      exact Sx.to 2 _ (hK3 _ _ _ _ (by omega) ⟨(j + 1), true, rfl, rfl, H26.pk [0, 0, 0, 0, 0, 0], (by omega), (by rw [inN_take (by omega), hb]; rfl)⟩)
    have p_c49 := of_decide_eq_false h_c49
    have hin : inN (Nd.mk kddZ nadZ nmdZ nndZ ksdZ).nm all = true := by rw [List.take_of_length_le (by omega)] at hb; exact hb
    rw [if_pos hin] at htw
    refine Sx.lp 21 (fun z l' w' => ∃ (j : Nat) (cd : Ck), l' = [(0, .p bc), (2, .slice Aa an ac), (4, .p k1), (7, .n i), (10, .n j)] ∧ z = i - j ∧ Hs w L0 w' [Sx.cB bc bg eA en ec oA on oc cd.fk cd.fa, kvI Q ks nA nc, strI Sa Aa all, .blk k1 (.cells #[.n kd, .n na, .string nm, .int .i64 nn, .slice nA ks.length nc] 62), celI Q (a3.add (i * 5)) 5 (Sx.nC kddZ nadZ nmdZ nndZ B3 ksdZ cb3), kvI Q ksdZ B3 cb3] ∧ (2 ≤ j) ∧ (j ≤ i) ∧ (((ks.take i).drop j).foldl (twF (Nd.mk kddZ nadZ nmdZ nndZ ksdZ)) cd = c3)) _ _ ⟨2, cc, rfl, rfl, H14.pk [0, 0, 0, 0, 0, 0], (Nat.le_refl _), hi2, htw⟩ (fun b5 z5 l5 w14 hI5 K5 hK5 => ?_)
    obtain ⟨j, cd, rfl, rfl, H29, hj2, hji, htw⟩ := hI5
    refine Sx.br 8 (decide (((j : Nat) : Int) < ((i : Nat) : Int))) (fun h_c78 => ?_) (fun h_c78 => ?_)
    · have p_c78 := of_decide_eq_true h_c78
      obtain ⟨dV, hdV⟩ := some_at (l := ks) (i := j) (by omega)
      obtain ⟨kddV, nadV, nmdV, nndV, ksdV⟩ := dV
      obtain ⟨B5, cb5, a6, ha6, H30⟩ := nd_kid (Q := Q) (ks := ks) (A := nA) (c := nc) (i := j) H29 1 (by kernel_rfl) hdV
      have htw2 := tw_step htw (by omega) hdV
      refine Sx.dr 5 H30 [3, 6, 4] [] (LJ := [.blk k1 (.cells #[.n kd, .n na, .string nm, .int .i64 nn, .slice nA ks.length nc] 62), celI Q (a6.add (j * 5)) 5 (Sx.nC kddV nadV nmdV nndV B5 ksdV cb5), celI Q (a3.add (i * 5)) 5 (Sx.nC kddZ nadZ nmdZ nndZ B3 ksdZ cb3)]) (by kernel_rfl) fun w15 H31 => Sx.tk [(0, none), (1, some (0, [])), (2, none)] (H31.sb [3, 5, 3]) <| Sx.tvi 3 [] a6 j 5 ks.length nc ha6 (at_lt hdV) (H31.sb [3, 5, 3]) <| Sx.tvf 4 [] (a6.add (j * 5)) 2 (H31.sb [3, 5, 3]) <| Sx.tvo (c := 1) (t := 9) 5 [] [.string nmdV] (.string nmdV) (fun w' hs => (cells_sub (i := 2) (m := 1) (cel_sp (Q := Q) (a := a6.add (j * 5)) (n := 5) (cs := (Sx.nC kddV nadV nmdV nndV B5 ksdV cb5)) hs 1 (by kernel_rfl)) (by decide))) (H31.sb [3, 5, 3]) <| Sx.tk [(6, none), (7, some (0, [])), (8, none)] (H31.sb [3, 5, 3]) ?_
      refine Sx.tvi 9 [] a3 i 5 ks.length nc ha3 (at_lt hdZ) (H31.sb [3, 5, 3]) <| Sx.tvf 10 [] (a3.add (i * 5)) 2 (H31.sb [3, 5, 3]) <| Sx.tvo (c := 1) (t := 9) 11 [] [.string nmdZ] (.string nmdZ) (fun w' hs => (cells_sub (i := 2) (m := 1) (cel_sp (Q := Q) (a := a3.add (i * 5)) (n := 5) (cs := (Sx.nC kddZ nadZ nmdZ nndZ B3 ksdZ cb3)) hs 2 (by kernel_rfl)) (by decide))) (H31.sb [3, 5, 3]) <| Sx.tk [(12, none)] (H31.sb [3, 5, 3]) <| Sx.dn ?_
      refine Sx.br 1 (nmdV.toList == nmdZ.toList) (fun h_c93 => ?_) (fun h_c93 => ?_)
      · have he : eqN nmdV (Nd.mk kddZ nadZ nmdZ nndZ ksdZ).nm = true := by rw [eqN_eq]; exact h_c93
        rw [if_pos he] at htw2
        refine Sx.l 3 3 H31 <| Sx.ia 1 a3 i 5 ks.length nc ha3 (at_lt hdZ) <| Sx.fa 0 (a3.add (i * 5)) 1 <| Sx.lo (c := 1) (t := 3) 0 [.n nadZ] (.n nadZ) (cells_sub (i := 1) (m := 1) (cel_at (Q := Q) (a := a3.add (i * 5)) (n := 5) (cs := (Sx.nC kddZ nadZ nmdZ nndZ B3 ksdZ cb3)) H31 4 (by kernel_rfl)) (by decide)) ?_
        refine Sx.c 0 [0] H31 (fun Hp R hZ => no_c bc bg eA en ec oA on oc cd.fk cd.fa 7 ((nadZ : Nat) : Int) w15 R Hp  (fun w16 G6 => hZ _ _ _ G6 fun H32 => ?_))
        rw [← (ck_no (c := cd) (kd := 7) (a := ((nadZ : Nat) : Int))).1, ← (ck_no (c := cd) (kd := 7) (a := ((nadZ : Nat) : Int))).2.1] at H32
        refine Sx.v 5 (.int .i64 (IntKind.i64.wrap (((j : Nat) : Int) + (1 : Int)))) (.int .i64 ((j + 1 : Nat) : Int)) (congrArg (Value.int .i64) (Gx.i64n (by omega) (by omega))) ?_
        exact Sx.to 2 _ (hK5 _ _ _ _ (by omega) ⟨(j + 1), (Ck.no cd 7 ((nadZ : Nat) : Int)), rfl, rfl, H32.pk [0, 0, 0, 0, 0, 0], (by omega), (by omega), htw2⟩)
      have he : eqN nmdV (Nd.mk kddZ nadZ nmdZ nndZ ksdZ).nm = false := by rw [eqN_eq]; exact h_c93
      rw [if_neg (by rw [he]; decide)] at htw2
      refine Sx.v 5 (.int .i64 (IntKind.i64.wrap (((j : Nat) : Int) + (1 : Int)))) (.int .i64 ((j + 1 : Nat) : Int)) (congrArg (Value.int .i64) (Gx.i64n (by omega) (by omega))) ?_
      exact Sx.to 2 _ (hK5 _ _ _ _ (by omega) ⟨(j + 1), cd, rfl, rfl, H31.pk [0, 0, 0, 0, 0, 0], (by omega), (by omega), htw2⟩)
    have p_c78 := of_decide_eq_false h_c78
    obtain rfl := tw_done htw (by omega)
    refine Sx.v 8 (.int .i64 (IntKind.i64.wrap (((i : Nat) : Int) + (1 : Int)))) (.int .i64 ((i + 1 : Nat) : Int)) (congrArg (Value.int .i64) (Gx.i64n (by omega) (by omega))) ?_
    exact Sx.to 2 _ (hK2 _ _ _ _ (by omega) ⟨(i + 1), cd, rfl, rfl, H29.pk [0, 0, 0, 0], (by omega), (by omega), hra2⟩)
  have p_c43 := of_decide_eq_false h_c43
  have hcc := rowAll_done hra (by omega)
  rw [← hcc] at hr2
  obtain ⟨kddB, nadB, nmdB, nndB, ksdB⟩ := dB
  obtain ⟨B6, cb6, a7, ha7, H36⟩ := nd_kid (Q := Q) (ks := ks) (A := nA) (c := nc) (i := 1) H11 1 (by kernel_rfl) hd1
  refine Sx.l 8 3 H36 <| Sx.ia 0 a7 1 5 ks.length nc ha7 (at_lt hd1) <| Sx.lo (c := 5) (t := 62) 0 (Sx.nC kddB nadB nmdB nndB B6 ksdB cb6) (Sx.nA kddB nadB nmdB nndB B6 ksdB cb6) (cel_at (Q := Q) (a := a7.add (1 * 5)) (n := 5) (cs := (Sx.nC kddB nadB nmdB nndB B6 ksdB cb6)) H36 4 (by kernel_rfl)) ?_
  refine Sx.c 1 [0, 4, 1] H36 (fun Hp R hZ => ih bc bg eA en ec oA on oc Q kddB nadB nmdB nndB ksdB B6 cb6 Sa Aa an ac all cc w6 R Hp c' hr2 hnn haz (fun w17 G7 => hZ _ _ _ G7 fun H37 => ?_))
  refine Sx.rt 1 [] H37 (.tuple #[]) ?_
  subst hL0
  exact hK _ (H37.pk [0, 2, 1])
theorem rowNames_c (k : Nat) : ∀ (bc bg : Nat) (eA : Option Addr) (en ec : Nat) (oA : Option Addr) (on oc : Nat) (Q : Nat → Prop) (kd na : Nat) (nm : Nm) (nn : Int) (ks : List Nd) (nA : Option Addr) (nc : Nat) (Sa : Nat → Prop) (Aa : Option Addr) (an ac : Nat) (all : List Nm) (c : Ck) (w : World) (K : Ending → World → Prop) (H0 : Sp w [Sx.cB bc bg eA en ec oA on oc c.fk c.fa, kvI Q ks nA nc, strI Sa Aa all]) (c' : Ck) (hf : rowNames k c (.mk kd na nm nn ks) all = some c') (hnn : an = all.length) (haz : all.length < 1000000000) (hK : ∀ w', Hs w [Sx.cB bc bg eA en ec oA on oc c.fk c.fa, kvI Q ks nA nc, strI Sa Aa all] w' [Sx.cB bc bg eA en ec oA on oc c'.fk c'.fa, kvI Q ks nA nc, strI Sa Aa all] → K (.returned (.tuple #[])) w'),
    Calls Tryz.prog 84 #[.p bc, Sx.nA kd na nm nn nA ks nc, .slice Aa an ac] w K := by
  induction k with
  | zero => intro bc bg eA en ec oA on oc Q kd na nm nn ks nA nc Sa Aa an ac all c w K H0 c' hf; exact absurd hf (by simp [rowNames])
  | succ k ih => exact rowNames_c_s k ih
end Go.Proofs.YtdmdecgoebnamaaGreat
namespace Go.Inf
open Go.RowKit Go.Sx Go.Gx Go.Syn
theorem add_new {s : List Nat} {n : Nat} (h : s.contains n = false) : add s n = s ++ [n] := by unfold add; rw [if_neg (by rw [h]; decide)]
abbrev V3 := List Nat × List Nat × List Nat
def VC (k : Nat) (g : G) (u kd : Nat) (s t r s' t' r' : List Nat) : Prop :=
  (kd ≠ 6 → s = s' ∧ t = t' ∧ r = r') ∧ (kd = 6 → ∃ q l v, g.row[u]? = some q ∧ whole k g q [] = some (l, v) ∧ (v = 0 → s = s' ∧ t = t' ∧ r = r') ∧ (v ≠ 0 → s = s' ∧ t = t' ∧ add r v = r'))
def VB (k : Nat) (g : G) (u kd : Nat) (s t r s' t' r' : List Nat) : Prop :=
  ∃ y, g.b[u]? = some y ∧ (y = none → VC k g u kd s t r s' t' r') ∧ ∀ p, y = some p → ∃ s2 t2 r2, vars k g p s t r = some (s2, t2, r2) ∧ VC k g u kd s2 t2 r2 s' t' r'
def VA (k : Nat) (g : G) (u kd : Nat) (s t r s' t' r' : List Nat) : Prop :=
  ∃ y, g.a[u]? = some y ∧ (y = none → VB k g u kd s t r s' t' r') ∧ ∀ p, y = some p → ∃ s2 t2 r2, vars k g p s t r = some (s2, t2, r2) ∧ VB k g u kd s2 t2 r2 s' t' r'
theorem vars_cases {k n : Nat} {g : G} {s t r s' t' r' : List Nat} (h : vars (k + 1) g n s t r = some (s', t', r')) :
    ∃ u, find k g n = some u ∧ (s.contains u = true → s = s' ∧ t = t' ∧ r = r') ∧ (s.contains u = false → ∃ kd, g.kind[u]? = some kd ∧ (kd = 0 → s ++ [u] = s' ∧ add t u = t' ∧ r = r') ∧ (kd ≠ 0 → VA k g u kd (s ++ [u]) t r s' t' r')) := by
  unfold vars at h
  split at h <;> try contradiction
  rename_i u hu
  refine ⟨u, hu, fun e => ?_, fun e => ?_⟩
  · rw [if_pos e] at h; cases h; exact ⟨rfl, rfl, rfl⟩
  · rw [if_neg (by rw [e]; decide)] at h
    simp only at h
    cases hk : g.kind[u]? with
    | none => simp [hk] at h
    | some kd =>
      refine ⟨kd, rfl, fun e0 => ?_, fun e0 => ?_⟩
      · subst e0; simp only [hk, Option.some.injEq, Prod.mk.injEq] at h; exact h
      · rw [hk] at h
        have h : (match (match g.a[u]? with | some none => some ((s ++ [u], t, r) : V3) | some (some m) => vars k g m (s ++ [u]) t r | none => none) with
          | some q => (match (match g.b[u]? with | some none => some q | some (some m) => vars k g m q.1 q.2.1 q.2.2 | none => none) with
            | some z => if kd = 6 then (match g.row[u]? with
              | some rr => (match whole k g rr [] with
                | some (_, 0) => some z
                | some (_, v + 1) => some (z.1, z.2.1, add z.2.2 (v + 1))
                | none => none)
              | none => none) else some z
            | none => none)
          | none => none) = some (s', t', r') := by
          cases kd with
          | zero => exact absurd rfl e0
          | succ kd => exact h
        have hC : ∀ z : V3, (if kd = 6 then (match g.row[u]? with
              | some rr => (match whole k g rr [] with
                | some (_, 0) => some z
                | some (_, v + 1) => some (z.1, z.2.1, add z.2.2 (v + 1))
                | none => none)
              | none => none) else some z) = some (s', t', r') → VC k g u kd z.1 z.2.1 z.2.2 s' t' r' := by
          intro z hz
          refine ⟨fun e6 => ?_, fun e6 => ?_⟩
          · rw [if_neg e6] at hz; cases hz; exact ⟨rfl, rfl, rfl⟩
          · rw [if_pos e6] at hz
            split at hz <;> try contradiction
            rename_i rr hr
            split at hz <;> try contradiction
            · rename_i l hw; cases hz; exact ⟨rr, l, 0, hr, hw, fun _ => ⟨rfl, rfl, rfl⟩, fun q => absurd rfl q⟩
            · rename_i l v hw; cases hz; exact ⟨rr, l, v + 1, hr, hw, fun q => by omega, fun _ => ⟨rfl, rfl, rfl⟩⟩
        have hB : ∀ q : V3, (match (match g.b[u]? with | some none => some q | some (some m) => vars k g m q.1 q.2.1 q.2.2 | none => none) with
            | some z => if kd = 6 then (match g.row[u]? with
              | some rr => (match whole k g rr [] with
                | some (_, 0) => some z
                | some (_, v + 1) => some (z.1, z.2.1, add z.2.2 (v + 1))
                | none => none)
              | none => none) else some z
            | none => none) = some (s', t', r') → VB k g u kd q.1 q.2.1 q.2.2 s' t' r' := by
          intro q hq
          cases hb : g.b[u]? with
          | none => simp [hb] at hq
          | some y =>
            cases y with
            | none => rw [hb] at hq; exact ⟨none, hb, fun _ => hC q hq, fun p e => by cases e⟩
            | some p =>
              rw [hb] at hq
              cases hv : vars k g p q.1 q.2.1 q.2.2 with
              | none => simp [hv] at hq
              | some z => simp only [hv] at hq; exact ⟨some p, hb, fun e => (by cases e), fun p' e => by cases e; exact ⟨z.1, z.2.1, z.2.2, hv, hC z hq⟩⟩
        cases ha : g.a[u]? with
        | none => simp [ha] at h
        | some y =>
          cases y with
          | none => rw [ha] at h; exact ⟨none, ha, fun _ => hB (s ++ [u], t, r) h, fun p e => by cases e⟩
          | some p =>
            rw [ha] at h
            cases hv : vars k g p (s ++ [u]) t r with
            | none => simp [hv] at h
            | some z => simp only [hv] at h; exact ⟨some p, ha, fun e => (by cases e), fun p' e => by cases e; exact ⟨z.1, z.2.1, z.2.2, hv, hB z h⟩⟩
/-! ### What is not new joins those in sight -/
def MF (a x : List Nat) (t : List Nat) : List Nat := (a.filter fun n => !x.contains n).foldl add t
theorem mem_foldl_add {l : List Nat} {t : List Nat} {n : Nat} : n ∈ l.foldl add t ↔ n ∈ t ∨ n ∈ l := by
  induction l generalizing t with
  | nil => simp
  | cons y l ih => rw [List.foldl_cons, ih, mem_add, List.mem_cons]; exact or_assoc
theorem mem_MF {a x t : List Nat} {n : Nat} : n ∈ MF a x t ↔ n ∈ t ∨ (n ∈ a ∧ n ∉ x) := by
  unfold MF; rw [mem_foldl_add, List.mem_filter]; simp
/-- Between: what is in the set now, and what is left. -/
def Mid (x left now a t : List Nat) : Prop := ∀ n, (n ∈ now ∨ (n ∈ left ∧ n ∉ x)) ↔ n ∈ MF a x t
theorem Mid.init {x l a t : List Nat} (h : Mem2 l a) : Mid x l t a t := fun n => by rw [mem_MF, h n]
theorem Mid.hit {x left lf now a t : List Nat} {q : Nat} (h : Mid x left now a t) (p : left.Perm (q :: lf)) (hq : (!x.contains q) = true) : Mid x lf (add now q) a t := fun n => by
  rw [← h n, mem_add, p.mem_iff, List.mem_cons]
  have hq' : q ∉ x := by simpa using hq
  constructor
  · rintro ((h1 | rfl) | h2)
    · exact .inl h1
    · exact .inr ⟨.inl rfl, hq'⟩
    · exact .inr ⟨.inr h2.1, h2.2⟩
  · rintro (h1 | ⟨rfl | h1, h2⟩)
    · exact .inl (.inl h1)
    · exact .inl (.inr rfl)
    · exact .inr ⟨h1, h2⟩
theorem Mid.miss {x left lf now a t : List Nat} {q : Nat} (h : Mid x left now a t) (p : left.Perm (q :: lf)) (hq : (!x.contains q) = false) : Mid x lf now a t := fun n => by
  rw [← h n, p.mem_iff, List.mem_cons]
  have hq' : q ∈ x := by simpa using hq
  constructor
  · rintro (h1 | h2)
    · exact .inl h1
    · exact .inr ⟨.inr h2.1, h2.2⟩
  · rintro (h1 | ⟨rfl | h1, h2⟩)
    · exact .inl h1
    · exact absurd hq' h2
    · exact .inr ⟨h1, h2⟩
theorem Mid.done {x now a t left : List Nat} (h : Mid x left now a t) (e : left = []) : Mem2 now (MF a x t) := fun n => by rw [← h n, e]; simp
/-! ### What is in sight leaves -/
def Wo (a t : List Nat) : List Nat := t.filter fun v => !a.contains v
def MidD (left now a t : List Nat) : Prop := ∀ n, (n ∈ now ∧ n ∉ left) ↔ n ∈ Wo a t
theorem mem_Wo {a t : List Nat} {n : Nat} : n ∈ Wo a t ↔ n ∈ t ∧ n ∉ a := by unfold Wo; rw [List.mem_filter]; simp
theorem MidD.init {l a t : List Nat} (h : Mem2 l a) : MidD l t a t := fun n => by rw [mem_Wo, h n]
theorem MidD.step {left lf now a t : List Nat} {q : Nat} (h : MidD left now a t) (p : left.Perm (q :: lf)) : MidD lf (now.filter fun n => n != q) a t := fun n => by
  rw [← h n, List.mem_filter, p.mem_iff, List.mem_cons]
  constructor
  · rintro ⟨⟨h1, h2⟩, h3⟩
    exact ⟨h1, fun h => h.elim (by simpa using h2) h3⟩
  · rintro ⟨h1, h2⟩
    exact ⟨⟨h1, by have : n ≠ q := fun e => h2 (.inl e); simpa using this⟩, fun h => h2 (.inr h)⟩
theorem MidD.done {now a t left : List Nat} (h : MidD left now a t) (e : left = []) : Mem2 now (Wo a t) := fun n => by rw [← h n, e]; simp
/-! ### In sight -/
theorem inSight_cons {k : Nat} {g : G} {x : Nam} {e : List Nam} {s t r t' r' : List Nat} (h : inSight k g (x :: e) s t r = some (t', r')) :
    (x.all = true → ∃ z a b, vars k g x.t [] [] [] = some (z, a, b) ∧ inSight k g e s (MF a x.tv t) (MF b x.rv r) = some (t', r')) ∧
    (x.all = false → ∃ s2 t2 r2, vars k g x.t s t r = some (s2, t2, r2) ∧ inSight k g e s2 t2 r2 = some (t', r')) := by
  unfold inSight at h
  refine ⟨fun e1 => ?_, fun e1 => ?_⟩
  · rw [if_pos e1] at h
    split at h <;> try contradiction
    rename_i z a b hv
    exact ⟨z, a, b, hv, h⟩
  · rw [if_neg (by rw [e1]; decide)] at h
    split at h <;> try contradiction
    rename_i s2 t2 r2 hv
    exact ⟨s2, t2, r2, hv, h⟩
theorem ins_step {k i : Nat} {g : G} {el : List Nv} {x : Nv} {s t r t' r' : List Nat} (h : inSight k g ((el.drop i).map (·.1)) s t r = some (t', r')) (hx : el[i]? = some x) : inSight k g (x.1 :: (el.drop (i + 1)).map (·.1)) s t r = some (t', r') := by
  obtain ⟨hi, e⟩ := List.getElem?_eq_some_iff.1 hx
  rw [List.drop_eq_getElem_cons hi, List.map_cons, e] at h
  exact h
theorem general_cases {k n : Nat} {c : Ck} {nm : Nm} {x : Nam} (h : c.general k nm n = some x) :
    ∃ it ir z tv rv, inSight k c.g c.env [] [] [] = some (it, ir) ∧ vars k c.g n [] [] [] = some (z, tv, rv) ∧ (⟨nm, n, true, Wo it tv, Wo ir rv, true⟩ : Nam) = x := by
  unfold Ck.general at h
  split at h <;> try contradiction
  rename_i it ir z tv rv h1 h2
  cases h
  exact ⟨it, ir, z, tv, rv, h1, h2, rfl⟩
section
variable {w0 w : World} {L0 L : List Sx.Item}
theorem maps_at (H : Hs w0 L0 w L) (j : Nat) {S : Nat → Prop} {l : List Nv} (hi : L[j]? = some (mapsI S l)) : ∀ x ∈ l, NamR w S x := (H.at j hi).1
theorem maps_sub (H : Hs w0 L0 w L) (j : Nat) {S : Nat → Prop} {l m : List Nv} (hi : L[j]? = some (mapsI S l)) (h : ∀ x ∈ m, x ∈ l) : Hs w0 L0 w (L ++ [mapsI S m]) :=
  H.ro j (S := S) (A := fun w => ∀ x ∈ l, NamR w S x) (B := fun w => ∀ x ∈ m, NamR w S x) hi (fun x hx => maps_at H j hi x (h x hx)) (mapsI_loc _ _)
theorem maps_none {nm : Nm} {t : Nat} {o : Bool} : ∀ {w : World}, (mapsI (fun _ => False) [(⟨nm, t, false, [], [], o⟩, none, none)]).holds w :=
  ⟨fun x hx => by rw [List.mem_singleton.1 hx]; exact ⟨rfl, rfl⟩, fun _ h => h.elim, mapsI_loc _ _⟩
/-- Two sets of a new name are only read from now on. -/
theorem maps_make (H : Hs w0 L0 w L) (I : List Nat) {nm : Nm} {n b1 b2 : Nat} {a o : Bool} {t r : List Nat} (hp : picked I L = some [setI b1 t, setI b2 r]) : ∃ S, Hs w0 L0 w (mapsI S [(⟨nm, n, a, t, r, o⟩, some b1, some b2)] :: rest I L) := by
  refine ⟨_, H.fz I hp (fun s x hx => ?_) (mapsI_loc _ _)⟩
  rw [List.mem_singleton.1 hx]
  have h0 := s.all _ (.head _)
  have h1 := s.all _ (.tail _ (.head _))
  exact ⟨⟨⟨_, .head _, rfl⟩, h0.1⟩, ⟨⟨_, .tail _ (.head _), rfl⟩, h1.1⟩⟩
/-- Two read-only things as one. -/
theorem maps_join (H : Hs w0 L0 w L) (i j : Nat) {S S2 : Nat → Prop} {l m : List Nv} (hi : L[i]? = some (mapsI S l)) (hj : L[j]? = some (mapsI S2 m)) : Hs w0 L0 w (L ++ [mapsI (fun c => S c ∨ S2 c) (l ++ m)]) := by
  have h1 := H.at i hi
  have h2 := H.at j hj
  have mi := List.mem_of_getElem? hi
  have mj := List.mem_of_getElem? hj
  have hh : (mapsI (fun c => S c ∨ S2 c) (l ++ m)).holds w := by
    refine ⟨fun x hx => ?_, fun c hc => hc.elim (h1.2.1 c) (h2.2.1 c), mapsI_loc _ _⟩
    rcases List.mem_append.1 hx with q | q
    · exact (h1.1 x q).mono fun c h => .inl h
    · exact (h2.1 x q).mono fun c h => .inr h
  refine ⟨H.kp, ⟨fun it hit => ?_, List.pairwise_append.2 ⟨H.sp.dis, List.pairwise_singleton _ _, fun x hx y hy => ?_⟩⟩, fun it hit c hc hl => ?_, fun it hit hw c hc hl => ?_⟩
  · rcases List.mem_append.1 hit with q | q
    · exact H.sp.all it q
    · rw [List.mem_singleton.1 q]; exact hh
  · rw [List.mem_singleton.1 hy]
    intro hw c hc hcc
    have hxw : x.wr = true := by simpa [mapsI, Sx.Item.wr] using hw
    have ap : ∀ (y : Sx.Item), y ∈ L → y.wr = false → ∀ c, x.fp c → ¬ y.fp c := by
      intro y hy hyw c h3 h4
      obtain ⟨a, ha, ea⟩ := List.mem_iff_getElem.1 hx
      obtain ⟨b, hb, eb⟩ := List.mem_iff_getElem.1 hy
      have pw := List.pairwise_iff_getElem.1 H.sp.dis
      rcases Nat.lt_trichotomy a b with q | q | q
      · have := pw a b ha hb q; rw [ea, eb] at this; exact this (by rw [hxw]; rfl) c h3 h4
      · subst q; rw [ea] at eb; subst eb; rw [hxw] at hyw; cases hyw
      · have := pw b a hb ha q; rw [ea, eb] at this; exact this (by rw [hxw]; simp) c h4 h3
    rcases hcc with q | q
    · exact ap _ mi rfl c hc q
    · exact ap _ mj rfl c hc q
  · rcases List.mem_append.1 hit with q | q
    · exact H.ofA it q c hc hl
    · rw [List.mem_singleton.1 q] at hc
      rcases hc with q' | q'
      · exact H.ofA _ mi c q' hl
      · exact H.ofA _ mj c q' hl
  · rcases List.mem_append.1 hit with q | q
    · exact H.ofW it q hw c hc hl
    · rw [List.mem_singleton.1 q] at hw; cases hw
end
end Go.Inf
namespace Go.Proofs.YtdmdecgoebnamaaGreat
open Go.RowKit Go.Sx Go.Inf Go.Syn
attribute [local irreducible] Go.wpOps Go.Code.wp Go.wpOp Go.wpAnyH Go.Calls Go.Sx.Goal
set_option maxRecDepth 20000
set_option maxHeartbeats 8000000 in
theorem vars_c_s (k : Nat) (ih : ∀ (bc bg : Nat) (eA : Option Addr) (en ec : Nat) (oA : Option Addr) (on oc : Nat) (fk : Nat) (fa : Int) (S : Nat → Prop) (g : G) (n : Nat) (bs : Nat) (s : List Nat) (bt : Nat) (t : List Nat) (br : Nat) (r : List Nat) (w : World) (K : Ending → World → Prop) (H0 : Sp w [Sx.cB bc bg eA en ec oA on oc fk fa, GI S bg g, setI bs s, setI bt t, setI br r]) (s' t' r' : List Nat) (hf : vars k g n s t r = some (s', t', r')) (hK : ∀ (S' : Nat → Prop) w', Hs w [Sx.cB bc bg eA en ec oA on oc fk fa, GI S bg g, setI bs s, setI bt t, setI br r] w' [Sx.cB bc bg eA en ec oA on oc fk fa, GI S' bg g, setI bs s', setI bt t', setI br r'] → K (.returned (.tuple #[])) w'),
    Calls Tryz.prog 93 #[.p bc, .n n, .map (some bs), .map (some bt), .map (some br)] w K) (bc bg : Nat) (eA : Option Addr) (en ec : Nat) (oA : Option Addr) (on oc : Nat) (fk : Nat) (fa : Int) (S : Nat → Prop) (g : G) (n : Nat) (bs : Nat) (s : List Nat) (bt : Nat) (t : List Nat) (br : Nat) (r : List Nat) (w : World) (K : Ending → World → Prop) (H0 : Sp w [Sx.cB bc bg eA en ec oA on oc fk fa, GI S bg g, setI bs s, setI bt t, setI br r]) (s' t' r' : List Nat) (hf : vars (k + 1) g n s t r = some (s', t', r')) (hK : ∀ (S' : Nat → Prop) w', Hs w [Sx.cB bc bg eA en ec oA on oc fk fa, GI S bg g, setI bs s, setI bt t, setI br r] w' [Sx.cB bc bg eA en ec oA on oc fk fa, GI S' bg g, setI bs s', setI bt t', setI br r'] → K (.returned (.tuple #[])) w') :
    Calls Tryz.prog 93 #[.p bc, .n n, .map (some bs), .map (some bt), .map (some br)] w K := by
  obtain ⟨L0, hL0, H⟩ := Sx.op0 H0
  refine Sx.en (vs := [.p bc, .n n, .map (some bs), .map (some bt), .map (some br)]) 121 Tryz.func93 ?_
  obtain ⟨u1, hn, hs0, hs1⟩ := vars_cases hf
  refine Sx.l 5 0 H ?_
  refine Sx.c 1 [1] H (fun Hp R hZ => Find_c S bg g n w R Hp _ u1 hn (fun S1 w1 G1 => hZ _ _ _ G1 fun H1 => ?_))
  refine lkb (t := 120) (kt := 3) (et := 4) 8 2 bs u1 s H1 (by kernel_rfl) ?_
  refine Sx.br 2 (List.contains s u1) (fun h_c20 => ?_) (fun h_c20 => ?_)
  · obtain ⟨rfl, rfl, rfl⟩ := hs0 h_c20
    refine Sx.rt 2 [] H1 (.tuple #[]) ?_
    subst hL0
    exact Gx.ret_as (v' := .tuple #[]) (by rfl) (hK S1 _ (H1.pk [1, 0, 0, 0, 0]))
  obtain ⟨kd, hkd, hk0, hk1⟩ := hs1 h_c20
  refine mub (t := 120) (kt := 3) (et := 4) 6 2 bs u1 s H1 (by kernel_rfl) fun w2 H2 => ?_
  have H3 := set_as H2 2 (b := bs) (s := add s u1) (t := (s ++ [u1])) (by kernel_rfl) (by rw [add_new h_c20]; exact Mem2.rfl')
  obtain ⟨⟨⟨kA1, kC1⟩, ⟨aA1, aC1⟩, ⟨bA1, bC1⟩, ⟨rA1, rC1⟩, ⟨lA1, lC1⟩, ⟨oA1, oC1⟩, ⟨nA1, nC1⟩, mbt1, mbr1, msl1, mS1, nk1, no1⟩, H4⟩ := G_open H3 0 (S := S1) (bg := bg) (g := g) (by kernel_rfl)
  obtain ⟨lk1, la1, lb1, lr1, ll1, lo1, ln1, ls1⟩ := G_len H4
  simp only at lk1 la1 lb1 lr1 ll1 lo1 ln1 ls1
  have hnl : u1 < nk1 := by rw [← lk1]; exact at_lt hkd
  obtain ⟨wk1, rfl⟩ := H4.row 1 (A := kA1) (e := 3) (sz := 1) (cap := kC1) (n := nk1) (xs := (nats (g.kind))) (by kernel_rfl) (by omega)
  refine Sx.l 8 11 H4 <| Sx.l 2 0 H4 <| Sx.ir 1 wk1 u1 1 nk1 kC1 (by omega) <| Sx.lr 0 1 3 1 3 wk1 kC1 nk1 (u1 * 1) (nats (g.kind)) H4 (.n kd) (nats_at hkd) ?_
  refine Sx.br 3 (((kd : Nat) : Int) == (0 : Int)) (fun h_c33 => ?_) (fun h_c33 => ?_)
  · have p_c33 := Gx.k1 h_c33
    obtain ⟨S2, H5⟩ := G_close H4 [0, 0, 0, 0, 0, 0, 0, 0, 0, 0, 0] (bg := bg) (g := g) ⟨((some ⟨wk1, 0, none⟩), kC1), (aA1, aC1), (bA1, bC1), (rA1, rC1), (lA1, lC1), (oA1, oC1), (nA1, nC1), mbt1, mbr1, msl1, mS1, nk1, no1⟩ (by kernel_rfl)
    obtain ⟨rfl, rfl, rfl⟩ := hk0 (by omega)
    refine mub (t := 120) (kt := 3) (et := 4) 4 3 bt u1 t H5 (by kernel_rfl) fun w3 H6 => Sx.rt 4 [] H6 (.tuple #[]) ?_
    subst hL0
    exact Gx.ret_as (v' := .tuple #[]) (by rfl) (hK S2 _ (H6.pk [1, 0, 0, 0, 0]))
  have p_c33 := Gx.k0 h_c33
  obtain ⟨S3, H7⟩ := G_close H4 [0, 0, 0, 0, 0, 0, 0, 0, 0, 0, 0] (bg := bg) (g := g) ⟨((some ⟨wk1, 0, none⟩), kC1), (aA1, aC1), (bA1, bC1), (rA1, rC1), (lA1, lC1), (oA1, oC1), (nA1, nC1), mbt1, mbr1, msl1, mS1, nk1, no1⟩ (by kernel_rfl)
  obtain ⟨y, hy, hy0, hy1⟩ := hk1 (by omega)
  refine Sx.cut 2 (fun l' w' => ∃ (S1 : Nat → Prop) (s1 : List Nat) (t1 : List Nat) (r1 : List Nat), l' = [(0, .p bc), (1, .n u1), (2, .map (some bs)), (3, .map (some bt)), (4, .map (some br))] ∧ Hs w L0 w' [Sx.cB bc bg eA en ec oA on oc fk fa, GI S1 bg g, setI bs s1, setI bt t1, setI br r1] ∧ (VB k g u1 kd s1 t1 r1 s' t' r')) (fun K1 hK1 => ?_) (fun b1 l1 w4 hI1 => ?_)
  · obtain ⟨⟨⟨kA2, kC2⟩, ⟨aA2, aC2⟩, ⟨bA2, bC2⟩, ⟨rA2, rC2⟩, ⟨lA2, lC2⟩, ⟨oA2, oC2⟩, ⟨nA2, nC2⟩, mbt2, mbr2, msl2, mS2, nk2, no2⟩, H8⟩ := G_open H7 0 (S := S3) (bg := bg) (g := g) (by kernel_rfl)
    obtain ⟨lk2, la2, lb2, lr2, ll2, lo2, ln2, ls2⟩ := G_len H8
    simp only at lk2 la2 lb2 lr2 ll2 lo2 ln2 ls2
    have hnl : u1 < nk2 := by rw [← la2]; exact at_lt hy
    obtain ⟨wa2, rfl⟩ := H8.row 2 (A := aA2) (e := 3) (sz := 1) (cap := aC2) (n := nk2) (xs := (onats (g.a))) (by kernel_rfl) (by omega)
    refine Sx.l 5 11 H8 <| Sx.l 2 0 H8 <| Sx.ir 1 wa2 u1 1 nk2 aC2 (by omega) <| Sx.lr 0 2 3 1 3 wa2 aC2 nk2 (u1 * 1) (onats (g.a)) H8 (.int .i64 (eI y)) (onats_at hy) ?_
    refine Sx.br 3 (decide ((eI y) ≥ (0 : Int))) (fun h_c46 => ?_) (fun h_c46 => ?_)
    · obtain ⟨p, rfl⟩ := eI_ge1 h_c46
      obtain ⟨s2, t2, r2, hsm, hr1⟩ := hy1 p rfl
      refine Sx.l 5 11 H8 <| Sx.l 2 0 H8 <| Sx.ir 1 wa2 u1 1 nk2 aC2 (by omega) <| Sx.lr 0 2 3 1 3 wa2 aC2 nk2 (u1 * 1) (onats (g.a)) H8 (.n p) (onats_some hy) ?_
      obtain ⟨S4, H9⟩ := G_close H8 [0, 0, 0, 0, 0, 0, 0, 0, 0, 0, 0] (bg := bg) (g := g) ⟨(kA2, kC2), ((some ⟨wa2, 0, none⟩), aC2), (bA2, bC2), (rA2, rC2), (lA2, lC2), (oA2, oC2), (nA2, nC2), mbt2, mbr2, msl2, mS2, nk2, no2⟩ (by kernel_rfl)
      refine Sx.c 3 [1, 0, 0, 0, 0] H9 (fun Hp R hZ => ih bc bg eA en ec oA on oc fk fa S4 g p bs (s ++ [u1]) bt t br r w2 R Hp s2 t2 r2 hsm (fun S5 w5 G2 => hZ _ _ _ G2 fun H10 => ?_))
      exact Sx.to 1 _ (hK1 _ _ _ ⟨S5, s2, t2, r2, rfl, H10, hr1⟩)
    have hnone := eI_ge0 h_c46
    obtain ⟨S6, H11⟩ := G_close H8 [0, 0, 0, 0, 0, 0, 0, 0, 0, 0, 0] (bg := bg) (g := g) ⟨(kA2, kC2), ((some ⟨wa2, 0, none⟩), aC2), (bA2, bC2), (rA2, rC2), (lA2, lC2), (oA2, oC2), (nA2, nC2), mbt2, mbr2, msl2, mS2, nk2, no2⟩ (by kernel_rfl)
    exact Sx.to 1 _ (hK1 _ _ _ ⟨S6, (s ++ [u1]), t, r, rfl, H11.pk [1, 0, 0, 0, 0], (hy0 hnone)⟩)
  obtain ⟨S1, s1, t1, r1, rfl, H13, hB⟩ := hI1
  obtain ⟨y, hy, hy0, hy1⟩ := hB
  obtain ⟨⟨⟨kA3, kC3⟩, ⟨aA3, aC3⟩, ⟨bA3, bC3⟩, ⟨rA3, rC3⟩, ⟨lA3, lC3⟩, ⟨oA3, oC3⟩, ⟨nA3, nC3⟩, mbt3, mbr3, msl3, mS3, nk3, no3⟩, H14⟩ := G_open H13 1 (S := S1) (bg := bg) (g := g) (by kernel_rfl)
  obtain ⟨lk3, la3, lb3, lr3, ll3, lo3, ln3, ls3⟩ := G_len H14
  simp only at lk3 la3 lb3 lr3 ll3 lo3 ln3 ls3
  have hnl : u1 < nk3 := by rw [← lb3]; exact at_lt hy
  obtain ⟨wb3, rfl⟩ := H14.row 3 (A := bA3) (e := 3) (sz := 1) (cap := bC3) (n := nk3) (xs := (onats (g.b))) (by kernel_rfl) (by omega)
  refine Sx.cut 0 (fun l' w' => ∃ (S2 : Nat → Prop) (s3 : List Nat) (t3 : List Nat) (r3 : List Nat), l' = [(0, .p bc), (1, .n u1), (4, .map (some br))] ∧ Hs w L0 w' [Sx.cB bc bg eA en ec oA on oc fk fa, GI S2 bg g, setI bs s3, setI bt t3, setI br r3] ∧ (VC k g u1 kd s3 t3 r3 s' t' r')) (fun K2 hK2 => ?_) (fun b2 l2 w6 hI2 => ?_)
  · refine Sx.l 5 11 H14 ?_
    refine Sx.l 2 0 H14 <| Sx.ir 1 wb3 u1 1 nk3 bC3 (by omega) <| Sx.lr 0 3 3 1 3 wb3 bC3 nk3 (u1 * 1) (onats (g.b)) H14 (.int .i64 (eI y)) (onats_at hy) ?_
    refine Sx.br 3 (decide ((eI y) ≥ (0 : Int))) (fun h_c72 => ?_) (fun h_c72 => ?_)
    · obtain ⟨p, rfl⟩ := eI_ge1 h_c72
      obtain ⟨s2, t2, r2, hsm, hr1⟩ := hy1 p rfl
      refine Sx.l 5 11 H14 <| Sx.l 2 0 H14 <| Sx.ir 1 wb3 u1 1 nk3 bC3 (by omega) <| Sx.lr 0 3 3 1 3 wb3 bC3 nk3 (u1 * 1) (onats (g.b)) H14 (.n p) (onats_some hy) ?_
      obtain ⟨S7, H15⟩ := G_close H14 [0, 0, 0, 0, 0, 0, 0, 0, 0, 0, 0] (bg := bg) (g := g) ⟨(kA3, kC3), (aA3, aC3), ((some ⟨wb3, 0, none⟩), bC3), (rA3, rC3), (lA3, lC3), (oA3, oC3), (nA3, nC3), mbt3, mbr3, msl3, mS3, nk3, no3⟩ (by kernel_rfl)
      refine Sx.c 3 [1, 0, 0, 0, 0] H15 (fun Hp R hZ => ih bc bg eA en ec oA on oc fk fa S7 g p bs s1 bt t1 br r1 w4 R Hp s2 t2 r2 hsm (fun S8 w7 G3 => hZ _ _ _ G3 fun H16 => ?_))
      exact Sx.to 1 _ (hK2 _ _ _ ⟨S8, s2, t2, r2, rfl, H16, hr1⟩)
    have hnone := eI_ge0 h_c72
    obtain ⟨S9, H17⟩ := G_close H14 [0, 0, 0, 0, 0, 0, 0, 0, 0, 0, 0] (bg := bg) (g := g) ⟨(kA3, kC3), (aA3, aC3), ((some ⟨wb3, 0, none⟩), bC3), (rA3, rC3), (lA3, lC3), (oA3, oC3), (nA3, nC3), mbt3, mbr3, msl3, mS3, nk3, no3⟩ (by kernel_rfl)
    exact Sx.to 1 _ (hK2 _ _ _ ⟨S9, s1, t1, r1, rfl, H17.pk [1, 0, 0, 0, 0], (hy0 hnone)⟩)
  obtain ⟨S2, s3, t3, r3, rfl, H19, hC⟩ := hI2
  obtain ⟨hC0, hC1⟩ := hC
  obtain ⟨⟨⟨kA4, kC4⟩, ⟨aA4, aC4⟩, ⟨bA4, bC4⟩, ⟨rA4, rC4⟩, ⟨lA4, lC4⟩, ⟨oA4, oC4⟩, ⟨nA4, nC4⟩, mbt4, mbr4, msl4, mS4, nk4, no4⟩, H20⟩ := G_open H19 1 (S := S2) (bg := bg) (g := g) (by kernel_rfl)
  obtain ⟨lk4, la4, lb4, lr4, ll4, lo4, ln4, ls4⟩ := G_len H20
  simp only at lk4 la4 lb4 lr4 ll4 lo4 ln4 ls4
  have hnl : u1 < nk4 := by rw [← lk4]; exact at_lt hkd
  obtain ⟨wk4, rfl⟩ := H20.row 1 (A := kA4) (e := 3) (sz := 1) (cap := kC4) (n := nk4) (xs := (nats (g.kind))) (by kernel_rfl) (by omega)
  refine Sx.l 5 11 H20 <| Sx.l 2 0 H20 <| Sx.ir 1 wk4 u1 1 nk4 kC4 (by omega) <| Sx.lr 0 1 3 1 3 wk4 kC4 nk4 (u1 * 1) (nats (g.kind)) H20 (.n kd) (nats_at hkd) ?_
  refine Sx.br 3 (((kd : Nat) : Int) == (6 : Int)) (fun h_c98 => ?_) (fun h_c98 => ?_)
  · have p_c98 := Gx.k1 h_c98
    obtain ⟨q, l, v, hq, hw, hv0, hv1⟩ := hC1 (by omega)
    have hnl2 : u1 < nk4 := by rw [← lr4]; exact at_lt hq
    obtain ⟨wr4, rfl⟩ := H20.row 4 (A := rA4) (e := 3) (sz := 1) (cap := rC4) (n := nk4) (xs := (nats (g.row))) (by kernel_rfl) (by omega)
    refine Sx.dr 1 H20 [11, 0, 4] [14] (LJ := [Sx.cB bc bg eA en ec oA on oc fk fa, .blk bg (.cells #[.slice (some ⟨wk4, 0, none⟩) nk4 kC4, .slice aA4 nk4 aC4, .slice bA4 nk4 bC4, .slice (some ⟨wr4, 0, none⟩) nk4 rC4, .slice lA4 nk4 lC4, .slice oA4 no4 oC4, .slice nA4 no4 nC4, .map (some mbt4), .map (some mbr4)] 154), .own 3 1 (some ⟨wr4, 0, none⟩) rC4 nk4 (nats (g.row))]) (by kernel_rfl) fun w8 H21 => Sx.tk [(0, none), (1, none), (2, none), (3, some (0, [14, 15, 16, 17, 18, 19])), (4, none), (5, none), (6, none), (7, some (0, [8, 9, 10, 12, 13, 14, 15, 16, 17, 18, 19])), (8, none), (9, none), (10, some (1, [12, 13, 14, 15, 16, 17, 18, 19])), (11, none)] (H21.sb [11, 0, 3]) <| Sx.tvg 12 [13, 14, 15, 16, 17, 18, 19] wr4 u1 1 nk4 rC4 (by omega) (H21.sb [11, 0, 3]) <| Sx.tvl 13 [14, 15, 16, 17, 18, 19] 2 3 1 3 wr4 rC4 nk4 (u1 * 1) (nats (g.row)) (.n q) (nats_at hq) (H21.sb [11, 0, 3]) <| Sx.nmx ?_
    intro zx1
    refine Sx.on 14 ?_
    obtain ⟨S10, H22⟩ := G_close H21 [0, 0, 0, 0, 0, 0, 0, 0, 0, 0, 0] (bg := bg) (g := g) ⟨((some ⟨wk4, 0, none⟩), kC4), (aA4, aC4), (bA4, bC4), ((some ⟨wr4, 0, none⟩), rC4), (lA4, lC4), (oA4, oC4), (nA4, nC4), mbt4, mbr4, msl4, mS4, nk4, no4⟩ (by kernel_rfl)
    refine Sx.c 0 [0] H22 (fun Hp R hZ => Whole_c S10 bg g q w8 R Hp _ v l hw (fun S11 S12 A1 n1 c1 w9 G4 hn1 hc1 => hZ _ _ _ G4 fun H23 => ?_))
    refine Sx.bk (x := zx1) 14 Sx.np <| Sx.tk [(15, none), (16, none), (17, none), (18, none), (19, none)] Sx.np <| Sx.dn ?_
    refine Sx.br 7 (decide (((v : Nat) : Int) > (0 : Int))) (fun h_c118 => ?_) (fun h_c118 => ?_)
    · have p_c118 := of_decide_eq_true h_c118
      obtain ⟨rfl, rfl, rfl⟩ := hv1 (by omega)
      refine mub (t := 120) (kt := 3) (et := 4) 3 5 br v r3 H23 (by kernel_rfl) fun w10 H24 => Sx.rt 1 [] H24 (.tuple #[]) ?_
      subst hL0
      exact Gx.ret_as (v' := .tuple #[]) (by rfl) (hK S11 _ (H24.pk [2, 0, 1, 1, 1]))
    have p_c118 := of_decide_eq_false h_c118
    obtain ⟨rfl, rfl, rfl⟩ := hv0 (by omega)
    refine Sx.rt 1 [] H23 (.tuple #[]) ?_
    subst hL0
    exact Gx.ret_as (v' := .tuple #[]) (by rfl) (hK S11 _ (H23.pk [2, 0, 1, 1, 1]))
  have p_c98 := Gx.k0 h_c98
  obtain ⟨rfl, rfl, rfl⟩ := hC0 (by omega)
  refine Sx.rt 1 [] H20 (.tuple #[]) ?_
  obtain ⟨S13, H25⟩ := G_close H20 [0, 0, 0, 0, 0, 0, 0, 0, 0, 0, 0] (bg := bg) (g := g) ⟨((some ⟨wk4, 0, none⟩), kC4), (aA4, aC4), (bA4, bC4), (rA4, rC4), (lA4, lC4), (oA4, oC4), (nA4, nC4), mbt4, mbr4, msl4, mS4, nk4, no4⟩ (by kernel_rfl)
  subst hL0
  exact Gx.ret_as (v' := .tuple #[]) (by rfl) (hK S13 _ (H25.pk [1, 0, 0, 0, 0]))
theorem vars_c (k : Nat) : ∀ (bc bg : Nat) (eA : Option Addr) (en ec : Nat) (oA : Option Addr) (on oc : Nat) (fk : Nat) (fa : Int) (S : Nat → Prop) (g : G) (n : Nat) (bs : Nat) (s : List Nat) (bt : Nat) (t : List Nat) (br : Nat) (r : List Nat) (w : World) (K : Ending → World → Prop) (H0 : Sp w [Sx.cB bc bg eA en ec oA on oc fk fa, GI S bg g, setI bs s, setI bt t, setI br r]) (s' t' r' : List Nat) (hf : vars k g n s t r = some (s', t', r')) (hK : ∀ (S' : Nat → Prop) w', Hs w [Sx.cB bc bg eA en ec oA on oc fk fa, GI S bg g, setI bs s, setI bt t, setI br r] w' [Sx.cB bc bg eA en ec oA on oc fk fa, GI S' bg g, setI bs s', setI bt t', setI br r'] → K (.returned (.tuple #[])) w'),
    Calls Tryz.prog 93 #[.p bc, .n n, .map (some bs), .map (some bt), .map (some br)] w K := by
  induction k with
  | zero => intro bc bg eA en ec oA on oc fk fa S g n bs s bt t br r w K H0 s' t' r' hf; exact absurd hf (by simp [vars])
  | succ k ih => exact vars_c_s k ih
theorem mine_c (bc bg : Nat) (eA : Option Addr) (en ec : Nat) (oA : Option Addr) (on oc : Nat) (fk : Nat) (fa : Int) (S : Nat → Prop) (g : G) (n : Nat) (bs : Nat) (bt : Nat) (t : List Nat) (br : Nat) (r : List Nat) (Sv : Nat → Prop) (x : Nv) (w : World) (K : Ending → World → Prop) (H0 : Sp w [Sx.cB bc bg eA en ec oA on oc fk fa, GI S bg g, setI bt t, setI br r, mapsI Sv ([x])]) (k : Nat) (z a b : List Nat) (hf : vars k g n [] [] [] = some (z, a, b)) (hK : ∀ (S' : Nat → Prop) w', Hs w [Sx.cB bc bg eA en ec oA on oc fk fa, GI S bg g, setI bt t, setI br r, mapsI Sv ([x])] w' [Sx.cB bc bg eA en ec oA on oc fk fa, GI S' bg g, setI bt (MF a x.1.tv t), setI br (MF b x.1.rv r), mapsI Sv ([x])] → K (.returned (.tuple #[])) w') :
    Calls Tryz.prog 121 #[.p bc, .n n, .map (some bs), .map (some bt), .map (some br), .agg #[.string x.1.nm, .n x.1.t, .bool x.1.all, .map x.2.1, .map x.2.2, .bool x.1.opn]] w K := by
  obtain ⟨L0, hL0, H⟩ := Sx.op0 H0
  refine Sx.en (vs := [.p bc, .n n, .map (some bs), .map (some bt), .map (some br), .agg #[.string x.1.nm, .n x.1.t, .bool x.1.all, .map x.2.1, .map x.2.2, .bool x.1.opn]]) 50 Tryz.func121 <| Sx.nw 2 H fun k1 w1 H1 => Sx.nw 4 H1 fun k2 w2 H2 => ?_
  have H3 := set_new (b := k2) H2 6 (by kernel_rfl)
  refine Sx.nw 5 H3 fun k3 w3 H4 => ?_
  have H5 := set_new (b := k3) H4 7 (by kernel_rfl)
  refine Sx.nw 7 H5 fun k4 w4 H6 => ?_
  have H7 := set_new (b := k4) H6 8 (by kernel_rfl)
  refine Sx.c 2 [0, 0, 6, 4, 4] H7 (fun Hp R hZ => (vars_c _) bc bg eA en ec oA on oc fk fa S g n k4 ([]) k2 ([]) k3 ([]) w4 R Hp z a b hf (fun S1 w5 G1 => hZ _ _ _ G1 fun H8 => ?_))
  refine rgb (t := 120) (kt := 3) (et := 4) 6 3 k2 a H8 (by kernel_rfl) fun l1 r1 w6 hm1 H9 => ?_
  refine Sx.lp 3 (fun z l' w' => ∃ (left : List Nat) (cur : Option Nat) (now : List Nat), l' = [(3, .map (some bt)), (4, .map (some br)), (11, .p k1), (13, .map (some k3)), (25, .p r1)] ∧ z = left.length ∧ Hs w L0 w' [Sx.cB bc bg eA en ec oA on oc fk fa, GI S1 bg g, mapsI Sv ([x]), .blk k1 (.cells #[.string x.1.nm, .n x.1.t, .bool x.1.all, .map x.2.1, .map x.2.2, .bool x.1.opn] 122), setI br r, setI k3 b, itS k2 r1 l1 left cur, setI bt now] ∧ (Mid x.1.tv left now a t)) _ _ ⟨l1, none, t, rfl, rfl, H9.pk [0, 0, 5, 5, 4, 2, 1, 1], (Mid.init hm1)⟩ (fun b1 z1 l2 w7 hI1 K1 hK1 => ?_)
  obtain ⟨left, cur, now, rfl, rfl, H11, hmid⟩ := hI1
  refine ntb (bt := k2) (r := r1) (l := l1) (left := left) (cur := cur) 2 6 H11 (by kernel_rfl) (fun he1 => ?_) (fun q1 lf1 w8 hp1 H12 => ?_)
  · have H13 := set_as H11 7 (b := bt) (s := now) (t := (MF a x.1.tv t)) (by kernel_rfl) (hmid.done he1)
    refine rgb (t := 120) (kt := 3) (et := 4) 13 5 k3 b H13 (by kernel_rfl) fun l3 r2 w9 hm2 H14 => ?_
    refine Sx.lp 3 (fun z l' w' => ∃ (left : List Nat) (cur : Option Nat) (now : List Nat), l' = [(4, .map (some br)), (11, .p k1), (38, .p r2)] ∧ z = left.length ∧ Hs w L0 w' [Sx.cB bc bg eA en ec oA on oc fk fa, GI S1 bg g, mapsI Sv ([x]), .blk k1 (.cells #[.string x.1.nm, .n x.1.t, .bool x.1.all, .map x.2.1, .map x.2.2, .bool x.1.opn] 122), setI bt (MF a x.1.tv t), itS k3 r2 l3 left cur, setI br now] ∧ (Mid x.1.rv left now b r)) _ _ ⟨l3, none, r, rfl, rfl, H14.pk [0, 0, 0, 0, 3, 1, 0], (Mid.init hm2)⟩ (fun b2 z2 l4 w10 hI2 K2 hK2 => ?_)
    obtain ⟨left, cur, now, rfl, rfl, H16, hmid⟩ := hI2
    refine ntb (bt := k3) (r := r2) (l := l3) (left := left) (cur := cur) 2 5 H16 (by kernel_rfl) (fun he2 => ?_) (fun q2 lf2 w11 hp2 H17 => ?_)
    · have H18 := set_as H16 6 (b := br) (s := now) (t := (MF b x.1.rv r)) (by kernel_rfl) (hmid.done he2)
      refine Sx.rt 9 [] H18 (.tuple #[]) ?_
      subst hL0
      exact Gx.ret_as (v' := .tuple #[]) (by rfl) (hK S1 _ (H18.pk [0, 0, 2, 3, 0]))
    refine entb (bt := k3) (r := r2) (l := l3) (left := lf2) (q := q2) 10 5 H17 (by kernel_rfl) <| Sx.l 7 3 H17 <| lkr (S := Sv) (t := 120) (kt := 3) (et := 4) (o := x.2.2) 1 q2 x.1.rv (maps_at H17 2 (S := Sv) (l := [x]) (by kernel_rfl) _ (.head _)).2 ?_
    refine Sx.br 3 (!(List.contains x.1.rv q2)) (fun h_c47 => ?_) (fun h_c47 => ?_)
    · refine mub (t := 120) (kt := 3) (et := 4) 3 6 br q2 now H17 (by kernel_rfl) fun w12 H19 => ?_
      have p_c47 := h_c47; try simp [-List.getD_eq_getElem?_getD] at p_c47
      exact Sx.to 2 _ (hK2 _ _ _ _ (by have := hp2.length_eq; simp at this; omega) ⟨lf2, (some q2), add now q2, rfl, rfl, H19.pk [0, 0, 0, 0, 0, 0, 0], (hmid.hit hp2 h_c47)⟩)
    have p_c47 := h_c47; try simp [-List.getD_eq_getElem?_getD] at p_c47
    exact Sx.to 2 _ (hK2 _ _ _ _ (by have := hp2.length_eq; simp at this; omega) ⟨lf2, (some q2), now, rfl, rfl, H17.pk [0, 0, 0, 0, 0, 0, 0], (hmid.miss hp2 h_c47)⟩)
  refine entb (bt := k2) (r := r1) (l := l1) (left := lf1) (q := q1) 10 6 H12 (by kernel_rfl) <| Sx.l 7 3 H12 <| lkr (S := Sv) (t := 120) (kt := 3) (et := 4) (o := x.2.1) 1 q1 x.1.tv (maps_at H12 2 (S := Sv) (l := [x]) (by kernel_rfl) _ (.head _)).1 ?_
  refine Sx.br 3 (!(List.contains x.1.tv q1)) (fun h_c34 => ?_) (fun h_c34 => ?_)
  · refine mub (t := 120) (kt := 3) (et := 4) 3 7 bt q1 now H12 (by kernel_rfl) fun w13 H22 => ?_
    have p_c34 := h_c34; try simp [-List.getD_eq_getElem?_getD] at p_c34
    exact Sx.to 2 _ (hK1 _ _ _ _ (by have := hp1.length_eq; simp at this; omega) ⟨lf1, (some q1), add now q1, rfl, rfl, H22.pk [0, 0, 0, 0, 0, 0, 0, 0], (hmid.hit hp1 h_c34)⟩)
  have p_c34 := h_c34; try simp [-List.getD_eq_getElem?_getD] at p_c34
  exact Sx.to 2 _ (hK1 _ _ _ _ (by have := hp1.length_eq; simp at this; omega) ⟨lf1, (some q1), now, rfl, rfl, H12.pk [0, 0, 0, 0, 0, 0, 0, 0], (hmid.miss hp1 h_c34)⟩)
theorem inSight_c (bc bg : Nat) (eA : Option Addr) (en ec : Nat) (oA : Option Addr) (on oc : Nat) (fk : Nat) (fa : Int) (S : Nat → Prop) (g : G) (el : List Nv) (Sm : Nat → Prop) (w : World) (K : Ending → World → Prop) (H0 : Sp w [Sx.cB bc bg eA en ec oA on oc fk fa, GI S bg g, .own 122 6 eA ec en (envC el), mapsI Sm el]) (k : Nat) (t' r' : List Nat) (hf : inSight k g (el.map (·.1)) [] [] [] = some (t', r')) (hez : en < 1000000000) (hK : ∀ (S' : Nat → Prop) (b1 : Nat) (b2 : Nat) w', Hs w [Sx.cB bc bg eA en ec oA on oc fk fa, GI S bg g, .own 122 6 eA ec en (envC el), mapsI Sm el] w' [Sx.cB bc bg eA en ec oA on oc fk fa, GI S' bg g, .own 122 6 eA ec en (envC el), mapsI Sm el, setI b1 t', setI b2 r'] → K (.returned (.tuple #[.map (some b1), .map (some b2)])) w') :
    Calls Tryz.prog 92 #[.p bc] w K := by
  obtain ⟨L0, hL0, H⟩ := Sx.op0 H0
  refine Sx.en (vs := [.p bc]) 63 Tryz.func92 ?_
  have hel := env_len (e := 122) (n := en) (cap := ec) (A := eA) (l := el) H 2 (by kernel_rfl)
  refine Sx.nw 8 H fun k1 w1 H1 => ?_
  have H2 := set_new (b := k1) H1 4 (by kernel_rfl)
  refine Sx.nw 5 H2 fun k2 w2 H3 => ?_
  have H4 := set_new (b := k2) H3 5 (by kernel_rfl)
  refine Sx.nw 5 H4 fun k3 w3 H5 => ?_
  have H6 := set_new (b := k3) H5 6 (by kernel_rfl)
  refine Sx.lp 10 (fun z l' w' => ∃ (i : Nat) (S1 : Nat → Prop) (s1 : List Nat) (t1 : List Nat) (r1 : List Nat), l' = [(0, .p bc), (4, .map (some k1)), (5, .map (some k2)), (6, .map (some k3)), (7, .n i)] ∧ z = el.length - i ∧ Hs w L0 w' [Sx.cB bc bg eA en ec oA on oc fk fa, GI S1 bg g, .own 122 6 eA ec en (envC el), mapsI Sm el, setI k1 t1, setI k2 r1, setI k3 s1] ∧ (i ≤ el.length) ∧ (inSight k g ((el.drop i).map (·.1)) s1 t1 r1 = some (t', r'))) _ _ ⟨0, S, [], [], [], rfl, rfl, H6.pk [0, 0, 0, 0, 0, 0, 0], (Nat.zero_le _), hf⟩ (fun b1 z1 l1 w4 hI1 K1 hK1 => ?_)
  obtain ⟨i, S1, s1, t1, r1, rfl, rfl, H8, hil, hfi⟩ := hI1
  refine Sx.l 7 0 H8 ?_
  refine Sx.br 4 (decide (((i : Nat) : Int) < ((en : Nat) : Int))) (fun h_c17 => ?_) (fun h_c17 => ?_)
  · have p_c17 := of_decide_eq_true h_c17
    obtain ⟨x, hx⟩ := some_at (l := el) (i := i) (by omega)
    obtain ⟨hs1, hs2⟩ := inSight_cons (ins_step hfi hx)
    obtain ⟨wr1, rfl⟩ := H8.row 2 (A := eA) (e := 122) (sz := 6) (cap := ec) (n := en) (xs := (envC el)) (by kernel_rfl) (by omega)
    refine Sx.l 10 0 H8 <| Sx.ir 1 wr1 i 6 en ec (by omega) <| Sx.lr 1 2 122 6 4 wr1 ec en (i * 6 + 2) (envC el) H8 (.bool x.1.all) (rec_cell 2 nvC_len hx (by decide) rfl) ?_
    refine Sx.br 2 x.1.all (fun h_c27 => ?_) (fun h_c27 => ?_)
    · obtain ⟨z, a, b, hv, hfi2⟩ := hs1 h_c27
      have H9 := maps_sub H8 3 (S := Sm) (l := el) (m := [x]) (by kernel_rfl) (by intro y hy; rw [List.mem_singleton.1 hy]; exact List.mem_of_getElem? hx)
      refine Sx.dr 1 H9 [0, 2] [] (LJ := [.blk bc (.cells #[.p bg, .slice (some ⟨wr1, 0, none⟩) en ec, .slice oA on oc, .n fk, .int .i64 fa] 115), .own 122 6 (some ⟨wr1, 0, none⟩) ec en (envC el)]) (by kernel_rfl) fun w5 H10 => Sx.tk [(0, none), (1, none), (2, none), (3, none), (4, some (0, [])), (5, none)] (H10.sb [0, 1]) <| Sx.tvg 6 [] wr1 i 6 en ec (by omega) (H10.sb [0, 1]) <| Sx.tk [(7, none)] (H10.sb [0, 1]) <| Sx.tvl 8 [] 1 122 6 3 wr1 ec en (i * 6 + 1) (envC el) (.n x.1.t) (rec_cell 1 nvC_len hx (by decide) rfl) (H10.sb [0, 1]) <| Sx.tk [(9, none), (10, none), (11, none), (12, none), (13, none), (14, none), (15, some (0, [])), (16, none)] (H10.sb [0, 1]) ?_
      refine Sx.tvg 17 [] wr1 i 6 en ec (by omega) (H10.sb [0, 1]) <| Sx.tvl 18 [] 1 122 6 122 wr1 ec en (i * 6) (envC el) (.agg #[.string x.1.nm, .n x.1.t, .bool x.1.all, .map x.2.1, .map x.2.2, .bool x.1.opn]) (rec_load nvC_len hx) (H10.sb [0, 1]) <| Sx.nmx ?_
      intro zx1
      refine Sx.on 19 ?_
      refine Sx.c 0 [0, 0, 2, 2, 3] H10 (fun Hp R hZ => mine_c bc bg (some ⟨wr1, 0, none⟩) en ec oA on oc fk fa S1 g x.1.t k3 k1 t1 k2 r1 Sm x w5 R Hp _ z a b hv (fun S1 w6 G1 => hZ _ _ _ G1 fun H11 => ?_))
      refine Sx.bk (x := zx1) 19 (H11.sb [0, 4]) <| Sx.dn <| Sx.v 7 (.int .i64 (IntKind.i64.wrap (((i : Nat) : Int) + (1 : Int)))) (.int .i64 ((i + 1 : Nat) : Int)) (congrArg (Value.int .i64) (Gx.i64n (by omega) (by omega))) ?_
      exact Sx.to 2 _ (hK1 _ _ _ _ (by omega) ⟨(i + 1), S1, s1, (MF a x.1.tv t1), (MF b x.1.rv r1), rfl, rfl, H11.pk [0, 0, 3, 3, 0, 0, 1], (by omega), hfi2⟩)
    obtain ⟨s2, t2, r2, hv, hfi2⟩ := hs2 h_c27
    refine Sx.l 7 0 H8 <| Sx.ir 1 wr1 i 6 en ec (by omega) <| Sx.lr 1 2 122 6 3 wr1 ec en (i * 6 + 1) (envC el) H8 (.n x.1.t) (rec_cell 1 nvC_len hx (by decide) rfl) ?_
    refine Sx.c 3 [0, 0, 4, 2, 2] H8 (fun Hp R hZ => (vars_c _) bc bg (some ⟨wr1, 0, none⟩) en ec oA on oc fk fa S1 g x.1.t k3 s1 k1 t1 k2 r1 w4 R Hp s2 t2 r2 hv (fun S2 w7 G2 => hZ _ _ _ G2 fun H13 => ?_))
    refine Sx.v 5 (.int .i64 (IntKind.i64.wrap (((i : Nat) : Int) + (1 : Int)))) (.int .i64 ((i + 1 : Nat) : Int)) (congrArg (Value.int .i64) (Gx.i64n (by omega) (by omega))) ?_
    exact Sx.to 2 _ (hK1 _ _ _ _ (by omega) ⟨(i + 1), S2, s2, t2, r2, rfl, rfl, H13.pk [0, 0, 3, 3, 1, 1, 0], (by omega), hfi2⟩)
  have p_c17 := of_decide_eq_false h_c17
  have hd := hfi; rw [List.drop_of_length_le (by omega)] at hd; obtain ⟨rfl, rfl⟩ : t1 = t' ∧ r1 = r' := by simpa [inSight] using hd
  refine Sx.rt 14 [] H8 (.tuple #[.map (some k1), .map (some k2)]) ?_
  subst hL0
  exact Gx.ret_as (v' := .tuple #[.map (some k1), .map (some k2)]) (by rfl) (hK S1 k1 k2 _ (H8.pk [0, 0, 0, 0, 0, 0]))
theorem general_c (bc bg : Nat) (eA : Option Addr) (en ec : Nat) (oA : Option Addr) (on oc : Nat) (S : Nat → Prop) (c : Ck) (el : List Nv) (Sm : Nat → Prop) (nm : Nm) (n : Nat) (w : World) (K : Ending → World → Prop) (H0 : Sp w [Sx.cB bc bg eA en ec oA on oc c.fk c.fa, GI S bg c.g, .own 122 6 eA ec en (envC el), mapsI Sm el]) (k : Nat) (x : Nam) (hf : c.general k nm n = some x) (hel : el.map (·.1) = c.env) (hez : en < 1000000000) (hK : ∀ (S' : Nat → Prop) (S2 : Nat → Prop) (b1 : Nat) (b2 : Nat) w', Hs w [Sx.cB bc bg eA en ec oA on oc c.fk c.fa, GI S bg c.g, .own 122 6 eA ec en (envC el), mapsI Sm el] w' [Sx.cB bc bg eA en ec oA on oc c.fk c.fa, GI S' bg c.g, .own 122 6 eA ec en (envC el), mapsI Sm el, mapsI S2 ([(x, some b1, some b2)])] → K (.returned (.agg (nvC (x, some b1, some b2)).toArray)) w') :
    Calls Tryz.prog 59 #[.p bc, .string nm, .n n] w K := by
  obtain ⟨L0, hL0, H⟩ := Sx.op0 H0
  refine Sx.en (vs := [.p bc, .string nm, .n n]) 47 Tryz.func59 ?_
  obtain ⟨it, ir, z, tv, rv, h1, h2, rfl⟩ := general_cases hf
  rw [← hel] at h1
  refine Sx.nw 2 H fun k1 w1 H1 => ?_
  refine Sx.c 5 [0, 0, 0, 0] H1 (fun Hp R hZ => inSight_c bc bg eA en ec oA on oc c.fk c.fa S c.g el Sm w1 R Hp _ it ir h1 hez (fun S1 b1 b2 w2 G1 => hZ _ _ _ G1 fun H2 => ?_))
  refine Sx.nw 9 H2 fun k2 w3 H3 => ?_
  have H4 := set_new (b := k2) H3 7 (by kernel_rfl)
  refine Sx.nw 5 H4 fun k3 w4 H5 => ?_
  have H6 := set_new (b := k3) H5 8 (by kernel_rfl)
  refine Sx.nw 7 H6 fun k4 w5 H7 => ?_
  have H8 := set_new (b := k4) H7 9 (by kernel_rfl)
  refine Sx.c 2 [0, 0, 7, 5, 5] H8 (fun Hp R hZ => (vars_c _) bc bg eA en ec oA on oc c.fk c.fa S1 c.g n k4 ([]) k2 ([]) k3 ([]) w5 R Hp z tv rv h2 (fun S2 w6 G2 => hZ _ _ _ G2 fun H9 => ?_))
  refine rgb (t := 120) (kt := 3) (et := 4) 6 7 b1 it H9 (by kernel_rfl) fun l1 r1 w7 hm1 H10 => ?_
  refine Sx.lp 3 (fun z l' w' => ∃ (left : List Nat) (cur : Option Nat) (now : List Nat), l' = [(1, .string nm), (2, .n n), (6, .p k1), (8, .map (some b2)), (9, .map (some k2)), (10, .map (some k3)), (27, .p r1)] ∧ z = left.length ∧ Hs w L0 w' [Sx.cB bc bg eA en ec oA on oc c.fk c.fa, GI S2 bg c.g, .own 122 6 eA ec en (envC el), mapsI Sm el, .blk k1 (.cells #[.string (⟨#[]⟩ : ByteArray), .int .i64 0, .bool false, .map none, .map none, .bool false] 122), setI b2 ir, setI k3 rv, itS b1 r1 l1 left cur, setI k2 now] ∧ (MidD left now it tv)) _ _ ⟨l1, none, tv, rfl, rfl, H10.pk [0, 0, 3, 3, 5, 4, 2, 2, 1], (MidD.init hm1)⟩ (fun b3 z1 l2 w8 hI1 K1 hK1 => ?_)
  obtain ⟨left, cur, now, rfl, rfl, H12, hmid⟩ := hI1
  refine ntb (bt := b1) (r := r1) (l := l1) (left := left) (cur := cur) 2 7 H12 (by kernel_rfl) (fun he1 => ?_) (fun q1 lf1 w9 hp1 H13 => ?_)
  · have H14 := set_as H12 8 (b := k2) (s := now) (t := (Wo it tv)) (by kernel_rfl) (hmid.done he1)
    refine rgb (t := 120) (kt := 3) (et := 4) 14 5 b2 ir H14 (by kernel_rfl) fun l3 r2 w10 hm2 H15 => ?_
    refine Sx.lp 3 (fun z l' w' => ∃ (left : List Nat) (cur : Option Nat) (now : List Nat), l' = [(1, .string nm), (2, .n n), (6, .p k1), (9, .map (some k2)), (10, .map (some k3)), (35, .p r2)] ∧ z = left.length ∧ Hs w L0 w' [Sx.cB bc bg eA en ec oA on oc c.fk c.fa, GI S2 bg c.g, .own 122 6 eA ec en (envC el), mapsI Sm el, .blk k1 (.cells #[.string (⟨#[]⟩ : ByteArray), .int .i64 0, .bool false, .map none, .map none, .bool false] 122), setI k2 (Wo it tv), itS b2 r2 l3 left cur, setI k3 now] ∧ (MidD left now ir rv)) _ _ ⟨l3, none, rv, rfl, rfl, H15.pk [0, 0, 0, 0, 0, 3, 0, 0], (MidD.init hm2)⟩ (fun b4 z2 l4 w11 hI2 K2 hK2 => ?_)
    obtain ⟨left, cur, now, rfl, rfl, H17, hmid⟩ := hI2
    refine ntb (bt := b2) (r := r2) (l := l3) (left := left) (cur := cur) 2 6 H17 (by kernel_rfl) (fun he2 => ?_) (fun q2 lf2 w12 hp2 H18 => ?_)
    · have H19 := set_as H17 7 (b := k3) (s := now) (t := (Wo ir rv)) (by kernel_rfl) (hmid.done he2)
      refine Sx.s 17 4 H19 fun w13 H20 => Sx.rt 3 [4] H20 (.agg #[.string nm, .n n, .bool true, .map (some k2), .map (some k3), .bool true]) ?_
      obtain ⟨S3, H21⟩ := maps_make (nm := nm) (n := n) (b1 := k2) (b2 := k3) (a := true) (o := true) (t := Wo it tv) (r := Wo ir rv) H20 [5, 6] (by kernel_rfl)
      subst hL0
      exact Gx.ret_as (v' := .agg #[.string nm, .n n, .bool true, .map (some k2), .map (some k3), .bool true]) (by rfl) (hK S2 S3 k2 k3 _ (H21.pk [1, 1, 1, 1, 0]))
    refine entb (bt := b2) (r := r2) (l := l3) (left := lf2) (q := q2) 10 6 H18 (by kernel_rfl) <| deb (t := 120) (t' := 3) (kt := 3) (et := 4) 7 7 k3 q2 now H18 (by kernel_rfl) fun w14 H22 => ?_
    exact Sx.to 2 _ (hK2 _ _ _ _ (by have := hp2.length_eq; simp at this; omega) ⟨lf2, (some q2), now.filter fun n => n != q2, rfl, rfl, H22.pk [0, 0, 0, 0, 0, 0, 0, 0], (hmid.step hp2)⟩)
  refine entb (bt := b1) (r := r1) (l := l1) (left := lf1) (q := q1) 10 7 H13 (by kernel_rfl) <| deb (t := 120) (t' := 3) (kt := 3) (et := 4) 7 8 k2 q1 now H13 (by kernel_rfl) fun w15 H24 => ?_
  exact Sx.to 2 _ (hK1 _ _ _ _ (by have := hp1.length_eq; simp at this; omega) ⟨lf1, (some q1), now.filter fun n => n != q1, rfl, rfl, H24.pk [0, 0, 0, 0, 0, 0, 0, 0, 0], (hmid.step hp1)⟩)
end Go.Proofs.YtdmdecgoebnamaaGreat
namespace Go.Inf
open Go.RowKit Go.Sx Go.Gx Go.Syn
theorem look_seen (s : Seen) (n : Nat) : lookI (n : Int) (seenI s) = s.get n := by
  induction s with
  | nil => rfl
  | cons p s ih =>
    obtain ⟨m, v⟩ := p
    rw [show seenI ((m, v) :: s) = ((m : Int), v) :: seenI s from rfl, lookI, Seen.get, ih]
    by_cases e : m = n
    · subst e; simp
    · rw [if_neg (by omega), if_neg e]
theorem v_pos (v : Nat) (b : Bool) : (v ≠ 0 && b) = (decide (((v : Nat) : Int) > (0 : Int)) && b) := by
  congr 1
  by_cases e : v = 0
  · subst e; rfl
  · have : ((v : Nat) : Int) > 0 := by omega
    have h2 : 0 < v := by omega
    simp [e, h2]
abbrev C4 := G × Nat × Seen × Seen
def CD (g : G) (u kd : Nat) (a b : Option Nat) (z : Nat) (d r : Seen) (R : C4) : Prop := ∃ g1 m, g.put kd a b z = some (g1, m) ∧ (g1, m, Seen.put d u m, r) = R
def CP (g : G) (l : List Nm) (v u kd : Nat) (a b : Option Nat) (d r : Seen) (R : C4) : Prop := ∃ g1 z, g.putRow l (some v) = some (g1, z) ∧ CD g1 u kd a b z d r R
def CC (k : Nat) (g : G) (u kd : Nat) (x : Nam) (a b : Option Nat) (d r : Seen) (R : C4) : Prop :=
  (kd ≠ 6 → CD g u kd a b 0 d r R) ∧ (kd = 6 → ∃ q l v, g.row[u]? = some q ∧ whole k g q [] = some (l, v) ∧
    ((v ≠ 0 && x.rv.contains v) = false → CP g l v u kd a b d r R) ∧
    ((v ≠ 0 && x.rv.contains v) = true → (∀ w, r.get v = some w → CP g l w u kd a b d r R) ∧ (r.get v = none → ∃ g0 w, g.opn = some (g0, w) ∧ CP g0 l w u kd a b d (Seen.put r v w) R)))
def CB (k : Nat) (g : G) (u kd : Nat) (x : Nam) (a : Option Nat) (d r : Seen) (R : C4) : Prop :=
  ∃ y, g.b[u]? = some y ∧ (y = none → CC k g u kd x a none d r R) ∧ ∀ p, y = some p → ∃ g2 q d2 r2, copied k g p x d r = some (g2, q, d2, r2) ∧ CC k g2 u kd x a (some q) d2 r2 R
def CA (k : Nat) (g : G) (u kd : Nat) (x : Nam) (d r : Seen) (R : C4) : Prop :=
  ∃ y, g.a[u]? = some y ∧ (y = none → CB k g u kd x none d r R) ∧ ∀ p, y = some p → ∃ g2 q d2 r2, copied k g p x d r = some (g2, q, d2, r2) ∧ CB k g2 u kd x (some q) d2 r2 R
theorem copied_cases {k n : Nat} {g : G} {x : Nam} {d r : Seen} {R : C4} (h : copied (k + 1) g n x d r = some R) :
    ∃ u, find k g n = some u ∧ (∀ q, d.get u = some q → (g, q, d, r) = R) ∧ (d.get u = none → ∃ kd, g.kind[u]? = some kd ∧
      (kd = 0 → (x.tv.contains u = true → ∃ g1 m, g.var = some (g1, m) ∧ (g1, m, Seen.put d u m, r) = R) ∧ (x.tv.contains u = false → (g, u, Seen.put d u u, r) = R)) ∧ (kd ≠ 0 → CA k g u kd x d r R)) := by
  unfold copied at h
  split at h <;> try contradiction
  rename_i u hu
  refine ⟨u, hu, fun q e => ?_, fun e => ?_⟩
  · rw [e] at h; simpa using h
  · rw [e] at h
    simp only at h
    cases hk : g.kind[u]? with
    | none => simp [hk] at h
    | some kd =>
      rw [hk] at h
      refine ⟨kd, rfl, fun e0 => ?_, fun e0 => ?_⟩
      · subst e0
        simp only at h
        refine ⟨fun e1 => ?_, fun e1 => ?_⟩
        · rw [if_pos e1] at h
          split at h <;> try contradiction
          rename_i g1 m hv
          exact ⟨g1, m, hv, by simpa using h⟩
        · rw [if_neg (by rw [e1]; decide)] at h; simpa using h
      · let arg (y : G → Option (Option Nat)) (s : G × Option Nat × Seen × Seen) : Option (G × Option Nat × Seen × Seen) := match y s.1 with
          | some none => some (s.1, none, s.2.2.1, s.2.2.2)
          | some (some m) => match copied k s.1 m x s.2.2.1 s.2.2.2 with
            | some (g, m, d, r) => some (g, some m, d, r)
            | none => none
          | none => none
        have h : (match arg (fun g => g.a[u]?) (g, none, d, r) with
          | some (g, a, d, r) => (match arg (fun g => g.b[u]?) (g, none, d, r) with
            | some (g, b, d, r) =>
              let rw : Option (G × Nat × Seen) := if kd = 6 then (match g.row[u]? with
                | some q => match whole k g q [] with
                  | some (ops, v) =>
                    let vv : Option (G × Nat × Seen) := if v ≠ 0 && x.rv.contains v then (match r.get v with
                      | some p => some (g, p, r)
                      | none => match g.opn with
                        | some (g, w) => some (g, w, Seen.put r v w)
                        | none => none) else some (g, v, r)
                    match vv with
                    | some (g, v, r) => match g.putRow ops (some v) with
                      | some (g, q) => some (g, q, r)
                      | none => none
                    | none => none
                  | none => none
                | none => none) else some (g, 0, r)
              (match rw with
              | some (g, q, r) => match g.put kd a b q with
                | some (g, m) => some (g, m, Seen.put d u m, r)
                | none => none
              | none => none)
            | none => none)
          | none => none) = some R := by
          cases kd with
          | zero => exact absurd rfl e0
          | succ kd => exact h
        have hx : ∀ (y : G → Option (Option Nat)) (g : G) (d r : Seen) (g2 : G) (a : Option Nat) (d2 r2 : Seen), arg y (g, none, d, r) = some (g2, a, d2, r2) →
            ∃ z, y g = some z ∧ (z = none → g = g2 ∧ none = a ∧ d = d2 ∧ r = r2) ∧ ∀ p, z = some p → ∃ q, copied k g p x d r = some (g2, q, d2, r2) ∧ some q = a := by
          intro y g d r g2 a d2 r2 hh
          simp only [arg] at hh
          split at hh <;> try contradiction
          · rename_i hz; cases hh; exact ⟨none, hz, fun _ => ⟨rfl, rfl, rfl, rfl⟩, fun p e => by cases e⟩
          · rename_i p hz
            split at hh <;> try contradiction
            rename_i g3 q d3 r3 hc
            cases hh
            exact ⟨some p, hz, fun e => (by cases e), fun p' e => by cases e; exact ⟨q, hc, rfl⟩⟩
        split at h <;> try contradiction
        rename_i g1 a d1 r1 hA
        have hCB : CB k g1 u kd x a d1 r1 R := by
          split at h <;> try contradiction
          rename_i g2 b d2 r2 hB
          have hCC : CC k g2 u kd x a b d2 r2 R := by
            refine ⟨fun e6 => ?_, fun e6 => ?_⟩
            · simp only [if_neg e6] at h
              split at h <;> try contradiction
              rename_i g3 m hp
              exact ⟨g3, m, hp, by simpa using h⟩
            · simp only [if_pos e6] at h
              cases hr : g2.row[u]? with
              | none => simp [hr] at h
              | some q =>
                simp only [hr] at h
                cases hw : whole k g2 q [] with
                | none => simp [hw] at h
                | some lv =>
                  obtain ⟨l, v⟩ := lv
                  simp only [hw] at h
                  have fin : ∀ (g3 : G) (v' : Nat) (r3 : Seen), (match (match g3.putRow l (some v') with
                      | some (g, q) => some (g, q, r3)
                      | none => (none : Option (G × Nat × Seen))) with
                    | some (g, q, r) => (match g.put kd a b q with
                      | some (g, m) => some (g, m, Seen.put d2 u m, r)
                      | none => none)
                    | none => none) = some R → CP g3 l v' u kd a b d2 r3 R := by
                    intro g3 v' r3 hh
                    cases hp : g3.putRow l (some v') with
                    | none => simp [hp] at hh
                    | some gz =>
                      obtain ⟨g4, z⟩ := gz
                      simp only [hp] at hh
                      split at hh <;> try contradiction
                      rename_i g5 m hp2
                      exact ⟨g4, z, hp, g5, m, hp2, by simpa using hh⟩
                  refine ⟨q, l, v, rfl, hw, fun e => ?_, fun e => ⟨fun w ew => ?_, fun ew => ?_⟩⟩
                  · rw [e] at h; simp only [Bool.false_eq_true, if_false] at h; exact fin _ _ _ h
                  · rw [e] at h; simp only [if_true, ew] at h; exact fin _ _ _ h
                  · rw [e] at h; simp only [if_true, ew] at h
                    cases ho : g2.opn with
                    | none => simp [ho] at h
                    | some gw =>
                      obtain ⟨g0, w⟩ := gw
                      simp only [ho] at h
                      exact ⟨g0, w, rfl, fin _ _ _ h⟩
          obtain ⟨z, hz, h1, h2⟩ := hx (fun g => g.b[u]?) _ _ _ _ _ _ _ hB
          exact ⟨z, hz, fun e => by obtain ⟨rfl, rfl, rfl, rfl⟩ := h1 e; exact hCC, fun p e => by obtain ⟨q, hq, rfl⟩ := h2 p e; exact ⟨_, _, _, _, hq, hCC⟩⟩
        obtain ⟨z, hz, h1, h2⟩ := hx (fun g => g.a[u]?) _ _ _ _ _ _ _ hA
        exact ⟨z, hz, fun e => by obtain ⟨rfl, rfl, rfl, rfl⟩ := h1 e; exact hCB, fun p e => by obtain ⟨q, hq, rfl⟩ := h2 p e; exact ⟨_, _, _, _, hq, hCB⟩⟩
/-! ### Kinds stay -/
def Kin (g g' : G) : Prop := ∀ i kd : Nat, g.kind[i]? = some kd → g'.kind[i]? = some kd
theorem Kin.trans {a b c : G} (h : Kin a b) (k : Kin b c) : Kin a c := fun i kd q => k i kd (h i kd q)
theorem put_kin {g g' : G} {kd r n : Nat} {a b : Option Nat} (h : g.put kd a b r = some (g', n)) : Kin g g' := by
  unfold G.put at h
  split at h
  · simp only [wO_eq, wN_eq, wL_eq, Option.some.injEq, Prod.mk.injEq] at h; obtain ⟨rfl, _⟩ := h
    exact fun i k q => by rw [List.getElem?_append_left (List.getElem?_eq_some_iff.1 q).1]; exact q
  · cases h
theorem putRow_kin {g g' : G} {l : List Nm} {nx : Option Nat} {n : Nat} (h : g.putRow l nx = some (g', n)) : g'.kind = g.kind ∧ g'.a = g.a ∧ g'.b = g.b := by
  unfold G.putRow at h
  split at h
  · simp only [wO_eq, wN_eq, wL_eq, Option.some.injEq, Prod.mk.injEq] at h; obtain ⟨rfl, _⟩ := h; exact ⟨rfl, rfl, rfl⟩
  · cases h
theorem CD_kin {g : G} {u kd z : Nat} {a b : Option Nat} {d r : Seen} {R : C4} (h : CD g u kd a b z d r R) : Kin g R.1 := by
  obtain ⟨g1, m, h1, rfl⟩ := h; exact put_kin h1
theorem CP_kin {g : G} {l : List Nm} {v u kd : Nat} {a b : Option Nat} {d r : Seen} {R : C4} (h : CP g l v u kd a b d r R) : Kin g R.1 := by
  obtain ⟨g1, z, h1, h2⟩ := h
  exact fun i kd q => CD_kin h2 i kd (by rw [(putRow_kin h1).1]; exact q)
theorem copied_kin : ∀ {k n : Nat} {g : G} {x : Nam} {d r : Seen} {R : C4}, copied k g n x d r = some R → Kin g R.1
  | 0, _, _, _, _, _, _, h => by simp [copied] at h
  | k + 1, n, g, x, d, r, R, h => by
    obtain ⟨u, _, h1, h2⟩ := copied_cases h
    cases hd : d.get u with
    | some q => rw [← h1 q hd]; exact fun _ _ q => q
    | none =>
      obtain ⟨kd, _, h3, h4⟩ := h2 hd
      by_cases e0 : kd = 0
      · obtain ⟨h5, h6⟩ := h3 e0
        cases ht : x.tv.contains u with
        | true => obtain ⟨g1, m, hv, rfl⟩ := h5 ht; exact put_kin hv
        | false => rw [← h6 ht]; exact fun _ _ q => q
      · have hCC : ∀ {g a b d r}, CC k g u kd x a b d r R → Kin g R.1 := by
          intro g a b d r hc
          by_cases e6 : kd = 6
          · obtain ⟨q, l, v, _, _, h7, h8⟩ := hc.2 e6
            cases hb : (v ≠ 0 && x.rv.contains v) with
            | false => exact CP_kin (h7 hb)
            | true =>
              obtain ⟨h9, h10⟩ := h8 hb
              cases hr : r.get v with
              | some w => exact CP_kin (h9 w hr)
              | none => obtain ⟨g0, w, ho, hp⟩ := h10 hr; exact fun i kd q => CP_kin hp i kd (by rw [(putRow_kin ho).1]; exact q)
          · exact CD_kin (hc.1 e6)
        have hCB : ∀ {g a d r}, CB k g u kd x a d r R → Kin g R.1 := by
          intro g a d r hc
          obtain ⟨y, _, h7, h8⟩ := hc
          cases y with
          | none => exact hCC (h7 rfl)
          | some p => obtain ⟨g2, q, d2, r2, hq, hc2⟩ := h8 p rfl; exact (copied_kin hq).trans (hCC hc2)
        obtain ⟨y, _, h7, h8⟩ := h4 e0
        cases y with
        | none => exact hCB (h7 rfl)
        | some p => obtain ⟨g2, q, d2, r2, hq, hc2⟩ := h8 p rfl; exact (copied_kin hq).trans (hCB hc2)
theorem opened_cases {k n : Nat} {g g' : G} {m : Nat} (h : opened (k + 1) g n = some (g', m)) :
    ∃ u kd, find k g n = some u ∧ g.kind[u]? = some kd ∧ (kd ≠ 6 → g = g' ∧ u = m) ∧ (kd = 6 → ∃ p g1 b q l v g2 v2 g3 z a, g.b[u]? = some (some p) ∧ opened k g p = some (g1, b) ∧ g1.row[u]? = some q ∧ whole k g1 q [] = some (l, v) ∧
      ((v ≠ 0 ∧ g1 = g2 ∧ v = v2) ∨ (v = 0 ∧ g1.opn = some (g2, v2))) ∧ g2.putRow l (some v2) = some (g3, z) ∧ g3.a[u]? = some a ∧ g3.put 6 a (some b) z = some (g', m)) := by
  unfold opened at h
  split at h <;> try contradiction
  rename_i u hu
  split at h
  · rename_i hk
    refine ⟨u, 6, hu, hk, fun e => absurd rfl e, fun _ => ?_⟩
    split at h <;> try contradiction
    rename_i p hp
    split at h <;> try contradiction
    rename_i g1 b ho
    split at h <;> try contradiction
    rename_i q hq
    split at h <;> try contradiction
    rename_i l v hw
    simp only at h
    split at h <;> try contradiction
    rename_i g2 v2 hv
    split at h <;> try contradiction
    rename_i g3 z hr
    split at h <;> try contradiction
    rename_i a ha
    refine ⟨p, g1, b, q, l, v, g2, v2, g3, z, a, hp, ho, hq, hw, ?_, hr, ha, h⟩
    by_cases e : v = 0
    · rw [if_pos e] at hv; exact .inr ⟨e, hv⟩
    · rw [if_neg e] at hv; cases hv; exact .inl ⟨e, rfl, rfl⟩
  · rename_i kd hk h6
    simp only [Option.some.injEq, Prod.mk.injEq] at h
    exact ⟨u, kd, hu, h6, fun _ => h, fun e => absurd e (fun e => hk e)⟩
  · cases h
theorem use_cases {k : Nat} {g g' : G} {x : Nam} {m : Nat} (h : use k g x = some (g', m)) :
    ∃ g1 n1, (x.all = true → ∃ d r, copied k g x.t x [] [] = some (g1, n1, d, r)) ∧ (x.all = false → g = g1 ∧ x.t = n1) ∧ (x.opn = true → opened k g1 n1 = some (g', m)) ∧ (x.opn = false → g1 = g' ∧ n1 = m) := by
  unfold use at h
  simp only at h
  split at h <;> try contradiction
  rename_i g1 n1 hc
  refine ⟨g1, n1, fun e => ?_, fun e => ?_, fun e => ?_, fun e => ?_⟩
  · rw [if_pos e] at hc
    split at hc <;> try contradiction
    rename_i g2 n2 d r hq
    cases hc
    exact ⟨d, r, hq⟩
  · rw [if_neg (by rw [e]; decide)] at hc; cases hc; exact ⟨rfl, rfl⟩
  · rw [if_pos e] at h; exact h
  · rw [if_neg (by rw [e]; decide)] at h; cases h; exact ⟨rfl, rfl⟩
theorem env_take {l : List Nv} {k : Nat} : (envC l).take (k * 6) = envC (l.take k) := by
  unfold envC
  induction l generalizing k with
  | nil => simp
  | cons x l ih =>
    cases k with
    | zero => simp
    | succ k =>
      rw [List.flatMap_cons, List.take_succ_cons, List.flatMap_cons, ← ih, List.take_append]
      rw [show (nvC x).length = 6 from rfl, List.take_of_length_le (by show (nvC x).length ≤ _; rw [show (nvC x).length = 6 from rfl]; omega), show (k + 1) * 6 - 6 = k * 6 by omega]
end Go.Inf
