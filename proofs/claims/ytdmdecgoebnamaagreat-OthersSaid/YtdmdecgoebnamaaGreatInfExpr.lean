/- Expressions: what the plain checker does at each kind. -/
import Derived.Test.YtdmdecgoebnamaaGreatInfEnv
import Derived.Test.YtdmdecgoebnamaaGreatSx4
import Derived.Test.YtdmdecgoebnamaaGreatGraph
import Derived.Test.YtdmdecgoebnamaaGreatInf16
set_option linter.unusedVariables false
set_option linter.unusedSimpArgs false
namespace Go.Inf
open Go.RowKit Go.Sx Go.Gx Go.Syn
abbrev Ex := Ck → Nd → Nat → Option (Ck × Nat)
theorem pr {α β : Type} {a a' : α} {b b' : β} (h : some (a, b) = some (a', b')) : a = a' ∧ b = b' := by simpa using h
theorem pr1 {α : Type} {a a' : α} (h : some a = some a') : a = a' := by simpa using h
section
variable {c c1 : Ck} {g0 : G} {e : List Nam} {o : List Opr} {fk : Nat} {fa : Int} {n : Nat}
theorem cs_put {kd r : Nat} {a b : Option Nat} (h : c.put kd a b r = some (c1, n)) (hc : c = ⟨g0, e, o, fk, fa⟩) : ∃ g, g0.put kd a b r = some (g, n) ∧ (⟨g, e, o, fk, fa⟩ : Ck) = c1 := by subst hc; exact ck_put h
theorem cs_var (h : c.var = some (c1, n)) (hc : c = ⟨g0, e, o, fk, fa⟩) : ∃ g, g0.var = some (g, n) ∧ (⟨g, e, o, fk, fa⟩ : Ck) = c1 := by subst hc; exact ck_var h
theorem cs_putRow {l : List Nm} {nx : Option Nat} (h : c.putRow l nx = some (c1, n)) (hc : c = ⟨g0, e, o, fk, fa⟩) : ∃ g, g0.putRow l nx = some (g, n) ∧ (⟨g, e, o, fk, fa⟩ : Ck) = c1 := by subst hc; exact ck_putRow h
theorem cs_opn (h : c.opn = some (c1, n)) (hc : c = ⟨g0, e, o, fk, fa⟩) : ∃ g, g0.opn = some (g, n) ∧ (⟨g, e, o, fk, fa⟩ : Ck) = c1 := by subst hc; exact ck_opn h
theorem cs_ofT {k : Nat} {t : Ty} (h : c.ofT k t = some (c1, n)) (hc : c = ⟨g0, e, o, fk, fa⟩) : ∃ g, Inf.ofT k g0 t = some (g, n) ∧ (⟨g, e, o, fk, fa⟩ : Ck) = c1 := by subst hc; exact ck_ofT h
end
def appM (ex : Ex) (k : Nat) (c : Ck) (n : Nd) (row : Nat) : Option (Ck × Nat) := do
  let d0 ← n.ks[0]?
  let d1 ← n.ks[1]?
  let (c, f) ← ex c d0 row
  let (c, a) ← ex c d1 row
  let (c, p) ← c.var
  let (c, b) ← c.var
  let (c, q) ← c.opn
  let (c, t) ← c.put 6 (some p) (some b) q
  let c ← c.same k f t d0.a
  let c ← c.same k p a d1.a
  let c ← c.row k q row n.a
  some (c, b)
def letM (ex : Ex) (k : Nat) (c : Ck) (n : Nd) (row : Nat) : Option (Ck × Nat) := do
  let d0 ← n.ks[0]?
  let d1 ← n.ks[1]?
  let (c, x) ← if n.n = 1 then do
      let (c, t) ← boundF ex k c n
      let c ← c.bigC k t n.a
      let x ← c.general k n.nm t
      some (c, x)
    else do
      let (c, t) ← ex c d0 row
      let c ← c.bigC k t n.a
      if value d0 then do
        let x ← c.general k n.nm t
        some (c, x)
      else some (c, mono n.nm t)
  let (c, t) ← ex (c.with x) d1 row
  some (c.out 1, t)
def casesM (ex : Ex) (k : Nat) (c : Ck) (n : Nd) (row : Nat) : Option (Ck × Nat) := do
  let d0 ← n.ks[0]?
  let d1 ← n.ks[1]?
  let p2 ← n.ks[2]?
  let p3 ← n.ks[3]?
  let d4 ← n.ks[4]?
  let (c, a) ← ex c d0 row
  let (c, v) ← c.var
  let (c, l) ← c.put 4 (some v) none 0
  let c ← c.same k a l d0.a
  let (c, t) ← ex c d1 row
  let (c, e) ← ex ((c.with (mono p2.nm v)).with (mono p3.nm l)) d4 row
  let c ← (c.out 2).same k e t d4.a
  some (c, t)
def doesM (ex : Ex) (k : Nat) (c : Ck) (n : Nd) (row : Nat) : Option (Ck × Nat) := match opAt n.nm c.ops with
  | none => (c.no 6 n.a).var
  | some o => do
    let d0 ← n.ks[0]?
    let (c, a) ← ex c d0 row
    let (c, i) ← c.ofT k o.i
    let (c, r) ← c.ofT k o.o
    let c ← c.same k a i d0.a
    let (c, v) ← c.opn
    let (c, q) ← c.putRow [n.nm] (some v)
    let c ← c.row k row q n.a
    some (c, r)
def handleM (ex : Ex) (k : Nat) (c : Ck) (n : Nd) (row : Nat) : Option (Ck × Nat) := do
  let d0 ← n.ks[0]?
  let rt ← n.ks[1]?
  let rb ← rt.ks[0]?
  let _ ← if n.ks.length < 1000000000 then some () else none
  let c := namesF c.ops (n.ks.drop 2) [] c
  if c.fk ≠ 0 then c.var else
    let (c, inner) ← c.putRow ((n.ks.drop 2).map fun d => d.nm) (some row)
    let (c, t) ← ex c d0 inner
    let (c, b) ← ex (c.with (mono rt.nm t)) rb row
    let c ← clausesF ex k n row inner t b (n.ks.drop 2) (c.out 1)
    some (c, b)
section
variable {k a row : Nat} {c : Ck} {nm : Nm} {n : Int} {ks : List Nd}
theorem ex_no {kd : Nat} (h0 : c.fk ≠ 0) : expr (k + 1) c (.mk kd a nm n ks) row = c.var := by unfold expr; rw [if_pos h0]
theorem ex_3 (h0 : c.fk = 0) : expr (k + 1) c (.mk 3 a nm n ks) row = c.put 1 none none 0 := by (conv => lhs; unfold expr); rw [if_neg (by simp [h0])]; rfl
theorem ex_4 (h0 : c.fk = 0) : expr (k + 1) c (.mk 4 a nm n ks) row = c.put 2 none none 0 := by (conv => lhs; unfold expr); rw [if_neg (by simp [h0])]; rfl
theorem ex_5 (h0 : c.fk = 0) : expr (k + 1) c (.mk 5 a nm n ks) row = c.put 3 none none 0 := by (conv => lhs; unfold expr); rw [if_neg (by simp [h0])]; rfl
theorem ex_15 (h0 : c.fk = 0) : expr (k + 1) c (.mk 15 a nm n ks) row = (do let (c, v) ← c.var; c.put 4 (some v) none 0) := by (conv => lhs; unfold expr); rw [if_neg (by simp [h0])]; rfl
theorem ex_6 (h0 : c.fk = 0) : expr (k + 1) c (.mk 6 a nm n ks) row = (match findEnv nm c.env with
      | some x => match use k c.g x with
        | some (g, m) => some ({ c with g := g }, m)
        | none => none
      | none => (c.no 6 a).var) := by (conv => lhs; unfold expr); rw [if_neg (by simp [h0])]; rfl
theorem ex_7 (h0 : c.fk = 0) : expr (k + 1) c (.mk 7 a nm n ks) row = (do
      let (c, v) ← c.var
      let (c, r) ← c.opn
      let d ← ks[0]?
      let (c, b) ← expr k (c.with (mono nm v)) d r
      (c.out 1).put 6 (some v) (some b) r) := by (conv => lhs; unfold expr); rw [if_neg (by simp [h0])]; rfl
theorem ex_8 (h0 : c.fk = 0) : expr (k + 1) c (.mk 8 a nm n ks) row = appM (expr k) k c (.mk 8 a nm n ks) row := by (conv => lhs; unfold expr); rw [if_neg (by simp [h0])]; rfl
theorem ex_9 (h0 : c.fk = 0) : expr (k + 1) c (.mk 9 a nm n ks) row = letM (expr k) k c (.mk 9 a nm n ks) row := by (conv => lhs; unfold expr); rw [if_neg (by simp [h0])]; rfl
theorem ex_10 (h0 : c.fk = 0) : expr (k + 1) c (.mk 10 a nm n ks) row = (do
      let d0 ← ks[0]?
      let d1 ← ks[1]?
      let (c, _) ← expr k c d0 row
      expr k c d1 row) := by (conv => lhs; unfold expr); rw [if_neg (by simp [h0])]; rfl
theorem ex_11 (h0 : c.fk = 0) : expr (k + 1) c (.mk 11 a nm n ks) row = (do
      let d0 ← ks[0]?
      let d1 ← ks[1]?
      let d2 ← ks[2]?
      let (c, a) ← expr k c d0 row
      let (c, b) ← c.put 2 none none 0
      let c ← c.same k a b d0.a
      let (c, t) ← expr k c d1 row
      let (c, e) ← expr k c d2 row
      let c ← c.same k e t d2.a
      some (c, t)) := by (conv => lhs; unfold expr); rw [if_neg (by simp [h0])]; rfl
theorem ex_12 (h0 : c.fk = 0) : expr (k + 1) c (.mk 12 a nm n ks) row = (do
      let d0 ← ks[0]?
      let d1 ← ks[1]?
      let (c, a) ← expr k c d0 row
      let (c, b) ← expr k c d1 row
      c.put 5 (some a) (some b) 0) := by (conv => lhs; unfold expr); rw [if_neg (by simp [h0])]; rfl
theorem ex_16 (h0 : c.fk = 0) : expr (k + 1) c (.mk 16 a nm n ks) row = (do
      let d0 ← ks[0]?
      let d1 ← ks[1]?
      let (c, a) ← expr k c d0 row
      let (c, b) ← expr k c d1 row
      let (c, l) ← c.put 4 (some a) none 0
      let c ← c.same k b l d1.a
      some (c, b)) := by (conv => lhs; unfold expr); rw [if_neg (by simp [h0])]; rfl
theorem ex_17 (h0 : c.fk = 0) : expr (k + 1) c (.mk 17 a nm n ks) row = casesM (expr k) k c (.mk 17 a nm n ks) row := by (conv => lhs; unfold expr); rw [if_neg (by simp [h0])]; rfl
theorem ex_18 (h0 : c.fk = 0) : expr (k + 1) c (.mk 18 a nm n ks) row = (do
      let d0 ← ks[0]?
      let d1 ← ks[1]?
      let (c, a) ← expr k c d0 row
      let (c, t) ← c.put 1 none none 0
      let c ← c.same k a t d0.a
      let (c, a) ← expr k c d1 row
      let (c, t) ← c.put 1 none none 0
      let c ← c.same k a t d1.a
      if eqN nm ⟨#[60]⟩ || eqN nm ⟨#[61, 61]⟩ then c.put 2 none none 0 else c.put 1 none none 0) := by (conv => lhs; unfold expr); rw [if_neg (by simp [h0])]; rfl
theorem ex_19 (h0 : c.fk = 0) : expr (k + 1) c (.mk 19 a nm n ks) row = doesM (expr k) k c (.mk 19 a nm n ks) row := by (conv => lhs; unfold expr); rw [if_neg (by simp [h0])]; rfl
theorem ex_13 (h0 : c.fk = 0) : expr (k + 1) c (.mk 13 a nm n ks) row = (do
      let d0 ← ks[0]?
      let (c, a) ← expr k c d0 row
      let (c, x) ← c.var
      let (c, y) ← c.var
      let (c, p) ← c.put 5 (some x) (some y) 0
      let c ← c.same k a p d0.a
      some (c, x)) := by (conv => lhs; unfold expr); rw [if_neg (by simp [h0])]; rfl
theorem ex_14 (h0 : c.fk = 0) : expr (k + 1) c (.mk 14 a nm n ks) row = (do
      let d0 ← ks[0]?
      let (c, a) ← expr k c d0 row
      let (c, x) ← c.var
      let (c, y) ← c.var
      let (c, p) ← c.put 5 (some x) (some y) 0
      let c ← c.same k a p d0.a
      some (c, y)) := by (conv => lhs; unfold expr); rw [if_neg (by simp [h0])]; rfl
theorem ex_h {kd : Nat} (h0 : c.fk = 0) (h3 : kd ≠ 3) (h4 : kd ≠ 4) (h5 : kd ≠ 5) (h15 : kd ≠ 15) (h6 : kd ≠ 6) (h7 : kd ≠ 7) (h8 : kd ≠ 8) (h9 : kd ≠ 9) (h10 : kd ≠ 10) (h11 : kd ≠ 11) (h12 : kd ≠ 12) (h13 : kd ≠ 13) (h14 : kd ≠ 14) (h16 : kd ≠ 16) (h17 : kd ≠ 17) (h18 : kd ≠ 18) (h19 : kd ≠ 19) :
    expr (k + 1) c (.mk kd a nm n ks) row = handleM (expr k) k c (.mk kd a nm n ks) row := by
  (conv => lhs; unfold expr); rw [if_neg (by simp [h0])]
  simp only [Nd.k]
  split <;> first | (exfalso; omega) | rfl | (rename_i hh; unfold handleM; simp only [if_pos hh]; done) | (rename_i hh; unfold handleM; simp only [if_neg hh]; done)
end
/-! ### Names in sight, taken back -/
theorem with_env {el : List Nv} {e : List Nam} {x : Nv} (h : el.map (·.1) = e) : (el ++ [x]).map (·.1) = e ++ [x.1] := by rw [List.map_append, h]; rfl
theorem out_env1 {el : List Nv} {x : Nv} {c : Ck} (h : (el ++ [x]).map (·.1) = c.env) : el.map (·.1) = (c.out 1).env := by
  show _ = c.env.take (c.env.length - 1)
  rw [← h]; simp
theorem out_env2 {el : List Nv} {x y : Nv} {c : Ck} (h : (el ++ [x] ++ [y]).map (·.1) = c.env) : el.map (·.1) = (c.out 2).env := by
  show _ = c.env.take (c.env.length - 2)
  rw [← h]; simp
theorem take1 {el : List Nv} {x : Nv} {n : Nat} (h : el.length = n) : (el ++ [x]).take (n + 1 - 1) = el := by subst h; simp
theorem take2 {el : List Nv} {x y : Nv} {n : Nat} (h : el.length = n) : (el ++ [x] ++ [y]).take (n + 1 + 1 - 2) = el := by subst h; simp
def nv1 (nm : Nm) (t : Nat) (o : Bool) : Nv := (⟨nm, t, false, [], [], o⟩, none, none)
/-! ### A name is looked for from the end -/
theorem findEnv_snoc {nm : Nm} {l : List Nam} {x : Nam} : findEnv nm (l ++ [x]) = if eqN x.nm nm then some x else findEnv nm l := by
  unfold findEnv
  rw [List.reverse_append, List.reverse_singleton, List.singleton_append, List.find?_cons]
  cases h : eqN x.nm nm <;> simp
theorem findEnv_take {nm : Nm} {el : List Nv} {i : Nat} {x : Nv} (hx : el[i]? = some x) : findEnv nm ((el.take (i + 1)).map (·.1)) = if eqN x.1.nm nm then some x.1 else findEnv nm ((el.take i).map (·.1)) := by
  rw [List.take_add_one, hx, List.map_append]
  exact findEnv_snoc
theorem no_eq {c : Ck} {kd : Nat} {a : Int} (h0 : c.fk = 0) : c.no kd a = ⟨c.g, c.env, c.ops, kd, a⟩ := by unfold Ck.no; rw [if_pos h0]
theorem use_hf {k : Nat} {c c' : Ck} {x : Nam} {t : Nat} (h : (match use k c.g x with
    | some (g, m) => some (({ c with g := g } : Ck), m)
    | none => none) = some (c', t)) : ∃ g2, use k c.g x = some (g2, t) ∧ (⟨g2, c.env, c.ops, c.fk, c.fa⟩ : Ck) = c' := by
  split at h <;> try contradiction
  rename_i g2 m hu
  cases h
  exact ⟨g2, hu, rfl⟩
/-! ### Two kids, one after the other -/
def opM (ex : Ex) (k : Nat) (row : Nat) (nm : Nm) : List Nd → Ck → Option (Ck × Nat)
  | [], c => if eqN nm ⟨#[60]⟩ || eqN nm ⟨#[61, 61]⟩ then c.put 2 none none 0 else c.put 1 none none 0
  | d :: r, c => do
    let (c, a) ← ex c d row
    let (c, t) ← c.put 1 none none 0
    let c ← c.same k a t d.a
    opM ex k row nm r c
theorem ex_18' {k a row : Nat} {c : Ck} {nm : Nm} {n : Int} {ks : List Nd} {r : Ck × Nat} (h0 : c.fk = 0) (h : expr (k + 1) c (.mk 18 a nm n ks) row = some r) : 2 ≤ ks.length ∧ opM (expr k) k row nm ((ks.take 2).drop 0) c = some r := by
  rw [ex_18 h0] at h
  obtain ⟨d0, h1, h⟩ := bs h
  obtain ⟨d1, h2, h⟩ := bs h
  match ks, h1, h2 with
  | x :: y :: r, h1, h2 =>
    simp at h1 h2
    subst h1 h2
    exact ⟨by simp, h⟩
theorem opM_step {ex : Ex} {k row i : Nat} {nm : Nm} {ks : List Nd} {c : Ck} {r : Ck × Nat} (h : opM ex k row nm ((ks.take 2).drop i) c = some r) (hi : i < 2) (hl : 2 ≤ ks.length) :
    ∃ d, ks[i]? = some d ∧ (do
      let (c, a) ← ex c d row
      let (c, t) ← c.put 1 none none 0
      let c ← c.same k a t d.a
      opM ex k row nm ((ks.take 2).drop (i + 1)) c) = some r := by
  have hlt : i < (ks.take 2).length := by rw [List.length_take]; omega
  rw [List.drop_eq_getElem_cons hlt] at h
  refine ⟨(ks.take 2)[i], ?_, h⟩
  rw [List.getElem_take, List.getElem?_eq_getElem]
theorem opM_done {ex : Ex} {k row i : Nat} {nm : Nm} {ks : List Nd} {c : Ck} {r : Ck × Nat} (h : opM ex k row nm ((ks.take 2).drop i) c = some r) (hi : 2 ≤ i) : (if eqN nm ⟨#[60]⟩ || eqN nm ⟨#[61, 61]⟩ then c.put 2 none none 0 else c.put 1 none none 0) = some r := by
  rw [List.drop_of_length_le (by rw [List.length_take]; omega)] at h; unfold opM at h; exact h
/-! ### The names of a handler's operations -/
abbrev naF (d : Nd) (c : Ck) (s : Nm) : Ck := if eqN s d.nm then c.no 7 d.a else c
theorem namesF_step {ops : List Opr} {ks : List Nd} {i : Nat} {acc : List Nm} {c R : Ck} (h : namesF ops (ks.drop i) acc c = R) {d : Nd} (hd : ks[i]? = some d) :
    ∃ c1 c2, (match opAt d.nm ops with | some _ => c | none => c.no 6 d.a) = c1 ∧ acc.foldl (naF d) c1 = c2 ∧ namesF ops (ks.drop (i + 1)) (acc ++ [d.nm]) c2 = R := by
  obtain ⟨hi, e⟩ := List.getElem?_eq_some_iff.1 hd
  rw [List.drop_eq_getElem_cons hi, e] at h
  exact ⟨_, _, rfl, rfl, h⟩
theorem namesF_done {ops : List Opr} {ks : List Nd} {i : Nat} {acc : List Nm} {c R : Ck} (h : namesF ops (ks.drop i) acc c = R) (hi : ks.length ≤ i) : c = R := by
  rw [List.drop_of_length_le hi] at h; exact h
theorem na_step {acc : List Nm} {j : Nat} {d : Nd} {c R : Ck} (h : (acc.drop j).foldl (naF d) c = R) (hj : j < acc.length) : (acc.drop (j + 1)).foldl (naF d) (if eqN (gn acc j) d.nm then c.no 7 d.a else c) = R := by
  rw [List.drop_eq_getElem_cons hj, List.foldl_cons] at h
  have e : gn acc j = acc[j] := by simp [gn, hj]
  rw [e]; exact h
theorem na_done {acc : List Nm} {j : Nat} {d : Nd} {c R : Ck} (h : (acc.drop j).foldl (naF d) c = R) (hj : acc.length ≤ j) : c = R := by
  rw [List.drop_of_length_le hj] at h; exact h
def Same3 (a b : Ck) : Prop := a.g = b.g ∧ a.env = b.env ∧ a.ops = b.ops
theorem Same3.no {a b : Ck} (h : Same3 a b) (kd : Nat) (x : Int) : Same3 (a.no kd x) b := ⟨ck_no.2.2.1.trans h.1, ck_no.2.2.2.1.trans h.2.1, ck_no.2.2.2.2.trans h.2.2⟩
theorem strs_at {P : Program} {t j : Nat} {l : List Nm} (hj : j < l.length) (ht : P.underlying t = some .string := by kernel_rfl) : loadX P t (strs l) (j * 1) (.string (gn l j)) := by
  unfold loadX; rw [ht]; simp [strs, gn_at hj]
theorem map_names {ks : List Nd} {i : Nat} {acc : List Nm} {d : Nd} {R : List Nm} (h : acc ++ (ks.drop i).map (fun d => d.nm) = R) (hd : ks[i]? = some d) : acc ++ [d.nm] ++ (ks.drop (i + 1)).map (fun d => d.nm) = R := by
  obtain ⟨hi, e⟩ := List.getElem?_eq_some_iff.1 hd
  rw [List.drop_eq_getElem_cons hi, e, List.map_cons] at h
  rw [List.append_assoc]; exact h
/-! ### The clauses -/
theorem clauses_step {ex : Ex} {k row inner t b q : Nat} {n : Nd} {ks : List Nd} {c R : Ck} (h : clausesF ex k n row inner t b (ks.drop q) c = some R) {d : Nd} (hd : ks[q]? = some d) :
    (do
    let o ← opAt d.nm c.ops
    let (c, i) ← c.ofT k o.i
    let (c, o) ← c.ofT k o.o
    let (c, f) ← c.put 6 (some o) (some b) row
    let (c, f) ← if n.n = 1 then c.put 6 (some o) (some t) inner else some (c, f)
    let p0 ← d.ks[0]?
    let p1 ← d.ks[1]?
    let p2 ← d.ks[2]?
    let (c, e) ← ex ((c.with ⟨p0.nm, i, false, [], [], true⟩).with ⟨p1.nm, f, false, [], [], true⟩) p2 row
    let c ← (c.out 2).same k e b p2.a
    clausesF ex k n row inner t b (ks.drop (q + 1)) c) = some R := by
  obtain ⟨hi, e⟩ := List.getElem?_eq_some_iff.1 hd
  rw [List.drop_eq_getElem_cons hi, e] at h
  exact h
theorem clauses_done {ex : Ex} {k row inner t b i : Nat} {n : Nd} {ks : List Nd} {c R : Ck} (h : clausesF ex k n row inner t b (ks.drop i) c = some R) (hi : ks.length ≤ i) : c = R := by
  rw [List.drop_of_length_le hi] at h; simpa [clausesF] using h
theorem tys_at {w0 w : World} {L0 L : List Sx.Item} (H : Hs w0 L0 w L) (j : Nat) {S : Nat → Prop} {l : List Ov} (hi : L[j]? = some (tysI S l)) {x : Ov} (hx : x ∈ l) : OvR w S x := (H.at j hi).1 x hx
theorem len_ops {w0 w : World} {L0 L : List Sx.Item} (H : Hs w0 L0 w L) (j : Nat) {e n cap : Nat} {A : Option Addr} {l : List Ov} (hi : L[j]? = some (.own e 12 A cap n (opsC l))) {i : Nat} {x : Ov} (hx : l[i]? = some x) : i < n := by
  have := ops_len H j hi
  have := (List.getElem?_eq_some_iff.1 hx).1
  omega
end Go.Inf
namespace Go.Proofs.YtdmdecgoebnamaaGreat
open Go.RowKit Go.Sx Go.Inf Go.Syn
attribute [local irreducible] Go.wpOps Go.Code.wp Go.wpOp Go.wpAnyH Go.Calls Go.Sx.Goal
set_option maxRecDepth 20000
def ExprC (k : Nat) : Prop := ∀ (bc bg : Nat) (eA : Option Addr) (en ec : Nat) (oA : Option Addr) (on oc : Nat) (S : Nat → Prop) (c : Ck) (el : List Nv) (Sm : Nat → Prop) (ol : List Ov) (So : Nat → Prop) (Q : Nat → Prop) (kd na : Nat) (nm : Nm) (nn : Int) (ks : List Nd) (nA : Option Addr) (nc : Nat) (row : Nat) (w : World) (K : Ending → World → Prop), Sp w (Sx.cX bc bg eA en ec oA on oc c.fk c.fa S c.g el Sm ol So Q ks nA nc) → ∀ (c' : Ck) (t : Nat), expr k c (.mk kd na nm nn ks) row = some (c', t) → el.map (·.1) = c.env → ol.map (·.1) = c.ops → en + 2 * k < 1000000000 → on < 1000000000 →
    (∀ (S' : Nat → Prop) (eA' : Option Addr) (ec' : Nat) w', Hs w (Sx.cX bc bg eA en ec oA on oc c.fk c.fa S c.g el Sm ol So Q ks nA nc) w' (Sx.cX bc bg eA' en ec' oA on oc c'.fk c'.fa S' c'.g el Sm ol So Q ks nA nc) → el.map (·.1) = c'.env → ol.map (·.1) = c'.ops → K (.returned (.int .i64 (t : Int))) w') →
    Calls Tryz.prog 65 #[.p bc, Sx.nA kd na nm nn nA ks nc, .int .i64 (row : Int)] w K
set_option maxHeartbeats 4000000 in
theorem app_c (k : Nat) (ih : ExprC k) (bc bg : Nat) (eA : Option Addr) (en ec : Nat) (oA : Option Addr) (on oc : Nat) (S : Nat → Prop) (c : Ck) (el : List Nv) (Sm : Nat → Prop) (ol : List Ov) (So : Nat → Prop) (Q : Nat → Prop) (kd na : Nat) (nm : Nm) (nn : Int) (ks : List Nd) (nA : Option Addr) (nc : Nat) (row : Nat) (w : World) (K : Ending → World → Prop) (H0 : Sp w (Sx.cX bc bg eA en ec oA on oc c.fk c.fa S c.g el Sm ol So Q ks nA nc)) (c' : Ck) (t : Nat) (hf : appM (expr k) k c (.mk kd na nm nn ks) row = some (c', t)) (hel : el.map (·.1) = c.env) (hol : ol.map (·.1) = c.ops) (hez : en + 2 * (k + 1) < 1000000000) (hon : on < 1000000000) (hK : ∀ (S' : Nat → Prop) (eA' : Option Addr) (ec' : Nat) w', Hs w (Sx.cX bc bg eA en ec oA on oc c.fk c.fa S c.g el Sm ol So Q ks nA nc) w' (Sx.cX bc bg eA' en ec' oA on oc c'.fk c'.fa S' c'.g el Sm ol So Q ks nA nc) → (el.map (·.1) = c'.env) → (ol.map (·.1) = c'.ops) → K (.returned (.int .i64 (t : Int))) w') :
    Calls Tryz.prog 102 #[.p bc, Sx.nA kd na nm nn nA ks nc, .n row] w K := by
  obtain ⟨L0, hL0, H⟩ := Sx.op0 H0
  refine Sx.en (vs := [.p bc, Sx.nA kd na nm nn nA ks nc, .n row]) 68 Tryz.func102 ?_
  have hkz := kv_len (Q := Q) (ks := ks) (A := nA) (c := nc) H 6 (by kernel_rfl)
  have hlen := env_len (e := 122) (n := en) (cap := ec) (A := eA) (l := el) H 2 (by kernel_rfl)
  unfold appM at hf
  obtain ⟨dA, hdA, hf⟩ := bs hf
  obtain ⟨kddA, nadA, nmdA, nndA, ksdA⟩ := dA
  obtain ⟨B1, cb1, a1, ha1, H1⟩ := nd_kid (Q := Q) (ks := ks) (A := nA) (c := nc) (i := 0) H 6 (by kernel_rfl) hdA
  obtain ⟨dB, hdB, hf⟩ := bs hf
  obtain ⟨kddB, nadB, nmdB, nndB, ksdB⟩ := dB
  obtain ⟨B2, cb2, a2, ha2, H2⟩ := nd_kid (Q := Q) (ks := ks) (A := nA) (c := nc) (i := 1) H1 6 (by kernel_rfl) hdB
  obtain ⟨⟨c1, t1⟩, hq1, hf⟩ := bs hf
  obtain ⟨⟨c2, t2⟩, hq2, hf⟩ := bs hf
  obtain ⟨⟨c3, nn1⟩, hq3, hf⟩ := bs hf
  obtain ⟨gg1, hg1, rfl⟩ := cs_var (g0 := c2.g) (e := c2.env) (o := c2.ops) (fk := c2.fk) (fa := c2.fa) hq3 rfl
  obtain ⟨⟨c4, nn2⟩, hq4, hf⟩ := bs hf
  obtain ⟨gg2, hg2, rfl⟩ := cs_var (g0 := gg1) (e := c2.env) (o := c2.ops) (fk := c2.fk) (fa := c2.fa) hq4 rfl
  obtain ⟨⟨c5, nn3⟩, hq5, hf⟩ := bs hf
  obtain ⟨gg3, hg3, rfl⟩ := cs_opn (g0 := gg2) (e := c2.env) (o := c2.ops) (fk := c2.fk) (fa := c2.fa) hq5 rfl
  obtain ⟨⟨c6, nn4⟩, hq6, hf⟩ := bs hf
  obtain ⟨gg4, hg4, rfl⟩ := cs_put (g0 := gg3) (e := c2.env) (o := c2.ops) (fk := c2.fk) (fa := c2.fa) hq6 rfl
  obtain ⟨c7, hq7, hf⟩ := bs hf
  obtain ⟨c8, hq8, hf⟩ := bs hf
  obtain ⟨c9, hq9, hf⟩ := bs hf
  obtain ⟨rfl, rfl⟩ := pr hf
  refine Sx.nw 2 H2 fun k1 w1 H3 => Sx.nz 3 (.code (Sx.ct 3 Tryz.f102)) [] [(0, .p bc), (2, .n row), (4, .p k1)] fun b1 => Sx.l 5 0 H3 <| Sx.l 7 11 H3 <| Sx.ia 0 a1 0 5 ks.length nc ha1 (at_lt hdA) <| Sx.lo (c := 5) (t := 62) 0 (Sx.nC kddA nadA nmdA nndA B1 ksdA cb1) (Sx.nA kddA nadA nmdA nndA B1 ksdA cb1) (cel_at (Q := Q) (a := a1.add (0 * 5)) (n := 5) (cs := (Sx.nC kddA nadA nmdA nndA B1 ksdA cb1)) H3 7 (by kernel_rfl)) ?_
  refine Sx.c 1 [0, 0, 0, 0, 0, 0, 2] H3 (fun Hp R hZ => ih bc bg eA en ec oA on oc S (⟨c.g, c.env, c.ops, c.fk, c.fa⟩ : Ck) el Sm ol So Q kddA nadA nmdA nndA ksdA B1 cb1  row w1 R Hp c1 t1 hq1 hel hol (by omega) hon (fun S1 eA1 ec1 w2 G1 he1 ho1 => hZ _ _ _ G1 fun H4 => ?_))
  refine Sx.l 7 11 H4 <| Sx.ia 0 a2 1 5 ks.length nc ha2 (at_lt hdB) <| Sx.lo (c := 5) (t := 62) 0 (Sx.nC kddB nadB nmdB nndB B2 ksdB cb2) (Sx.nA kddB nadB nmdB nndB B2 ksdB cb2) (cel_at (Q := Q) (a := a2.add (1 * 5)) (n := 5) (cs := (Sx.nC kddB nadB nmdB nndB B2 ksdB cb2)) H4 9 (by kernel_rfl)) ?_
  refine Sx.c 1 [0, 0, 0, 0, 0, 0, 4] H4 (fun Hp R hZ => ih bc bg eA1 en ec1 oA on oc S1 (⟨c1.g, c1.env, c1.ops, c1.fk, c1.fa⟩ : Ck) el Sm ol So Q kddB nadB nmdB nndB ksdB B2 cb2  row w2 R Hp c2 t2 hq2 he1 ho1 (by omega) hon (fun S2 eA2 ec2 w3 G2 he2 ho2 => hZ _ _ _ G2 fun H5 => ?_))
  refine Sx.c 6 [1] H5 (fun Hp R hZ => Var_c S2 bg c2.g w3 R Hp gg1 nn1 hg1 (fun S3 w4 G3 => hZ _ _ _ G3 fun H6 => ?_))
  refine Sx.c 6 [0] H6 (fun Hp R hZ => Var_c S3 bg gg1 w4 R Hp gg2 nn2 hg2 (fun S4 w5 G4 => hZ _ _ _ G4 fun H7 => ?_))
  refine Sx.c 6 [0] H7 (fun Hp R hZ => Open_c S4 bg gg2 w5 R Hp gg3 nn3 hg3 (fun S5 w6 G5 => hZ _ _ _ G5 fun H8 => ?_))
  refine Sx.c 9 [0] H8 (fun Hp R hZ => Put_c S5 bg gg3 6 ((nn1 : Nat) : Int) (some nn1) ((nn2 : Nat) : Int) (some nn2) nn3 w6 R Hp gg4 nn4 rfl rfl hg4 (fun S6 w7 G6 => hZ _ _ _ G6 fun H9 => ?_))
  refine Sx.l 9 11 H9 <| Sx.ia 0 a1 0 5 ks.length nc ha1 (at_lt hdA) <| Sx.fa 0 (a1.add (0 * 5)) 1 <| Sx.lo (c := 1) (t := 3) 0 [.n nadA] (.n nadA) (cells_sub (i := 1) (m := 1) (cel_at (Q := Q) (a := a1.add (0 * 5)) (n := 5) (cs := (Sx.nC kddA nadA nmdA nndA B1 ksdA cb1)) H9 9 (by kernel_rfl)) (by decide)) ?_
  refine Sx.c 0 [1, 0] H9 (fun Hp R hZ => same_c bc bg eA2 en ec2 oA on oc t1 nn4 ((nadA : Nat) : Int) S6 (⟨gg4, c2.env, c2.ops, c2.fk, c2.fa⟩ : Ck) w7 R Hp _ c7 hq7 (fun S7 w8 G7 => hZ _ _ _ G7 fun H10 => ?_))
  refine Sx.nz 2 (.code (Sx.ct 1023 Tryz.f102)) [] [(0, .p bc), (2, .n row), (4, .p k1), (9, .n t2), (10, .n nn1), (11, .n nn2), (12, .n nn3)] fun b2 => Sx.l 6 11 H10 <| Sx.ia 0 a2 1 5 ks.length nc ha2 (at_lt hdB) <| Sx.fa 0 (a2.add (1 * 5)) 1 <| Sx.lo (c := 1) (t := 3) 0 [.n nadB] (.n nadB) (cells_sub (i := 1) (m := 1) (cel_at (Q := Q) (a := a2.add (1 * 5)) (n := 5) (cs := (Sx.nC kddB nadB nmdB nndB B2 ksdB cb2)) H10 10 (by kernel_rfl)) (by decide)) ?_
  refine Sx.c 0 [0, 0] H10 (fun Hp R hZ => same_c bc bg eA2 en ec2 oA on oc nn1 t2 ((nadB : Nat) : Int) S7 (⟨c7.g, c7.env, c7.ops, c7.fk, c7.fa⟩ : Ck) w8 R Hp _ c8 hq8 (fun S8 w9 G8 => hZ _ _ _ G8 fun H11 => ?_))
  refine Sx.l 8 11 H11 ?_
  refine Sx.c 0 [0, 0] H11 (fun Hp R hZ => row_c bc bg eA2 en ec2 oA on oc nn3 row ((na : Nat) : Int) S8 (⟨c8.g, c8.env, c8.ops, c8.fk, c8.fa⟩ : Ck) w9 R Hp _ c9 hq9 (fun S9 w10 G9 => hZ _ _ _ G9 fun H12 => ?_))
  refine Sx.rt 9 [] H12 (.n nn2) ?_
  subst hL0
  exact Gx.ret_as (v' := .n nn2) (by rfl) (hK S9 eA2 ec2 _ (H12.pk [0, 0, 0, 0, 0, 0, 2]) ((((he2.trans (same_keeps hq7).1.symm).trans (same_keeps hq8).1.symm).trans (row_keeps hq9).1.symm)) ((((ho2.trans (same_keeps hq7).2.symm).trans (same_keeps hq8).2.symm).trans (row_keeps hq9).2.symm)))
set_option maxHeartbeats 4000000 in
theorem cases_c (k : Nat) (ih : ExprC k) (bc bg : Nat) (eA : Option Addr) (en ec : Nat) (oA : Option Addr) (on oc : Nat) (S : Nat → Prop) (c : Ck) (el : List Nv) (Sm : Nat → Prop) (ol : List Ov) (So : Nat → Prop) (Q : Nat → Prop) (kd na : Nat) (nm : Nm) (nn : Int) (ks : List Nd) (nA : Option Addr) (nc : Nat) (row : Nat) (w : World) (K : Ending → World → Prop) (H0 : Sp w (Sx.cX bc bg eA en ec oA on oc c.fk c.fa S c.g el Sm ol So Q ks nA nc)) (c' : Ck) (t : Nat) (hf : casesM (expr k) k c (.mk kd na nm nn ks) row = some (c', t)) (hel : el.map (·.1) = c.env) (hol : ol.map (·.1) = c.ops) (hez : en + 2 * (k + 1) < 1000000000) (hon : on < 1000000000) (hK : ∀ (S' : Nat → Prop) (eA' : Option Addr) (ec' : Nat) w', Hs w (Sx.cX bc bg eA en ec oA on oc c.fk c.fa S c.g el Sm ol So Q ks nA nc) w' (Sx.cX bc bg eA' en ec' oA on oc c'.fk c'.fa S' c'.g el Sm ol So Q ks nA nc) → (el.map (·.1) = c'.env) → (ol.map (·.1) = c'.ops) → K (.returned (.int .i64 (t : Int))) w') :
    Calls Tryz.prog 104 #[.p bc, Sx.nA kd na nm nn nA ks nc, .n row] w K := by
  obtain ⟨L0, hL0, H⟩ := Sx.op0 H0
  refine Sx.en (vs := [.p bc, Sx.nA kd na nm nn nA ks nc, .n row]) 82 Tryz.func104 ?_
  have hkz := kv_len (Q := Q) (ks := ks) (A := nA) (c := nc) H 6 (by kernel_rfl)
  have hlen := env_len (e := 122) (n := en) (cap := ec) (A := eA) (l := el) H 2 (by kernel_rfl)
  unfold casesM at hf
  obtain ⟨dA, hdA, hf⟩ := bs hf
  obtain ⟨kddA, nadA, nmdA, nndA, ksdA⟩ := dA
  obtain ⟨B1, cb1, a1, ha1, H1⟩ := nd_kid (Q := Q) (ks := ks) (A := nA) (c := nc) (i := 0) H 6 (by kernel_rfl) hdA
  obtain ⟨dB, hdB, hf⟩ := bs hf
  obtain ⟨kddB, nadB, nmdB, nndB, ksdB⟩ := dB
  obtain ⟨B2, cb2, a2, ha2, H2⟩ := nd_kid (Q := Q) (ks := ks) (A := nA) (c := nc) (i := 1) H1 6 (by kernel_rfl) hdB
  obtain ⟨dC, hdC, hf⟩ := bs hf
  obtain ⟨kddC, nadC, nmdC, nndC, ksdC⟩ := dC
  obtain ⟨B3, cb3, a3, ha3, H3⟩ := nd_kid (Q := Q) (ks := ks) (A := nA) (c := nc) (i := 2) H2 6 (by kernel_rfl) hdC
  obtain ⟨dD, hdD, hf⟩ := bs hf
  obtain ⟨kddD, nadD, nmdD, nndD, ksdD⟩ := dD
  obtain ⟨B4, cb4, a4, ha4, H4⟩ := nd_kid (Q := Q) (ks := ks) (A := nA) (c := nc) (i := 3) H3 6 (by kernel_rfl) hdD
  obtain ⟨dE, hdE, hf⟩ := bs hf
  obtain ⟨kddE, nadE, nmdE, nndE, ksdE⟩ := dE
  obtain ⟨B5, cb5, a5, ha5, H5⟩ := nd_kid (Q := Q) (ks := ks) (A := nA) (c := nc) (i := 4) H4 6 (by kernel_rfl) hdE
  obtain ⟨⟨c1, t1⟩, hq1, hf⟩ := bs hf
  obtain ⟨⟨c2, nn1⟩, hq2, hf⟩ := bs hf
  obtain ⟨gg1, hg1, rfl⟩ := cs_var (g0 := c1.g) (e := c1.env) (o := c1.ops) (fk := c1.fk) (fa := c1.fa) hq2 rfl
  obtain ⟨⟨c3, nn2⟩, hq3, hf⟩ := bs hf
  obtain ⟨gg2, hg2, rfl⟩ := cs_put (g0 := gg1) (e := c1.env) (o := c1.ops) (fk := c1.fk) (fa := c1.fa) hq3 rfl
  obtain ⟨c4, hq4, hf⟩ := bs hf
  obtain ⟨⟨c5, t2⟩, hq5, hf⟩ := bs hf
  obtain ⟨⟨c6, t3⟩, hq6, hf⟩ := bs hf
  obtain ⟨c7, hq7, hf⟩ := bs hf
  obtain ⟨rfl, rfl⟩ := pr hf
  refine Sx.nw 2 H5 fun k1 w1 H6 => Sx.nz 3 (.code (Sx.ct 3 Tryz.f104)) [] [(0, .p bc), (2, .n row), (4, .p k1)] fun b1 => Sx.l 5 0 H6 <| Sx.l 7 17 H6 <| Sx.ia 0 a1 0 5 ks.length nc ha1 (at_lt hdA) <| Sx.lo (c := 5) (t := 62) 0 (Sx.nC kddA nadA nmdA nndA B1 ksdA cb1) (Sx.nA kddA nadA nmdA nndA B1 ksdA cb1) (cel_at (Q := Q) (a := a1.add (0 * 5)) (n := 5) (cs := (Sx.nC kddA nadA nmdA nndA B1 ksdA cb1)) H6 7 (by kernel_rfl)) ?_
  refine Sx.c 1 [0, 0, 0, 0, 0, 0, 2] H6 (fun Hp R hZ => ih bc bg eA en ec oA on oc S (⟨c.g, c.env, c.ops, c.fk, c.fa⟩ : Ck) el Sm ol So Q kddA nadA nmdA nndA ksdA B1 cb1  row w1 R Hp c1 t1 hq1 hel hol (by omega) hon (fun S1 eA1 ec1 w2 G1 he1 ho1 => hZ _ _ _ G1 fun H7 => ?_))
  refine Sx.c 6 [1] H7 (fun Hp R hZ => Var_c S1 bg c1.g w2 R Hp gg1 nn1 hg1 (fun S2 w3 G2 => hZ _ _ _ G2 fun H8 => ?_))
  refine Sx.c 7 [0] H8 (fun Hp R hZ => Put_c S2 bg gg1 4 ((nn1 : Nat) : Int) (some nn1) (-1) none 0 w3 R Hp gg2 nn2 rfl rfl hg2 (fun S3 w4 G3 => hZ _ _ _ G3 fun H9 => ?_))
  refine Sx.l 9 17 H9 <| Sx.ia 0 a1 0 5 ks.length nc ha1 (at_lt hdA) <| Sx.fa 0 (a1.add (0 * 5)) 1 <| Sx.lo (c := 1) (t := 3) 0 [.n nadA] (.n nadA) (cells_sub (i := 1) (m := 1) (cel_at (Q := Q) (a := a1.add (0 * 5)) (n := 5) (cs := (Sx.nC kddA nadA nmdA nndA B1 ksdA cb1)) H9 8 (by kernel_rfl)) (by decide)) ?_
  refine Sx.c 0 [1, 0] H9 (fun Hp R hZ => same_c bc bg eA1 en ec1 oA on oc t1 nn2 ((nadA : Nat) : Int) S3 (⟨gg2, c1.env, c1.ops, c1.fk, c1.fa⟩ : Ck) w4 R Hp _ c4 hq4 (fun S4 w5 G4 => hZ _ _ _ G4 fun H10 => ?_))
  refine Sx.l 6 17 H10 <| Sx.ia 0 a2 1 5 ks.length nc ha2 (at_lt hdB) <| Sx.lo (c := 5) (t := 62) 0 (Sx.nC kddB nadB nmdB nndB B2 ksdB cb2) (Sx.nA kddB nadB nmdB nndB B2 ksdB cb2) (cel_at (Q := Q) (a := a2.add (1 * 5)) (n := 5) (cs := (Sx.nC kddB nadB nmdB nndB B2 ksdB cb2)) H10 9 (by kernel_rfl)) ?_
  refine Sx.c 1 [0, 0, 0, 0, 0, 0, 4] H10 (fun Hp R hZ => ih bc bg eA1 en ec1 oA on oc S4 (⟨c4.g, c4.env, c4.ops, c4.fk, c4.fa⟩ : Ck) el Sm ol So Q kddB nadB nmdB nndB ksdB B2 cb2  row w5 R Hp c5 t2 hq5 (he1.trans (same_keeps hq4).1.symm) (ho1.trans (same_keeps hq4).2.symm) (by omega) hon (fun S5 eA2 ec2 w6 G5 he2 ho2 => hZ _ _ _ G5 fun H11 => ?_))
  refine Sx.nz 3 (.code (Sx.ct 255 Tryz.f104)) [] [(0, .p bc), (2, .n row), (4, .p k1), (9, .n nn1), (10, .n nn2), (11, .n t2)] fun b2 => Sx.l 4 17 H11 <| Sx.ia 0 a3 2 5 ks.length nc ha3 (at_lt hdC) <| Sx.fa 0 (a3.add (2 * 5)) 2 <| Sx.lo (c := 1) (t := 9) 0 [.string nmdC] (.string nmdC) (cells_sub (i := 2) (m := 1) (cel_at (Q := Q) (a := a3.add (2 * 5)) (n := 5) (cs := (Sx.nC kddC nadC nmdC nndC B3 ksdC cb3)) H11 11 (by kernel_rfl)) (by decide)) ?_
  have H12 := H11.add (Gx.Ext.refl _) (it := mapsI (fun _ => False) [(nv1 nmdC nn1 false)]) maps_none (fun _ h => h.elim)
  refine Sx.c 2 [0, 1, 1, 15] H12 (fun Hp R hZ => with_c bc bg eA2 en ec2 oA on oc c5.fk c5.fa el Sm (fun _ => False) (nv1 nmdC nn1 false) w6 R Hp (by omega) (fun eA3 ec3 w7 G6 => hZ _ _ _ G6 fun H13 => ?_))
  refine Sx.l 6 18 H13 <| Sx.ia 0 a4 3 5 ks.length nc ha4 (at_lt hdD) <| Sx.fa 0 (a4.add (3 * 5)) 2 <| Sx.lo (c := 1) (t := 9) 0 [.string nmdD] (.string nmdD) (cells_sub (i := 2) (m := 1) (cel_at (Q := Q) (a := a4.add (3 * 5)) (n := 5) (cs := (Sx.nC kddD nadD nmdD nndD B4 ksdD cb4)) H13 14 (by kernel_rfl)) (by decide)) ?_
  have H14 := H13.add (Gx.Ext.refl _) (it := mapsI (fun _ => False) [(nv1 nmdD nn2 false)]) maps_none (fun _ h => h.elim)
  refine Sx.c 2 [0, 0, 1, 16] H14 (fun Hp R hZ => with_c bc bg eA3 (en + 1) ec3 oA on oc c5.fk c5.fa (el ++ [(nv1 nmdC nn1 false)]) (fun c => Sm c ∨ (fun _ => False) c) (fun _ => False) (nv1 nmdD nn2 false) w7 R Hp (by omega) (fun eA4 ec4 w8 G7 => hZ _ _ _ G7 fun H15 => ?_))
  refine Sx.l 6 19 H15 <| Sx.ia 0 a5 4 5 ks.length nc ha5 (at_lt hdE) <| Sx.lo (c := 5) (t := 62) 0 (Sx.nC kddE nadE nmdE nndE B5 ksdE cb5) (Sx.nA kddE nadE nmdE nndE B5 ksdE cb5) (cel_at (Q := Q) (a := a5.add (4 * 5)) (n := 5) (cs := (Sx.nC kddE nadE nmdE nndE B5 ksdE cb5)) H15 17 (by kernel_rfl)) ?_
  refine Sx.c 1 [0, 4, 0, 1, 2, 2, 12] H15 (fun Hp R hZ => ih bc bg eA4 (en + 1 + 1) ec4 oA on oc S5 (⟨c5.g, ((c5.env ++ [(nv1 nmdC nn1 false).1]) ++ [(nv1 nmdD nn2 false).1]), c5.ops, c5.fk, c5.fa⟩ : Ck) ((el ++ [(nv1 nmdC nn1 false)]) ++ [(nv1 nmdD nn2 false)]) (fun c => (fun c => Sm c ∨ (fun _ => False) c) c ∨ (fun _ => False) c) ol So Q kddE nadE nmdE nndE ksdE B5 cb5  row w8 R Hp c6 t3 hq6 (with_env (with_env he2)) ho2 (by omega) hon (fun S6 eA5 ec5 w9 G8 he3 ho3 => hZ _ _ _ G8 fun H16 => ?_))
  refine Sx.nz 3 (.code (Sx.ct 2047 Tryz.f104)) [] [(0, .p bc), (4, .p k1), (11, .n t2), (12, .n t3)] fun b3 => ?_
  refine Sx.c 3 [0, 1] H16 (fun Hp R hZ => out_c bc bg eA5 (en + 1 + 1) ec5 oA on oc c6.fk c6.fa ((el ++ [(nv1 nmdC nn1 false)]) ++ [(nv1 nmdD nn2 false)]) 2 w9 R Hp (by omega) (by omega) (fun w10 G9 => hZ _ _ _ G9 fun H17 => ?_))
  rw [take2 hlen, show en + 1 + 1 - 2 = en from rfl] at H17
  refine Sx.l 8 19 H17 <| Sx.ia 0 a5 4 5 ks.length nc ha5 (at_lt hdE) <| Sx.fa 0 (a5.add (4 * 5)) 1 <| Sx.lo (c := 1) (t := 3) 0 [.n nadE] (.n nadE) (cells_sub (i := 1) (m := 1) (cel_at (Q := Q) (a := a5.add (4 * 5)) (n := 5) (cs := (Sx.nC kddE nadE nmdE nndE B5 ksdE cb5)) H17 18 (by kernel_rfl)) (by decide)) ?_
  refine Sx.c 0 [0, 1] H17 (fun Hp R hZ => same_c bc bg eA5 en ec5 oA on oc t3 t2 ((nadE : Nat) : Int) S6 (⟨c6.g, (Ck.out (⟨c6.g, c6.env, c6.ops, c6.fk, c6.fa⟩ : Ck) 2).env, c6.ops, c6.fk, c6.fa⟩ : Ck) w10 R Hp _ c7 hq7 (fun S7 w11 G10 => hZ _ _ _ G10 fun H18 => ?_))
  refine Sx.rt 9 [] H18 (.n t2) ?_
  subst hL0
  exact Gx.ret_as (v' := .n t2) (by rfl) (hK S7 eA5 ec5 _ (H18.pk [0, 0, 0, 5, 1, 1, 5]) (((out_env2 (c := (⟨c6.g, c6.env, c6.ops, c6.fk, c6.fa⟩ : Ck)) he3).trans (same_keeps hq7).1.symm)) ((ho3.trans (same_keeps hq7).2.symm)))
set_option maxHeartbeats 4000000 in
theorem bound_c (k : Nat) (ih : ExprC k) (bc bg : Nat) (eA : Option Addr) (en ec : Nat) (oA : Option Addr) (on oc : Nat) (S : Nat → Prop) (c : Ck) (el : List Nv) (Sm : Nat → Prop) (ol : List Ov) (So : Nat → Prop) (Q : Nat → Prop) (kd na : Nat) (nm : Nm) (nn : Int) (ks : List Nd) (nA : Option Addr) (nc : Nat) (w : World) (K : Ending → World → Prop) (H0 : Sp w (Sx.cX bc bg eA en ec oA on oc c.fk c.fa S c.g el Sm ol So Q ks nA nc)) (c' : Ck) (t : Nat) (hf : boundF (expr k) k c (.mk kd na nm nn ks) = some (c', t)) (hel : el.map (·.1) = c.env) (hol : ol.map (·.1) = c.ops) (hez : en + 2 * (k + 1) < 1000000000) (hon : on < 1000000000) (hK : ∀ (S' : Nat → Prop) (eA' : Option Addr) (ec' : Nat) w', Hs w (Sx.cX bc bg eA en ec oA on oc c.fk c.fa S c.g el Sm ol So Q ks nA nc) w' (Sx.cX bc bg eA' en ec' oA on oc c'.fk c'.fa S' c'.g el Sm ol So Q ks nA nc) → (el.map (·.1) = c'.env) → (ol.map (·.1) = c'.ops) → K (.returned (.int .i64 (t : Int))) w') :
    Calls Tryz.prog 57 #[.p bc, Sx.nA kd na nm nn nA ks nc] w K := by
  obtain ⟨L0, hL0, H⟩ := Sx.op0 H0
  refine Sx.en (vs := [.p bc, Sx.nA kd na nm nn nA ks nc]) 50 Tryz.func57 ?_
  have hkz := kv_len (Q := Q) (ks := ks) (A := nA) (c := nc) H 6 (by kernel_rfl)
  have hlen := env_len (e := 122) (n := en) (cap := ec) (A := eA) (l := el) H 2 (by kernel_rfl)
  unfold boundF at hf
  obtain ⟨⟨c1, nn1⟩, hq1, hf⟩ := bs hf
  obtain ⟨gg1, hg1, rfl⟩ := cs_opn (g0 := c.g) (e := c.env) (o := c.ops) (fk := c.fk) (fa := c.fa) hq1 rfl
  obtain ⟨dA, hdA, hf⟩ := bs hf
  obtain ⟨kddA, nadA, nmdA, nndA, ksdA⟩ := dA
  obtain ⟨B1, cb1, a1, ha1, H1⟩ := nd_kid (Q := Q) (ks := ks) (A := nA) (c := nc) (i := 0) H 6 (by kernel_rfl) hdA
  refine Sx.nw 2 H1 fun k1 w1 H2 => Sx.l 8 0 H2 ?_
  refine Sx.c 0 [1] H2 (fun Hp R hZ => Open_c S bg c.g w1 R Hp gg1 nn1 hg1 (fun S1 w2 G1 => hZ _ _ _ G1 fun H3 => ?_))
  refine Sx.l 7 9 H3 <| Sx.nz 3 (.code (Sx.ct 29 Tryz.f57)) [.code (Sx.ct 15 Tryz.f57)] [(0, .p bc), (3, .p k1), (5, .n nn1), (15, .bool (nn == (0 : Int)))] fun b1 => ?_
  refine Sx.br 0 (nn == (0 : Int)) (fun h_c15 => ?_) (fun h_c15 => ?_)
  · rw [if_pos (show (Nd.mk kd na nm nn ks).n = 0 from Gx.k1 h_c15)] at hf
    refine Sx.l 4 9 H3 <| Sx.ia 0 a1 0 5 ks.length nc ha1 (at_lt hdA) <| Sx.lo (c := 5) (t := 62) 0 (Sx.nC kddA nadA nmdA nndA B1 ksdA cb1) (Sx.nA kddA nadA nmdA nndA B1 ksdA cb1) (cel_at (Q := Q) (a := a1.add (0 * 5)) (n := 5) (cs := (Sx.nC kddA nadA nmdA nndA B1 ksdA cb1)) H3 7 (by kernel_rfl)) ?_
    refine Sx.c 1 [1, 0, 0, 0, 0, 0, 2] H3 (fun Hp R hZ => ih bc bg eA en ec oA on oc S1 (⟨gg1, c.env, c.ops, c.fk, c.fa⟩ : Ck) el Sm ol So Q kddA nadA nmdA nndA ksdA B1 cb1  nn1 w2 R Hp c' t hf hel hol (by omega) hon (fun S2 eA1 ec1 w3 G2 he1 ho1 => hZ _ _ _ G2 fun H4 => ?_))
    refine Sx.rt 5 [] H4 (.n t) ?_
    subst hL0
    exact Gx.ret_as (v' := .n t) (by rfl) (hK S2 eA1 ec1 _ (H4.pk [0, 0, 0, 0, 0, 0, 1]) (he1) (ho1))
  rw [if_neg (show ¬ (Nd.mk kd na nm nn ks).n = 0 from Gx.k0 h_c15)] at hf
  obtain ⟨⟨c2, nn2⟩, hq2, hf⟩ := bs hf
  obtain ⟨gg2, hg2, rfl⟩ := cs_var (g0 := gg1) (e := c.env) (o := c.ops) (fk := c.fk) (fa := c.fa) hq2 rfl
  obtain ⟨⟨c3, t1⟩, hq3, hf⟩ := bs hf
  obtain ⟨c4, hq4, hf⟩ := bs hf
  obtain ⟨rfl, rfl⟩ := pr hf
  refine Sx.nz 2 (.code (Sx.ct 15 Tryz.f57)) [] [(0, .p bc), (3, .p k1), (5, .n nn1)] fun b2 => Sx.l 5 1 H3 ?_
  refine Sx.c 0 [0] H3 (fun Hp R hZ => Var_c S1 bg gg1 w2 R Hp gg2 nn2 hg2 (fun S3 w4 G3 => hZ _ _ _ G3 fun H5 => ?_))
  refine Sx.l 7 9 H5 ?_
  have H6 := H5.add (Gx.Ext.refl _) (it := mapsI (fun _ => False) [(nv1 nm nn2 false)]) maps_none (fun _ h => h.elim)
  refine Sx.c 2 [1, 1, 1, 7] H6 (fun Hp R hZ => with_c bc bg eA en ec oA on oc c.fk c.fa el Sm (fun _ => False) (nv1 nm nn2 false) w4 R Hp (by omega) (fun eA2 ec2 w5 G4 => hZ _ _ _ G4 fun H7 => ?_))
  refine Sx.l 6 10 H7 <| Sx.ia 0 a1 0 5 ks.length nc ha1 (at_lt hdA) <| Sx.lo (c := 5) (t := 62) 0 (Sx.nC kddA nadA nmdA nndA B1 ksdA cb1) (Sx.nA kddA nadA nmdA nndA B1 ksdA cb1) (cel_at (Q := Q) (a := a1.add (0 * 5)) (n := 5) (cs := (Sx.nC kddA nadA nmdA nndA B1 ksdA cb1)) H7 8 (by kernel_rfl)) ?_
  refine Sx.c 1 [0, 3, 0, 1, 1, 1, 3] H7 (fun Hp R hZ => ih bc bg eA2 (en + 1) ec2 oA on oc S3 (⟨gg2, (c.env ++ [(nv1 nm nn2 false).1]), c.ops, c.fk, c.fa⟩ : Ck) (el ++ [(nv1 nm nn2 false)]) (fun c => Sm c ∨ (fun _ => False) c) ol So Q kddA nadA nmdA nndA ksdA B1 cb1  nn1 w5 R Hp c3 t1 hq3 (with_env hel) hol (by omega) hon (fun S4 eA3 ec3 w6 G5 he2 ho2 => hZ _ _ _ G5 fun H8 => ?_))
  refine Sx.c 6 [0, 1] H8 (fun Hp R hZ => out_c bc bg eA3 (en + 1) ec3 oA on oc c3.fk c3.fa (el ++ [(nv1 nm nn2 false)]) 1 w6 R Hp (by omega) (by omega) (fun w7 G6 => hZ _ _ _ G6 fun H9 => ?_))
  rw [take1 hlen, show en + 1 - 1 = en from rfl] at H9
  refine Sx.l 8 10 H9 ?_
  refine Sx.c 0 [0, 1] H9 (fun Hp R hZ => same_c bc bg eA3 en ec3 oA on oc nn2 t1 ((na : Nat) : Int) S4 (⟨c3.g, (Ck.out (⟨c3.g, c3.env, c3.ops, c3.fk, c3.fa⟩ : Ck) 1).env, c3.ops, c3.fk, c3.fa⟩ : Ck) w7 R Hp _ c4 hq4 (fun S5 w8 G7 => hZ _ _ _ G7 fun H10 => ?_))
  refine Sx.rt 9 [] H10 (.n t1) ?_
  subst hL0
  exact Gx.ret_as (v' := .n t1) (by rfl) (hK S5 eA3 ec3 _ (H10.pk [0, 0, 0, 4, 1, 1, 2]) (((out_env1 (c := (⟨c3.g, c3.env, c3.ops, c3.fk, c3.fa⟩ : Ck)) he2).trans (same_keeps hq4).1.symm)) ((ho2.trans (same_keeps hq4).2.symm)))
set_option maxHeartbeats 4000000 in
theorem let_c (k : Nat) (ih : ExprC k) (bc bg : Nat) (eA : Option Addr) (en ec : Nat) (oA : Option Addr) (on oc : Nat) (S : Nat → Prop) (c : Ck) (el : List Nv) (Sm : Nat → Prop) (ol : List Ov) (So : Nat → Prop) (Q : Nat → Prop) (kd na : Nat) (nm : Nm) (nn : Int) (ks : List Nd) (nA : Option Addr) (nc : Nat) (row : Nat) (w : World) (K : Ending → World → Prop) (H0 : Sp w (Sx.cX bc bg eA en ec oA on oc c.fk c.fa S c.g el Sm ol So Q ks nA nc)) (c' : Ck) (t : Nat) (hf : letM (expr k) k c (.mk kd na nm nn ks) row = some (c', t)) (hel : el.map (·.1) = c.env) (hol : ol.map (·.1) = c.ops) (hez : en + 2 * (k + 1) < 1000000000) (hon : on < 1000000000) (hK : ∀ (S' : Nat → Prop) (eA' : Option Addr) (ec' : Nat) w', Hs w (Sx.cX bc bg eA en ec oA on oc c.fk c.fa S c.g el Sm ol So Q ks nA nc) w' (Sx.cX bc bg eA' en ec' oA on oc c'.fk c'.fa S' c'.g el Sm ol So Q ks nA nc) → (el.map (·.1) = c'.env) → (ol.map (·.1) = c'.ops) → K (.returned (.int .i64 (t : Int))) w') :
    Calls Tryz.prog 103 #[.p bc, Sx.nA kd na nm nn nA ks nc, .n row] w K := by
  obtain ⟨L0, hL0, H⟩ := Sx.op0 H0
  refine Sx.en (vs := [.p bc, Sx.nA kd na nm nn nA ks nc, .n row]) 67 Tryz.func103 ?_
  have hkz := kv_len (Q := Q) (ks := ks) (A := nA) (c := nc) H 6 (by kernel_rfl)
  have hlen := env_len (e := 122) (n := en) (cap := ec) (A := eA) (l := el) H 2 (by kernel_rfl)
  unfold letM at hf
  obtain ⟨dA, hdA, hf⟩ := bs hf
  obtain ⟨kddA, nadA, nmdA, nndA, ksdA⟩ := dA
  obtain ⟨B1, cb1, a1, ha1, H1⟩ := nd_kid (Q := Q) (ks := ks) (A := nA) (c := nc) (i := 0) H 6 (by kernel_rfl) hdA
  obtain ⟨dB, hdB, hf⟩ := bs hf
  obtain ⟨kddB, nadB, nmdB, nndB, ksdB⟩ := dB
  obtain ⟨B2, cb2, a2, ha2, H2⟩ := nd_kid (Q := Q) (ks := ks) (A := nA) (c := nc) (i := 1) H1 6 (by kernel_rfl) hdB
  dsimp only at hf
  refine Sx.nw 2 H2 fun k1 w1 H3 => Sx.l 6 11 H3 <| Sx.nw 1 H3 fun k2 w2 H4 => Sx.s 0 12 H4 fun w3 H5 => Sx.nz 2 (.code (Sx.ct 7 Tryz.f103)) [] [(0, .p bc), (2, .n row), (4, .p k1), (7, .p k2)] fun b1 => Sx.l 4 11 H5 ?_
  refine Sx.br 3 (nn == (1 : Int)) (fun h_c16 => ?_) (fun h_c16 => ?_)
  · rw [if_pos (show (Nd.mk kd na nm nn ks).n = 1 from Gx.k1 h_c16)] at hf
    obtain ⟨⟨c1, t1⟩, hq1, hf⟩ := bs hf
    obtain ⟨c2, hq2, hf⟩ := bs hf
    obtain ⟨x1, hq3, hf⟩ := bs hf
    obtain ⟨⟨c3, t2⟩, hq4, hf⟩ := bs hf
    obtain ⟨rfl, rfl⟩ := pr hq4
    obtain ⟨⟨c4, t3⟩, hq5, hf⟩ := bs hf
    obtain ⟨rfl, rfl⟩ := pr hf
    refine Sx.l 3 11 H5 ?_
    refine Sx.c 0 [0, 0, 0, 0, 0, 0, 0] H5 (fun Hp R hZ => bound_c k ih bc bg eA en ec oA on oc S (⟨c.g, c.env, c.ops, c.fk, c.fa⟩ : Ck) el Sm ol So Q kd na nm nn ks nA nc w3 R Hp c1 t1 hq1 hel hol (by omega) hon (fun S1 eA1 ec1 w4 G1 he1 ho1 => hZ _ _ _ G1 fun H6 => ?_))
    refine Sx.l 8 11 H6 ?_
    refine Sx.c 0 [0, 0] H6 (fun Hp R hZ => big_c bc bg eA1 en ec1 oA on oc t1 ((na : Nat) : Int) S1 (⟨c1.g, c1.env, c1.ops, c1.fk, c1.fa⟩ : Ck) w4 R Hp _ c2 hq2 (fun S2 w5 G2 => hZ _ _ _ G2 fun H7 => ?_))
    refine Sx.nz 2 (.code (Sx.ct 235 Tryz.f103)) [.code (Sx.ct 15 Tryz.f103)] [(0, .p bc), (2, .n row), (4, .p k1), (7, .p k2), (8, .n t1)] fun b2 => Sx.l 3 11 H7 ?_
    refine Sx.c 1 [0, 0, 0, 0] H7 (fun Hp R hZ => general_c bc bg eA1 en ec1 oA on oc S2 (⟨c2.g, c2.env, c2.ops, c2.fk, c2.fa⟩ : Ck) el Sm nm t1 w5 R Hp k x1 hq3 (he1.trans (big_keeps hq2).2.1.symm) (by omega) (fun S3 S4 b3 b4 w6 G3 => hZ _ _ _ G3 fun H8 => ?_))
    refine Sx.s 0 13 H8 fun w7 H9 => Sx.l 5 13 H9 ?_
    refine Sx.c 0 [0, 1, 1, 1] H9 (fun Hp R hZ => with_c bc bg eA1 en ec1 oA on oc c2.fk c2.fa el Sm S4 (x1, some b3, some b4) w7 R Hp (by omega) (fun eA2 ec2 w8 G4 => hZ _ _ _ G4 fun H10 => ?_))
    refine Sx.l 6 12 H10 <| Sx.ia 0 a2 1 5 ks.length nc ha2 (at_lt hdB) <| Sx.lo (c := 5) (t := 62) 0 (Sx.nC kddB nadB nmdB nndB B2 ksdB cb2) (Sx.nA kddB nadB nmdB nndB B2 ksdB cb2) (cel_at (Q := Q) (a := a2.add (1 * 5)) (n := 5) (cs := (Sx.nC kddB nadB nmdB nndB B2 ksdB cb2)) H10 10 (by kernel_rfl)) ?_
    refine Sx.c 1 [0, 3, 0, 1, 1, 1, 5] H10 (fun Hp R hZ => ih bc bg eA2 (en + 1) ec2 oA on oc S3 (⟨c2.g, (c2.env ++ [(x1, some b3, some b4).1]), c2.ops, c2.fk, c2.fa⟩ : Ck) (el ++ [(x1, some b3, some b4)]) (fun c => Sm c ∨ S4 c) ol So Q kddB nadB nmdB nndB ksdB B2 cb2  row w8 R Hp c4 t3 hq5 (with_env (he1.trans (big_keeps hq2).2.1.symm)) (ho1.trans (big_keeps hq2).2.2.symm) (by omega) hon (fun S5 eA3 ec3 w9 G5 he2 ho2 => hZ _ _ _ G5 fun H11 => ?_))
    refine Sx.c 6 [0, 1] H11 (fun Hp R hZ => out_c bc bg eA3 (en + 1) ec3 oA on oc c4.fk c4.fa (el ++ [(x1, some b3, some b4)]) 1 w9 R Hp (by omega) (by omega) (fun w10 G6 => hZ _ _ _ G6 fun H12 => ?_))
    rw [take1 hlen, show en + 1 - 1 = en from rfl] at H12
    refine Sx.rt 9 [] H12 (.n t3) ?_
    subst hL0
    exact Gx.ret_as (v' := .n t3) (by rfl) (hK S5 eA3 ec3 _ (H12.pk [0, 1, 0, 4, 1, 1, 2]) ((out_env1 (c := (⟨c4.g, c4.env, c4.ops, c4.fk, c4.fa⟩ : Ck)) he2)) (ho2))
  rw [if_neg (show ¬ (Nd.mk kd na nm nn ks).n = 1 from Gx.k0 h_c16)] at hf
  obtain ⟨⟨c5, t4⟩, hq6, hf⟩ := bs hf
  obtain ⟨c6, hq7, hf⟩ := bs hf
  refine Sx.l 4 11 H5 <| Sx.ia 0 a1 0 5 ks.length nc ha1 (at_lt hdA) <| Sx.lo (c := 5) (t := 62) 0 (Sx.nC kddA nadA nmdA nndA B1 ksdA cb1) (Sx.nA kddA nadA nmdA nndA B1 ksdA cb1) (cel_at (Q := Q) (a := a1.add (0 * 5)) (n := 5) (cs := (Sx.nC kddA nadA nmdA nndA B1 ksdA cb1)) H5 7 (by kernel_rfl)) ?_
  refine Sx.c 1 [0, 0, 0, 0, 0, 0, 2] H5 (fun Hp R hZ => ih bc bg eA en ec oA on oc S (⟨c.g, c.env, c.ops, c.fk, c.fa⟩ : Ck) el Sm ol So Q kddA nadA nmdA nndA ksdA B1 cb1  row w3 R Hp c5 t4 hq6 hel hol (by omega) hon (fun S6 eA4 ec4 w11 G7 he3 ho3 => hZ _ _ _ G7 fun H13 => ?_))
  refine Sx.nz 3 (.code (Sx.ct 119 Tryz.f103)) [.code (Sx.ct 15 Tryz.f103)] [(0, .p bc), (2, .n row), (4, .p k1), (7, .p k2), (9, .n t4)] fun b5 => Sx.l 5 11 H13 ?_
  refine Sx.c 0 [0, 0] H13 (fun Hp R hZ => big_c bc bg eA4 en ec4 oA on oc t4 ((na : Nat) : Int) S6 (⟨c5.g, c5.env, c5.ops, c5.fk, c5.fa⟩ : Ck) w11 R Hp _ c6 hq7 (fun S7 w12 G8 => hZ _ _ _ G8 fun H14 => ?_))
  refine Sx.s 6 12 H14 fun w13 H15 => Sx.l 5 11 H15 <| Sx.ia 0 a1 0 5 ks.length nc ha1 (at_lt hdA) <| Sx.lo (c := 5) (t := 62) 0 (Sx.nC kddA nadA nmdA nndA B1 ksdA cb1) (Sx.nA kddA nadA nmdA nndA B1 ksdA cb1) (cel_at (Q := Q) (a := a1.add (0 * 5)) (n := 5) (cs := (Sx.nC kddA nadA nmdA nndA B1 ksdA cb1)) H15 8 (by kernel_rfl)) ?_
  refine Sx.c 0 [] H15 (fun Hp R hZ => value_c kddA nadA nmdA nndA ksdA B1 cb1 w13 R Hp  (fun w14 G9 => hZ _ _ _ G9 fun H16 => ?_))
  refine Sx.br 2 (value (Nd.mk kddA nadA nmdA nndA ksdA)) (fun h_c48 => ?_) (fun h_c48 => ?_)
  · rw [if_pos h_c48] at hf
    obtain ⟨x2, hq8, hf⟩ := bs hf
    obtain ⟨⟨c7, t5⟩, hq9, hf⟩ := bs hf
    obtain ⟨rfl, rfl⟩ := pr hq9
    obtain ⟨⟨c8, t6⟩, hq10, hf⟩ := bs hf
    obtain ⟨rfl, rfl⟩ := pr hf
    refine Sx.l 3 11 H16 ?_
    refine Sx.c 1 [0, 0, 0, 0] H16 (fun Hp R hZ => general_c bc bg eA4 en ec4 oA on oc S7 (⟨c6.g, c6.env, c6.ops, c6.fk, c6.fa⟩ : Ck) el Sm nm t4 w14 R Hp k x2 hq8 (he3.trans (big_keeps hq7).2.1.symm) (by omega) (fun S8 S9 b6 b7 w15 G10 => hZ _ _ _ G10 fun H17 => ?_))
    refine Sx.s 0 13 H17 fun w16 H18 => Sx.nz 2 (.code (Sx.ct 15 Tryz.f103)) [] [(0, .p bc), (2, .n row), (4, .p k1), (7, .p k2)] fun b8 => Sx.l 3 13 H18 ?_
    refine Sx.c 0 [0, 1, 1, 1] H18 (fun Hp R hZ => with_c bc bg eA4 en ec4 oA on oc c6.fk c6.fa el Sm S9 (x2, some b6, some b7) w16 R Hp (by omega) (fun eA5 ec5 w17 G11 => hZ _ _ _ G11 fun H19 => ?_))
    refine Sx.l 6 12 H19 <| Sx.ia 0 a2 1 5 ks.length nc ha2 (at_lt hdB) <| Sx.lo (c := 5) (t := 62) 0 (Sx.nC kddB nadB nmdB nndB B2 ksdB cb2) (Sx.nA kddB nadB nmdB nndB B2 ksdB cb2) (cel_at (Q := Q) (a := a2.add (1 * 5)) (n := 5) (cs := (Sx.nC kddB nadB nmdB nndB B2 ksdB cb2)) H19 10 (by kernel_rfl)) ?_
    refine Sx.c 1 [0, 3, 0, 1, 1, 1, 5] H19 (fun Hp R hZ => ih bc bg eA5 (en + 1) ec5 oA on oc S8 (⟨c6.g, (c6.env ++ [(x2, some b6, some b7).1]), c6.ops, c6.fk, c6.fa⟩ : Ck) (el ++ [(x2, some b6, some b7)]) (fun c => Sm c ∨ S9 c) ol So Q kddB nadB nmdB nndB ksdB B2 cb2  row w17 R Hp c8 t6 hq10 (with_env (he3.trans (big_keeps hq7).2.1.symm)) (ho3.trans (big_keeps hq7).2.2.symm) (by omega) hon (fun S10 eA6 ec6 w18 G12 he4 ho4 => hZ _ _ _ G12 fun H20 => ?_))
    refine Sx.c 6 [0, 1] H20 (fun Hp R hZ => out_c bc bg eA6 (en + 1) ec6 oA on oc c8.fk c8.fa (el ++ [(x2, some b6, some b7)]) 1 w18 R Hp (by omega) (by omega) (fun w19 G13 => hZ _ _ _ G13 fun H21 => ?_))
    rw [take1 hlen, show en + 1 - 1 = en from rfl] at H21
    refine Sx.rt 9 [] H21 (.n t6) ?_
    subst hL0
    exact Gx.ret_as (v' := .n t6) (by rfl) (hK S10 eA6 ec6 _ (H21.pk [0, 1, 0, 4, 1, 1, 3]) ((out_env1 (c := (⟨c8.g, c8.env, c8.ops, c8.fk, c8.fa⟩ : Ck)) he4)) (ho4))
  rw [if_neg (by rw [h_c48]; decide)] at hf
  obtain ⟨⟨c9, t7⟩, hq11, hf⟩ := bs hf
  obtain ⟨rfl, rfl⟩ := pr hq11
  obtain ⟨⟨c10, t8⟩, hq12, hf⟩ := bs hf
  obtain ⟨rfl, rfl⟩ := pr hf
  refine Sx.nz 2 (.code (Sx.ct 15 Tryz.f103)) [] [(0, .p bc), (2, .n row), (4, .p k1), (7, .p k2)] fun b9 => Sx.l 3 12 H16 ?_
  have H22 := H16.add (Gx.Ext.refl _) (it := mapsI (fun _ => False) [(nv1 nm t4 false)]) maps_none (fun _ h => h.elim)
  refine Sx.c 0 [0, 1, 1, 10] H22 (fun Hp R hZ => with_c bc bg eA4 en ec4 oA on oc c6.fk c6.fa el Sm (fun _ => False) (nv1 nm t4 false) w14 R Hp (by omega) (fun eA7 ec7 w20 G14 => hZ _ _ _ G14 fun H23 => ?_))
  refine Sx.l 6 12 H23 <| Sx.ia 0 a2 1 5 ks.length nc ha2 (at_lt hdB) <| Sx.lo (c := 5) (t := 62) 0 (Sx.nC kddB nadB nmdB nndB B2 ksdB cb2) (Sx.nA kddB nadB nmdB nndB B2 ksdB cb2) (cel_at (Q := Q) (a := a2.add (1 * 5)) (n := 5) (cs := (Sx.nC kddB nadB nmdB nndB B2 ksdB cb2)) H23 10 (by kernel_rfl)) ?_
  refine Sx.c 1 [0, 3, 0, 1, 1, 1, 5] H23 (fun Hp R hZ => ih bc bg eA7 (en + 1) ec7 oA on oc S7 (⟨c6.g, (c6.env ++ [(nv1 nm t4 false).1]), c6.ops, c6.fk, c6.fa⟩ : Ck) (el ++ [(nv1 nm t4 false)]) (fun c => Sm c ∨ (fun _ => False) c) ol So Q kddB nadB nmdB nndB ksdB B2 cb2  row w20 R Hp c10 t8 hq12 (with_env (he3.trans (big_keeps hq7).2.1.symm)) (ho3.trans (big_keeps hq7).2.2.symm) (by omega) hon (fun S11 eA8 ec8 w21 G15 he5 ho5 => hZ _ _ _ G15 fun H24 => ?_))
  refine Sx.c 6 [0, 1] H24 (fun Hp R hZ => out_c bc bg eA8 (en + 1) ec8 oA on oc c10.fk c10.fa (el ++ [(nv1 nm t4 false)]) 1 w21 R Hp (by omega) (by omega) (fun w22 G16 => hZ _ _ _ G16 fun H25 => ?_))
  rw [take1 hlen, show en + 1 - 1 = en from rfl] at H25
  refine Sx.rt 9 [] H25 (.n t8) ?_
  subst hL0
  exact Gx.ret_as (v' := .n t8) (by rfl) (hK S11 eA8 ec8 _ (H25.pk [0, 1, 0, 4, 1, 1, 3]) ((out_env1 (c := (⟨c10.g, c10.env, c10.ops, c10.fk, c10.fa⟩ : Ck)) he5)) (ho5))
set_option maxHeartbeats 4000000 in
theorem does_c (k : Nat) (ih : ExprC k) (bc bg : Nat) (eA : Option Addr) (en ec : Nat) (oA : Option Addr) (on oc : Nat) (S : Nat → Prop) (c : Ck) (el : List Nv) (Sm : Nat → Prop) (ol : List Ov) (So : Nat → Prop) (Q : Nat → Prop) (kd na : Nat) (nm : Nm) (nn : Int) (ks : List Nd) (nA : Option Addr) (nc : Nat) (row : Nat) (w : World) (K : Ending → World → Prop) (H0 : Sp w (Sx.cX bc bg eA en ec oA on oc c.fk c.fa S c.g el Sm ol So Q ks nA nc)) (c' : Ck) (t : Nat) (hf : doesM (expr k) k c (.mk kd na nm nn ks) row = some (c', t)) (hel : el.map (·.1) = c.env) (hol : ol.map (·.1) = c.ops) (hez : en + 2 * (k + 1) < 1000000000) (hon : on < 1000000000) (h0 : c.fk = 0) (hK : ∀ (S' : Nat → Prop) (eA' : Option Addr) (ec' : Nat) w', Hs w (Sx.cX bc bg eA en ec oA on oc c.fk c.fa S c.g el Sm ol So Q ks nA nc) w' (Sx.cX bc bg eA' en ec' oA on oc c'.fk c'.fa S' c'.g el Sm ol So Q ks nA nc) → (el.map (·.1) = c'.env) → (ol.map (·.1) = c'.ops) → K (.returned (.int .i64 (t : Int))) w') :
    Calls Tryz.prog 105 #[.p bc, Sx.nA kd na nm nn nA ks nc, .n row] w K := by
  obtain ⟨L0, hL0, H⟩ := Sx.op0 H0
  refine Sx.en (vs := [.p bc, Sx.nA kd na nm nn nA ks nc, .n row]) 73 Tryz.func105 ?_
  have hkz := kv_len (Q := Q) (ks := ks) (A := nA) (c := nc) H 6 (by kernel_rfl)
  have hlen := env_len (e := 122) (n := en) (cap := ec) (A := eA) (l := el) H 2 (by kernel_rfl)
  unfold doesM at hf
  refine Sx.nw 2 H fun k1 w1 H1 => Sx.l 8 0 H1 <| Sx.l 7 7 H1 ?_
  rcases hop1 : opAt nm c.ops with _ | ov1
  · simp only [Nd.nm, hop1] at hf
    rw [no_eq h0] at hf
    obtain ⟨gg1, hg1, rfl⟩ := cs_var (g0 := c.g) (e := c.env) (o := c.ops) (fk := 6) (fa := (na : Int)) hf rfl
    refine Sx.c 0 [0, 3] H1 (fun Hp R hZ => op_c bc bg eA en ec oA on oc c.fk c.fa ol nm w1 R Hp none (opIx_at (by rw [hol]; exact hop1)) hon (fun w2 G1 => hZ _ _ _ G1 fun H2 => ?_))
    refine Sx.nz 3 (.code (Sx.ct 15 Tryz.f105)) [] [(0, .p bc), (2, .n row), (4, .p k1), (7, .p bg), (8, .pointer none)] fun b1 => Sx.l 12 7 H2 ?_
    refine Sx.c 0 [0] H2 (fun Hp R hZ => no_c bc bg eA en ec oA on oc c.fk c.fa 6 ((na : Nat) : Int) w2 R Hp  (fun w3 G2 => hZ _ _ _ G2 fun H3 => ?_))
    rw [if_pos h0, if_pos h0] at H3
    refine Sx.c 5 [2] H3 (fun Hp R hZ => Var_c S bg c.g w3 R Hp gg1 t hg1 (fun S1 w4 G3 => hZ _ _ _ G3 fun H4 => ?_))
    refine Sx.rt 5 [] H4 (.n t) ?_
    subst hL0
    exact Gx.ret_as (v' := .n t) (by rfl) (hK S1 eA ec _ (H4.pk [1, 0, 1, 1, 0, 0, 0]) (hel) (hol))
  obtain ⟨ox1, ⟨⟨xn1, ⟨ki1, ui1, ri1, oi1, ai1⟩, ⟨ko1, uo1, ro1, oo1, ao1⟩, xq1⟩, pi1, po1⟩, hix1, hxm1, rfl⟩ := opIx_some (l := ol) (by rw [hol]; exact hop1)
  have hlt1 := len_ops (e := 160) (n := on) (cap := oc) (A := oA) (l := ol) H1 4 (by kernel_rfl) hxm1
  obtain ⟨wr1, rfl⟩ := H1.row 4 (A := oA) (e := 160) (sz := 12) (cap := oc) (n := on) (xs := (opsC ol)) (by kernel_rfl) (by omega)
  simp only [Nd.nm, hop1] at hf
  obtain ⟨dA, hdA, hf⟩ := bs hf
  obtain ⟨kddA, nadA, nmdA, nndA, ksdA⟩ := dA
  obtain ⟨B1, cb1, a1, ha1, H5⟩ := nd_kid (Q := Q) (ks := ks) (A := nA) (c := nc) (i := 0) H1 6 (by kernel_rfl) hdA
  obtain ⟨⟨c1, t1⟩, hq1, hf⟩ := bs hf
  obtain ⟨⟨c2, nn2⟩, hq2, hf⟩ := bs hf
  obtain ⟨gg2, hg2, rfl⟩ := cs_ofT (g0 := c1.g) (e := c1.env) (o := c1.ops) (fk := c1.fk) (fa := c1.fa) hq2 rfl
  obtain ⟨⟨c3, nn3⟩, hq3, hf⟩ := bs hf
  obtain ⟨gg3, hg3, rfl⟩ := cs_ofT (g0 := gg2) (e := c1.env) (o := c1.ops) (fk := c1.fk) (fa := c1.fa) hq3 rfl
  obtain ⟨c4, hq4, hf⟩ := bs hf
  obtain ⟨⟨c5, nn4⟩, hq5, hf⟩ := bs hf
  obtain ⟨gg4, hg4, rfl⟩ := cs_opn (g0 := c4.g) (e := c4.env) (o := c4.ops) (fk := c4.fk) (fa := c4.fa) hq5 rfl
  obtain ⟨⟨c6, nn5⟩, hq6, hf⟩ := bs hf
  obtain ⟨gg5, hg5, rfl⟩ := cs_putRow (g0 := gg4) (e := c4.env) (o := c4.ops) (fk := c4.fk) (fa := c4.fa) hq6 rfl
  obtain ⟨c7, hq7, hf⟩ := bs hf
  obtain ⟨rfl, rfl⟩ := pr hf
  refine Sx.c 0 [0, 3] H5 (fun Hp R hZ => op_c bc bg eA en ec (some ⟨wr1, 0, none⟩) on oc c.fk c.fa ol nm w1 R Hp (some ox1) hix1 hon (fun w5 G4 => hZ _ _ _ G4 fun H6 => ?_))
  refine Sx.nz 3 (.code (Sx.ct 15 Tryz.f105)) [] [(0, .p bc), (2, .n row), (4, .p k1), (7, .p bg), (8, .pointer (some (⟨wr1, ox1 * 12, none⟩)))] fun b2 => Sx.l 14 7 H6 <| Sx.ia 0 a1 0 5 ks.length nc ha1 (at_lt hdA) <| Sx.lo (c := 5) (t := 62) 0 (Sx.nC kddA nadA nmdA nndA B1 ksdA cb1) (Sx.nA kddA nadA nmdA nndA B1 ksdA cb1) (cel_at (Q := Q) (a := a1.add (0 * 5)) (n := 5) (cs := (Sx.nC kddA nadA nmdA nndA B1 ksdA cb1)) H6 8 (by kernel_rfl)) ?_
  refine Sx.c 1 [0, 1, 1, 1, 0, 0, 3] H6 (fun Hp R hZ => ih bc bg eA en ec (some ⟨wr1, 0, none⟩) on oc S (⟨c.g, c.env, c.ops, c.fk, c.fa⟩ : Ck) el Sm ol So Q kddA nadA nmdA nndA ksdA B1 cb1  row w5 R Hp c1 t1 hq1 hel hol (by omega) hon (fun S2 eA1 ec1 w6 G5 he1 ho1 => hZ _ _ _ G5 fun H7 => ?_))
  refine Sx.lr 9 4 160 12 96 wr1 oc on (ox1 * 12 + 1) (opsC ol) H7 (.agg #[.n ki1, .n ui1, .n ri1, .slice pi1.A pi1.na pi1.ca, .slice pi1.B pi1.nb pi1.cb]) (rec_part 1 5 ovC_len hxm1 (by decide) rfl) ?_
  have H8 := H7.ro 5 (S := So) (A := fun w => ∀ x ∈ ol, OvR w So x) (B := fun w => TyIn w So pi1 (Ty.mk ki1 ui1 ri1 oi1 ai1)) (by kernel_rfl) (tys_at H7 5 (S := So) (l := ol) (by kernel_rfl) (List.mem_of_getElem? hxm1)).1 (tyI_loc _ _ _)
  refine Sx.c 0 [1, 9] H8 (fun Hp R hZ => (Of_c _) S2 bg c1.g So ki1 ui1 ri1 oi1 ai1 pi1 w6 R Hp gg2 nn2 hg2 (fun S3 w7 G6 => hZ _ _ _ G6 fun H9 => ?_))
  refine Sx.lr 9 5 160 12 96 wr1 oc on (ox1 * 12 + 6) (opsC ol) H9 (.agg #[.n ko1, .n uo1, .n ro1, .slice po1.A po1.na po1.ca, .slice po1.B po1.nb po1.cb]) (rec_part 6 5 ovC_len hxm1 (by decide) rfl) ?_
  have H10 := H9.ro 6 (S := So) (A := fun w => ∀ x ∈ ol, OvR w So x) (B := fun w => TyIn w So po1 (Ty.mk ko1 uo1 ro1 oo1 ao1)) (by kernel_rfl) (tys_at H9 6 (S := So) (l := ol) (by kernel_rfl) (List.mem_of_getElem? hxm1)).2 (tyI_loc _ _ _)
  refine Sx.c 0 [0, 10] H10 (fun Hp R hZ => (Of_c _) S3 bg gg2 So ko1 uo1 ro1 oo1 ao1 po1 w7 R Hp gg3 nn3 hg3 (fun S4 w8 G7 => hZ _ _ _ G7 fun H11 => ?_))
  refine Sx.l 9 10 H11 <| Sx.ia 0 a1 0 5 ks.length nc ha1 (at_lt hdA) <| Sx.fa 0 (a1.add (0 * 5)) 1 <| Sx.lo (c := 1) (t := 3) 0 [.n nadA] (.n nadA) (cells_sub (i := 1) (m := 1) (cel_at (Q := Q) (a := a1.add (0 * 5)) (n := 5) (cs := (Sx.nC kddA nadA nmdA nndA B1 ksdA cb1)) H11 11 (by kernel_rfl)) (by decide)) ?_
  refine Sx.c 0 [3, 0] H11 (fun Hp R hZ => same_c bc bg eA1 en ec1 (some ⟨wr1, 0, none⟩) on oc t1 nn2 ((nadA : Nat) : Int) S4 (⟨gg3, c1.env, c1.ops, c1.fk, c1.fa⟩ : Ck) w8 R Hp _ c4 hq4 (fun S5 w9 G8 => hZ _ _ _ G8 fun H12 => ?_))
  refine Sx.nz 2 (.code (Sx.ct 511 Tryz.f105)) [] [(0, .p bc), (2, .n row), (4, .p k1), (7, .p bg), (11, .n nn3)] fun b3 => ?_
  refine Sx.c 3 [1] H12 (fun Hp R hZ => Open_c S5 bg c4.g w9 R Hp gg4 nn4 hg4 (fun S6 w10 G9 => hZ _ _ _ G9 fun H13 => ?_))
  refine Sx.l 7 10 H13 <| Sx.nw 0 H13 fun k2 w11 H14 => ?_
  have H15 := Hs.toOwn (k := k2) (e := 9) (cs := #[.string nm]) H14 12 1 1 (by kernel_rfl) (by rfl) (by omega)
  have H16 := Hs.toStr H15 12 (e := 9) (n := 1) (cap := 1) (A := (some ⟨k2, 0, none⟩)) (l := [nm]) (by kernel_rfl)
  refine Sx.c 1 [0, 11] H16 (fun Hp R hZ => PutRow_c S6 bg gg4 (fun c => (Value.slice (some ⟨k2, 0, none⟩) (1) 1).ownBlock = some c) (some ⟨k2, 0, none⟩) 1 1 ([nm]) ((nn4 : Nat) : Int) (some nn4) w11 R Hp gg5 nn5 rfl rfl hg5 (fun S7 w12 G10 => hZ _ _ _ G10 fun H17 => ?_))
  refine Sx.l 9 10 H17 ?_
  refine Sx.c 0 [1, 0] H17 (fun Hp R hZ => row_c bc bg eA1 en ec1 (some ⟨wr1, 0, none⟩) on oc row nn5 ((na : Nat) : Int) S7 (⟨gg5, c4.env, c4.ops, c4.fk, c4.fa⟩ : Ck) w12 R Hp _ c7 hq7 (fun S8 w13 G11 => hZ _ _ _ G11 fun H18 => ?_))
  refine Sx.rt 9 [] H18 (.n nn3) ?_
  subst hL0
  exact Gx.ret_as (v' := .n nn3) (by rfl) (hK S8 eA1 ec1 _ (H18.pk [0, 0, 2, 2, 2, 2, 3]) (((he1.trans (same_keeps hq4).1.symm).trans (row_keeps hq7).1.symm)) (((ho1.trans (same_keeps hq4).2.symm).trans (row_keeps hq7).2.symm)))
end Go.Proofs.YtdmdecgoebnamaaGreat
