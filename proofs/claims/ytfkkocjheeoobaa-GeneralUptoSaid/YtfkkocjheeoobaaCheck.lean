/- The document's types of programs (chapter 4), in plain Lean. -/
import Derived.Test.YtfkkocjheeoobaaSw5
import Derived.Test.YtfkkocjheeoobaaGraph
set_option linter.unusedVariables false
set_option linter.unusedSimpArgs false
set_option linter.unusedVariables false
set_option linter.unusedSimpArgs false
namespace Go.Inf
open Go.Syn
/-- A name in sight. -/
structure Nam where
  nm : Nm
  t : Nat
  all : Bool
  tv : List Nat
  rv : List Nat
  opn : Bool
structure Opr where
  nm : Nm
  i : Ty
  o : Ty
  n : Nat
/-- How a checker stands. -/
structure Ck where
  g : G
  env : List Nam
  ops : List Opr
  fk : Nat
  fa : Int
def add (l : List Nat) (n : Nat) : List Nat := if l.contains n then l else l ++ [n]
def Ck.no (c : Ck) (kd : Nat) (at_ : Int) : Ck := if c.fk = 0 then { c with fk := kd, fa := at_ } else c
def Ck.same (k : Nat) (c : Ck) (m n : Nat) (at_ : Int) : Option Ck :=
  if c.fk ≠ 0 then some c else
  match Inf.same k c.g m n with
  | some (g, s) =>
    let c := { c with g := g }
    if s = false then some (c.no 8 at_) else
    match round k g m [] with
    | some (r, _) => if r then some (c.no 8 at_) else
      match round k g n [] with
      | some (r, _) => if r then some (c.no 8 at_) else some c
      | none => none
    | none => none
  | none => none
def Ck.row (k : Nat) (c : Ck) (m n : Nat) (at_ : Int) : Option Ck :=
  if c.fk ≠ 0 then some c else
  match sameRow k c.g m n with
  | some (g, s) => let c := { c with g := g }; if s then some c else some (c.no 9 at_)
  | none => none
def Ck.bigC (k : Nat) (c : Ck) (n : Nat) (at_ : Int) : Option Ck :=
  if c.fk ≠ 0 then some c else
  match parts k c.g n [] with
  | some (p, _) => if 300 < p then some (c.no 10 at_) else some c
  | none => none
def opAt (nm : Nm) : List Opr → Option Opr
  | [] => none
  | o :: r => if eqN o.nm nm then some o else opAt nm r
/-- The variables of a type. -/
def vars : Nat → G → Nat → (seen tv rv : List Nat) → Option (List Nat × List Nat × List Nat)
  | 0, _, _, _, _, _ => none
  | k + 1, g, n, seen, tv, rv => match find k g n with
    | some n =>
      if seen.contains n then some (seen, tv, rv) else
      let seen := seen ++ [n]
      match g.kind[n]? with
      | some 0 => some (seen, add tv n, rv)
      | some kd =>
        let arg (x : Option (Option Nat)) (s : List Nat × List Nat × List Nat) : Option (List Nat × List Nat × List Nat) := match x with
          | some none => some s
          | some (some m) => vars k g m s.1 s.2.1 s.2.2
          | none => none
        match arg g.a[n]? (seen, tv, rv) with
        | some s => match arg g.b[n]? s with
          | some s => if kd = 6 then (match g.row[n]? with
            | some r => match whole k g r [] with
              | some (_, 0) => some s
              | some (_, v + 1) => some (s.1, s.2.1, add s.2.2 (v + 1))
              | none => none
            | none => none) else some s
          | none => none
        | none => none
      | none => none
    | none => none
/-- The variables that stand in sight. -/
def inSight (k : Nat) (g : G) : List Nam → (seen tv rv : List Nat) → Option (List Nat × List Nat)
  | [], _, tv, rv => some (tv, rv)
  | x :: e, seen, tv, rv =>
    if x.all then
      match vars k g x.t [] [] [] with
      | some (_, a, b) => inSight k g e seen ((a.filter fun n => !x.tv.contains n).foldl add tv) ((b.filter fun n => !x.rv.contains n).foldl add rv)
      | none => none
    else match vars k g x.t seen tv rv with
      | some (seen, tv, rv) => inSight k g e seen tv rv
      | none => none
def Ck.general (k : Nat) (c : Ck) (nm : Nm) (n : Nat) : Option Nam :=
  match inSight k c.g c.env [] [] [], vars k c.g n [] [] [] with
  | some (it, ir), some (_, tv, rv) => some ⟨nm, n, true, tv.filter fun v => !it.contains v, rv.filter fun v => !ir.contains v, true⟩
  | _, _ => none
def Seen.get (s : Seen) (n : Nat) : Option Nat := match s with
  | [] => none
  | (m, v) :: r => if m = n then some v else Seen.get r n
/-- A general type with variables of its own. -/
def copied : Nat → G → Nat → Nam → (done rows : List (Nat × Nat)) → Option (G × Nat × List (Nat × Nat) × List (Nat × Nat))
  | 0, _, _, _, _, _ => none
  | k + 1, g, n, x, done, rows => match find k g n with
    | some n => match Seen.get done n with
      | some p => some (g, p, done, rows)
      | none => match g.kind[n]? with
        | some 0 => if x.tv.contains n then (match g.var with
            | some (g, m) => some (g, m, Seen.put done n m, rows)
            | none => none)
          else some (g, n, Seen.put done n n, rows)
        | some kd =>
          let arg (y : G → Option (Option Nat)) (s : G × Option Nat × List (Nat × Nat) × List (Nat × Nat)) : Option (G × Option Nat × List (Nat × Nat) × List (Nat × Nat)) := match y s.1 with
            | some none => some (s.1, none, s.2.2.1, s.2.2.2)
            | some (some m) => match copied k s.1 m x s.2.2.1 s.2.2.2 with
              | some (g, m, d, r) => some (g, some m, d, r)
              | none => none
            | none => none
          match arg (fun g => g.a[n]?) (g, none, done, rows) with
          | some (g, a, done, rows) => match arg (fun g => g.b[n]?) (g, none, done, rows) with
            | some (g, b, done, rows) =>
              let rw : Option (G × Nat × List (Nat × Nat)) := if kd = 6 then (match g.row[n]? with
                | some r => match whole k g r [] with
                  | some (ops, v) =>
                    let vv : Option (G × Nat × List (Nat × Nat)) := if v ≠ 0 && x.rv.contains v then (match Seen.get rows v with
                      | some p => some (g, p, rows)
                      | none => match g.opn with
                        | some (g, w) => some (g, w, Seen.put rows v w)
                        | none => none) else some (g, v, rows)
                    match vv with
                    | some (g, v, rows) => match g.putRow ops (some v) with
                      | some (g, q) => some (g, q, rows)
                      | none => none
                    | none => none
                  | none => none
                | none => none) else some (g, 0, rows)
              match rw with
              | some (g, q, rows) => match g.put kd a b q with
                | some (g, m) => some (g, m, Seen.put done n m, rows)
                | none => none
              | none => none
            | none => none
          | none => none
        | none => none
    | none => none
def opened : Nat → G → Nat → Option (G × Nat)
  | 0, _, _ => none
  | k + 1, g, n => match find k g n with
    | some n => match g.kind[n]? with
      | some 6 => match g.b[n]? with
        | some (some b) => match opened k g b with
          | some (g, b) => match g.row[n]? with
            | some r => match whole k g r [] with
              | some (ops, v) =>
                let vv : Option (G × Nat) := if v = 0 then g.opn else some (g, v)
                match vv with
                | some (g, v) => match g.putRow ops (some v) with
                  | some (g, q) => match g.a[n]? with
                    | some a => g.put 6 a (some b) q
                    | none => none
                  | none => none
                | none => none
              | none => none
            | none => none
          | none => none
        | _ => none
      | some _ => some (g, n)
      | none => none
    | none => none
def use (k : Nat) (g : G) (x : Nam) : Option (G × Nat) :=
  let c : Option (G × Nat) := if x.all then (match copied k g x.t x [] [] with
    | some (g, n, _, _) => some (g, n)
    | none => none) else some (g, x.t)
  match c with
  | some (g, n) => if x.opn then opened k g n else some (g, n)
  | none => none
/-- A written type. -/
def typ : Nat → Nd → Option Ty
  | 0, _ => none
  | k + 1, n =>
    let kid (i : Nat) : Option Ty := match n.ks[i]? with
      | some d => typ k d
      | none => none
    if n.k = 24 then some (.mk 1 0 0 [] []) else if n.k = 25 then some (.mk 2 0 0 [] []) else if n.k = 26 then some (.mk 3 0 0 [] [])
    else if n.k = 27 then (match kid 0 with
      | some a => some (.mk 4 0 0 [] [a])
      | none => none)
    else match kid 0, kid 1 with
      | some a, some b => if n.k = 28 then some (.mk 5 0 0 [] [a, b]) else if n.ks.length < 1000000000 then some (.mk 6 0 0 ((n.ks.drop 2).foldl (fun l d => putN l d.nm) []) [a, b]) else none
      | _, _ => none
def value (n : Nd) : Bool := n.k == 3 || n.k == 4 || n.k == 5 || n.k == 15 || n.k == 6 || n.k == 7
def findEnv (nm : Nm) (e : List Nam) : Option Nam := (e.reverse.find? fun x => eqN x.nm nm)
def Ck.with (c : Ck) (x : Nam) : Ck := { c with env := c.env ++ [x] }
def Ck.out (c : Ck) (n : Nat) : Ck := { c with env := c.env.take (c.env.length - n) }
def mono (nm : Nm) (t : Nat) : Nam := ⟨nm, t, false, [], [], false⟩
def Ck.put (c : Ck) (kd : Nat) (a b : Option Nat) (r : Nat) : Option (Ck × Nat) := match c.g.put kd a b r with
  | some (g, m) => some ({ c with g := g }, m)
  | none => none
def Ck.var (c : Ck) : Option (Ck × Nat) := c.put 0 none none 0
def Ck.putRow (c : Ck) (l : List Nm) (nx : Option Nat) : Option (Ck × Nat) := match c.g.putRow l nx with
  | some (g, m) => some ({ c with g := g }, m)
  | none => none
def Ck.opn (c : Ck) : Option (Ck × Nat) := c.putRow [] none
def Ck.ofT (k : Nat) (c : Ck) (t : Ty) : Option (Ck × Nat) := match Inf.ofT k c.g t with
  | some (g, m) => some ({ c with g := g }, m)
  | none => none
/-- The type that a let or a def binds. -/
def boundF (ex : Ck → Nd → Nat → Option (Ck × Nat)) (k : Nat) (c : Ck) (d : Nd) : Option (Ck × Nat) := do
  let (c, row) ← c.opn
  let d0 ← d.ks[0]?
  if d.n = 0 then ex c d0 row else
    let (c, v) ← c.var
    let (c, t) ← ex (c.with (mono d.nm v)) d0 row
    let c ← (c.out 1).same k v t d.a
    some (c, t)
def clausesF (ex : Ck → Nd → Nat → Option (Ck × Nat)) (k : Nat) (n : Nd) (row inner t b : Nat) : List Nd → Ck → Option Ck
  | [], c => some c
  | d :: r, c => do
    let o ← opAt d.nm c.ops
    let (c, i) ← c.ofT k o.i
    let (c, o) ← c.ofT k o.o
    let (c, f) ← c.put 6 (some o) (some b) row
    let (c, f) ← if n.n = 1 then c.put 6 (some o) (some t) inner else some (c, f)
    let p0 ← d.ks[0]?
    let p1 ← d.ks[1]?
    let p2 ← d.ks[2]?
    let c := (c.with ⟨p0.nm, i, false, [], [], true⟩).with ⟨p1.nm, f, false, [], [], true⟩
    let (c, e) ← ex c p2 row
    let c ← (c.out 2).same k e b p2.a
    clausesF ex k n row inner t b r c
def namesF (ops : List Opr) : List Nd → List Nm → Ck → Ck
  | [], _, c => c
  | d :: r, names, c =>
    let c := match opAt d.nm ops with
      | some _ => c
      | none => c.no 6 d.a
    let c := names.foldl (fun c s => if eqN s d.nm then c.no 7 d.a else c) c
    namesF ops r (names ++ [d.nm]) c
def expr : Nat → Ck → Nd → Nat → Option (Ck × Nat)
  | 0, _, _, _ => none
  | k + 1, c, n, row =>
    let ex := expr k
    if c.fk ≠ 0 then c.var else
    match n.k with
    | 3 => c.put 1 none none 0
    | 4 => c.put 2 none none 0
    | 5 => c.put 3 none none 0
    | 15 => do
      let (c, v) ← c.var
      c.put 4 (some v) none 0
    | 6 => match findEnv n.nm c.env with
      | some x => match use k c.g x with
        | some (g, m) => some ({ c with g := g }, m)
        | none => none
      | none => (c.no 6 n.a).var
    | 7 => do
      let (c, v) ← c.var
      let (c, r) ← c.opn
      let d ← n.ks[0]?
      let (c, b) ← ex (c.with (mono n.nm v)) d r
      (c.out 1).put 6 (some v) (some b) r
    | 8 => do
      let d0 ← n.ks[0]?
      let d1 ← n.ks[1]?
      let (c, f) ← ex c d0 row
      let (c, a) ← ex c d1 row
      let (c, p) ← c.var
      let (c, b) ← c.var
      let (c, q) ← c.opn
      let (c, t) ← c.put 6 (some p) (some b) q
      let c ← c.same k f t d0.a
      let c ← c.same k p a d1.a
      let c ← c.row k q row n.a
      some (c, b)
    | 9 => do
      let d0 ← n.ks[0]?
      let d1 ← n.ks[1]?
      let (c, x) ← if n.n = 1 then do
          let (c, t) ← boundF ex k c n
          let c ← c.bigC k t n.a
          let x ← c.general k n.nm t
          some (c, x)
        else do
          let (c, t) ← ex c d0 row
          let c ← c.bigC k t n.a
          if value d0 then do
            let x ← c.general k n.nm t
            some (c, x)
          else some (c, mono n.nm t)
      let (c, t) ← ex (c.with x) d1 row
      some (c.out 1, t)
    | 10 => do
      let d0 ← n.ks[0]?
      let d1 ← n.ks[1]?
      let (c, _) ← ex c d0 row
      ex c d1 row
    | 11 => do
      let d0 ← n.ks[0]?
      let d1 ← n.ks[1]?
      let d2 ← n.ks[2]?
      let (c, a) ← ex c d0 row
      let (c, b) ← c.put 2 none none 0
      let c ← c.same k a b d0.a
      let (c, t) ← ex c d1 row
      let (c, e) ← ex c d2 row
      let c ← c.same k e t d2.a
      some (c, t)
    | 12 => do
      let d0 ← n.ks[0]?
      let d1 ← n.ks[1]?
      let (c, a) ← ex c d0 row
      let (c, b) ← ex c d1 row
      c.put 5 (some a) (some b) 0
    | 16 => do
      let d0 ← n.ks[0]?
      let d1 ← n.ks[1]?
      let (c, a) ← ex c d0 row
      let (c, b) ← ex c d1 row
      let (c, l) ← c.put 4 (some a) none 0
      let c ← c.same k b l d1.a
      some (c, b)
    | 17 => do
      let d0 ← n.ks[0]?
      let d1 ← n.ks[1]?
      let p2 ← n.ks[2]?
      let p3 ← n.ks[3]?
      let d4 ← n.ks[4]?
      let (c, a) ← ex c d0 row
      let (c, v) ← c.var
      let (c, l) ← c.put 4 (some v) none 0
      let c ← c.same k a l d0.a
      let (c, t) ← ex c d1 row
      let (c, e) ← ex ((c.with (mono p2.nm v)).with (mono p3.nm l)) d4 row
      let c ← (c.out 2).same k e t d4.a
      some (c, t)
    | 18 => do
      let d0 ← n.ks[0]?
      let d1 ← n.ks[1]?
      let (c, a) ← ex c d0 row
      let (c, t) ← c.put 1 none none 0
      let c ← c.same k a t d0.a
      let (c, a) ← ex c d1 row
      let (c, t) ← c.put 1 none none 0
      let c ← c.same k a t d1.a
      if eqN n.nm ⟨#[60]⟩ || eqN n.nm ⟨#[61, 61]⟩ then c.put 2 none none 0 else c.put 1 none none 0
    | 19 => match opAt n.nm c.ops with
      | none => (c.no 6 n.a).var
      | some o => do
        let d0 ← n.ks[0]?
        let (c, a) ← ex c d0 row
        let (c, i) ← c.ofT k o.i
        let (c, r) ← c.ofT k o.o
        let c ← c.same k a i d0.a
        let (c, v) ← c.opn
        let (c, q) ← c.putRow [n.nm] (some v)
        let c ← c.row k row q n.a
        some (c, r)
    | 13 | 14 => do
      let d0 ← n.ks[0]?
      let (c, a) ← ex c d0 row
      let (c, x) ← c.var
      let (c, y) ← c.var
      let (c, p) ← c.put 5 (some x) (some y) 0
      let c ← c.same k a p d0.a
      some (c, if n.k = 13 then x else y)
    | _ => do
      let d0 ← n.ks[0]?
      let rt ← n.ks[1]?
      let rb ← rt.ks[0]?
      let cl := n.ks.drop 2
      let _ ← if n.ks.length < 1000000000 then some () else none
      let c := namesF c.ops cl [] c
      if c.fk ≠ 0 then c.var else
        let (c, inner) ← c.putRow (cl.map fun d => d.nm) (some row)
        let (c, t) ← ex c d0 inner
        let (c, b) ← ex (c.with (mono rt.nm t)) rb row
        let c ← clausesF ex k n row inner t b cl (c.out 1)
        some (c, b)
end Go.Inf
set_option linter.unusedVariables false
set_option linter.unusedSimpArgs false
namespace Go.Inf
open Go.RowKit Go.Sx
end Go.Inf
namespace Go.Inf
open Go.RowKit Go.Sx
end Go.Inf
namespace Go.Inf
open Go.RowKit Go.Sx Go.Syn
end Go.Inf
set_option linter.unusedVariables false
set_option linter.unusedSimpArgs false
namespace Go.Inf
open Go.RowKit Go.Sx
abbrev Kid := Tv × Ty × (Nat → Prop)
def kidC (l : List Kid) : List Value := l.flatMap fun k => tvC k.2.1 k.1
theorem tvC_len (t : Ty) (p : Tv) : (tvC t p).length = 5 := by cases t; rfl
theorem kidC_at {l : List Kid} {i : Nat} {k : Kid} (h : l[i]? = some k) : ((kidC l).drop (i * 5)).take 5 = tvC k.2.1 k.1 := by
  induction l generalizing i with
  | nil => simp at h
  | cons x l ih =>
    have e : kidC (x :: l) = tvC x.2.1 x.1 ++ kidC l := rfl
    cases i with
    | zero => simp at h; subst h; rw [e]; simp [tvC_len]
    | succ i =>
      rw [e, show (i + 1) * 5 = (tvC x.2.1 x.1).length + i * 5 by rw [tvC_len]; omega, List.drop_append]
      simp only [List.length_append, Nat.add_sub_cancel_left]
      rw [List.drop_of_length_le (by omega), List.nil_append]
      exact ih (by simpa using h)
end Go.Inf
namespace Go.Inf
open Go.RowKit Go.Sx
end Go.Inf
namespace Go.Inf
open Go.RowKit Go.Sx Go.Syn
end Go.Inf
set_option linter.unusedVariables false
set_option linter.unusedSimpArgs false
namespace Go.Slv
open Go.RowKit Go.Sx Go.Inf Go.Gx
def trem (k : Nat) (g : G) (n kd : Nat) : Nat → List Nat → List Ty → List Nm → Nat → Nams → Option (Ty × Nams)
  | _, [], ts, ops, row, L => some (.mk kd 0 row ops ts, L)
  | i, p :: r, ts, ops, row, L => match toldX k g p L with
    | some (t, L1) => if i = 0 ∧ kd = 6 then (match trow k g kd n L1 with
      | some (ops', c, L2) => trem k g n kd (i + 1) r (ts ++ [t]) ops' c L2
      | none => none) else trem k g n kd (i + 1) r (ts ++ [t]) ops row L1
    | none => none
theorem toldX_cases {k n : Nat} {g : G} {l l' : Nams} {t : Ty} {T R : List Nat} {pm : Pm} (hP : PR T R g pm) (h : toldX (k + 1) g n l = some (t, l')) : ∃ u kd, find k g n = some u ∧ g.kind[u]? = some kd ∧
    ((kd = 0 ∧ l.t.length < 1000000000 ∧ (.mk 0 (numb l.t u).2 0 [] [] : Ty) = t ∧ (⟨(numb l.t u).1, l.r⟩ : Nams) = l') ∨ (kd ≠ 0 ∧ trem k g u kd 0 (kidsN g u) [] [] 0 l = some (t, l'))) := by
  unfold toldX at h
  split at h <;> try contradiction
  rename_i u hu
  split at h <;> try contradiction
  · rename_i hk
    split at h <;> try contradiction
    rename_i hz
    cases h
    exact ⟨u, 0, hu, hk, .inl ⟨rfl, hz, rfl, rfl⟩⟩
  · rename_i kd hk0 hk
    have k0 : kd ≠ 0 := fun e => hk0 e
    refine ⟨u, kd, hu, hk, .inr ⟨k0, ?_⟩⟩
    unfold kidsN
    rcases hP.ar u kd hk with ⟨q4, q5, q6, ha, hb⟩ | ⟨rfl, p, ha, hb⟩ | ⟨q, p, p', ha, hb⟩
    · simp only [ha, hb, tkid, trow, if_neg q6] at h
      simp only [ha, hb, Option.getD_some, Option.toList_none, List.append_nil, trem]
      exact h
    · simp only [ha, hb, tkid, trow] at h
      simp only [ha, hb, Option.getD_some, Option.toList_some, Option.toList_none, List.append_nil, trem]
      split at h <;> try contradiction
      rename_i ta l1 h1
      split at h1 <;> try contradiction
      rename_i t1 l2 h2
      cases h1
      rw [h2]
      simp only [show ¬ ((4 : Nat) = 6) by decide, if_false] at h
      simpa [trem] using h
    · simp only [ha, hb, tkid] at h
      simp only [ha, hb, Option.getD_some, Option.toList_some, List.singleton_append, trem]
      split at h <;> try contradiction
      rename_i ta l1 h1
      split at h1 <;> try contradiction
      rename_i t1 l2 h2
      cases h1
      rw [h2]
      by_cases k6 : kd = 6
      · subst k6
        simp only [if_pos, and_self]
        split at h <;> try contradiction
        rename_i ops c l3 h3
        rw [h3]
        simp only
        split at h <;> try contradiction
        rename_i tb l4 h4
        split at h4 <;> try contradiction
        rename_i t5 l5 h5
        cases h4
        rw [h5]
        simpa using h
      · simp only [trow, if_neg k6] at h
        have : ¬ (0 = 0 ∧ kd = 6) := fun e => k6 e.2
        simp only [if_neg this]
        split at h <;> try contradiction
        rename_i tb l4 h4
        split at h4 <;> try contradiction
        rename_i t5 l5 h5
        cases h4
        rw [h5]
        have h1 : ¬ (0 + 1 = 0 ∧ kd = 6) := fun e => k6 e.2
        simp only [if_neg h1]
        simpa [k6] using h
section
variable {k n kd i row : Nat} {g : G} {K : List Nat} {ts : List Ty} {ops : List Nm} {L l' : Nams} {t : Ty}
theorem trem_end (h : trem k g n kd i (K.drop i) ts ops row L = some (t, l')) (hi : K.length ≤ i) : (.mk kd 0 row ops ts : Ty) = t ∧ L = l' := by
  rw [List.drop_of_length_le hi, trem] at h; cases h; exact ⟨rfl, rfl⟩
theorem trem_no (h6 : kd ≠ 6 ∨ i ≠ 0) (h : trem k g n kd i (K.drop i) ts ops row L = some (t, l')) : K.length ≤ i ∨ (i < K.length ∧ ∃ p t1 L1, K[i]? = some p ∧ toldX k g p L = some (t1, L1) ∧ trem k g n kd (i + 1) (K.drop (i + 1)) (ts ++ [t1]) ops row L1 = some (t, l')) := by
  rcases Nat.lt_or_ge i K.length with q | q
  · refine .inr ⟨q, ?_⟩
    rw [List.drop_eq_getElem_cons q, trem] at h
    split at h <;> try contradiction
    rename_i t1 L1 h1
    rw [if_neg (by omega)] at h
    exact ⟨K[i], t1, L1, by simp [q], h1, h⟩
  · exact .inl q
/-- The first part of an arrow, and its row. -/
theorem trem_row (hK : 0 < K.length) (h : trem k g n 6 0 (K.drop 0) ts ops row L = some (t, l')) : ∃ p t1 L1, K[0]? = some p ∧ toldX k g p L = some (t1, L1) ∧ ∃ r ops' v, g.row[n]? = some r ∧ whole k g r [] = some (ops', v) ∧
    ((v = 0 ∧ trem k g n 6 (0 + 1) (K.drop (0 + 1)) (ts ++ [t1]) ops' 0 L1 = some (t, l')) ∨ (v ≠ 0 ∧ L1.r.length < 1000000000 ∧ trem k g n 6 (0 + 1) (K.drop (0 + 1)) (ts ++ [t1]) ops' (numb L1.r v).2 ⟨L1.t, (numb L1.r v).1⟩ = some (t, l'))) := by
  rw [List.drop_eq_getElem_cons hK, trem] at h
  split at h <;> try contradiction
  rename_i t1 L1 h1
  rw [if_pos ⟨rfl, rfl⟩] at h
  unfold trow at h
  rw [if_pos rfl] at h
  refine ⟨K[0], t1, L1, by simp [hK], h1, ?_⟩
  cases hr : g.row[n]? with
  | none => rw [hr] at h; cases h
  | some r =>
    rw [hr] at h
    simp only at h
    cases hw : whole k g r [] with
    | none => rw [hw] at h; cases h
    | some p =>
      obtain ⟨ops', v⟩ := p
      rw [hw] at h
      refine ⟨r, ops', v, rfl, hw, ?_⟩
      rcases v with _ | v
      · exact .inl ⟨rfl, h⟩
      · simp only at h
        split at h
        · rename_i a b c q
          split at q
          · rename_i hz; cases q; exact .inr ⟨Nat.succ_ne_zero _, hz, h⟩
          · cases q
        · cases h
theorem six_kids {T R : List Nat} {pm : Pm} (hP : PR T R g pm) (hk : g.kind[n]? = some 6) : 0 < (kidsN g n).length := by
  unfold kidsN
  rcases hP.ar n 6 hk with ⟨_, _, q, _⟩ | ⟨q, _⟩ | ⟨_, p, p', ha, hb⟩
  · exact absurd rfl q
  · cases q
  · simp [ha]
end
/-! ### Types that are only read, some at once -/
abbrev Kd := Tv × Ty
def kC (l : List Kd) : List Value := l.flatMap fun k => tvC k.2 k.1
theorem kC_app (l : List Kd) (p : Tv) (t : Ty) : kC l ++ tvC t p = kC (l ++ [(p, t)]) := by simp [kC]
def tysI (S : Nat → Prop) (l : List Kd) : Sx.Item := .ro S (fun w => ∀ k ∈ l, TyIn w S k.1 k.2)
theorem tysI_loc (S : Nat → Prop) (l : List Kd) : Sx.Loc S (fun w => ∀ k ∈ l, TyIn w S k.1 k.2) := fun _ _ _ hk h k hm => (h k hm).keep hk
theorem tysI_nil {w : World} : (tysI (fun _ => False) []).holds w := ⟨fun _ h => (by cases h), fun _ h => h.elim, tysI_loc _ _⟩
section
variable {w0 w : World} {L0 L : List Sx.Item}
theorem tys_add (H : Hs w0 L0 w L) (I : List Nat) {S S2 : Nat → Prop} {l : List Kd} {p : Tv} {t : Ty} (hp : picked I L = some [tysI S l, tyI S2 p t]) : ∃ S', Hs w0 L0 w (tysI S' (l ++ [(p, t)]) :: rest I L) := by
  refine ⟨_, H.fz I hp (fun s => ?_) (tysI_loc _ _)⟩
  have h0 := s.all _ (.head _)
  have h1 := s.all _ (.tail _ (.head _))
  intro k hk
  rcases List.mem_append.1 hk with q | q
  · exact (h0.1 k q).mono fun c hc => ⟨_, .head _, hc⟩
  · rw [List.mem_singleton.1 q]; exact h1.1.mono fun c hc => ⟨_, .tail _ (.head _), hc⟩
theorem kC_kidC (l : List Kd) (S : Nat → Prop) : kC l = kidC (l.map fun k => ((k.1, k.2, S) : Kid)) := by
  unfold kC kidC
  rw [List.flatMap_map]
theorem ty_fin {e cap n na ca : Nat} {A B : Option Addr} {Sa S : Nat → Prop} {ops : List Nm} {l : List Kd} (H : Hs w0 L0 w L) (I : List Nat) (kd u row : Nat)
    (hp : picked I L = some [.own e 5 B cap n (kC l), strI Sa A ops, tysI S l]) (hn : na = ops.length) (hc : na ≤ ca ∧ ops.length < 1000000000 ∧ l.length ≤ 2) (hk : n = l.length) :
    ∃ S, Hs w0 L0 w (tyI S ⟨A, na, ca, B, n, cap⟩ (.mk kd u row ops (l.map (·.2))) :: rest I L) := by
  refine ⟨_, H.fz I hp (fun s => ?_) (tyI_loc _ _ _)⟩
  have h0 := s.all _ (.head _)
  have h1 := s.all _ (.tail _ (.head _))
  have h2 := s.all _ (.tail _ (.tail _ (.head _)))
  refine .mk _ (l.map (·.1)) (h1.1.mono fun c hcc => ⟨_, .tail _ (.head _), hcc⟩) hn (by simpa using hc) (by simpa using hk) (by simp) (fun i q t hq ht => ?_) (fun i q t hq ht => ?_)
  · rw [List.getElem?_map] at hq ht
    cases hx : l[i]? with
    | none => simp [hx] at hq
    | some k =>
      simp only [hx, Option.map_some, Option.some.injEq] at hq ht
      subst hq ht
      have hi : i < l.length := (List.getElem?_eq_some_iff.1 hx).1
      rcases h0.2 with ⟨_, hz⟩ | ⟨g, cap', cur, hv, _, hg, hnc, _, hcs, htk⟩
      · omega
      · injection hv with e1 e2 e3
        subst e1
        refine ⟨_, rfl, ⟨_, .head _, rfl⟩, ?_⟩
        have ea : (⟨g, 0, none⟩ : Addr).add (i * 5) = ⟨g, i * 5, none⟩ := by unfold Addr.add; split <;> simp_all
        have hxs : ((kC l).drop (i * 5)).take 5 = tvC k.2 k.1 := by
          rw [kC_kidC l (fun _ => True)]
          exact kidC_at (k := (k.1, k.2, fun _ => True)) (by rw [List.getElem?_map, hx]; rfl)
        rw [ea]
        refine ChangeShapes.cells?_of (Nat.zero_le _) (tvC_len _ _) (fun j hj => ?_)
        have hj5 : j < 5 := by simpa [tvC_len] using hj
        have hcell : cur[i * 5 + j]? = (tvC k.2 k.1)[j]? := by
          rw [← hxs, List.getElem?_take, if_pos hj5, List.getElem?_drop, ← htk, List.getElem?_take, if_pos (by omega)]
          simp
        rw [cell_of_row w g _ cur e (0, 0) hg, hcell]
  · rw [List.getElem?_map] at hq ht
    cases hx : l[i]? with
    | none => simp [hx] at hq
    | some k =>
      simp only [hx, Option.map_some, Option.some.injEq] at hq ht
      subst hq ht
      exact (h2.1 k (List.mem_of_getElem? hx)).mono fun c hcc => ⟨_, .tail _ (.tail _ (.head _)), hcc⟩
theorem NmOk.mono {n n' : Nat} {z : List Nat} {l : List (Int × Nat)} (h : NmOk n z l) (k : n ≤ n') : NmOk n' z l := ⟨fun p hp => by obtain ⟨i, a, b, c, d⟩ := h.k p hp; exact ⟨i, a, by omega, c, d⟩⟩
end
end Go.Slv
namespace Go.Slv
open Go.RowKit Go.Sx Go.Inf Go.Gx
section
variable {k n kd i row : Nat} {g : G} {K : List Nat} {ts : List Ty} {ops : List Nm} {L l' : Nams} {t : Ty}
theorem trem_csN (h6 : kd ≠ 6) (h : trem k g n kd i (K.drop i) ts ops row L = some (t, l')) : (i = 0 ∧ i < K.length ∧ ∃ p t1 L1, K[i]? = some p ∧ toldX k g p L = some (t1, L1) ∧ trem k g n kd (i + 1) (K.drop (i + 1)) (ts ++ [t1]) ops row L1 = some (t, l')) ∨ (i ≠ 0 ∧ i < K.length ∧ ∃ p t1 L1, K[i]? = some p ∧ toldX k g p L = some (t1, L1) ∧ trem k g n kd (i + 1) (K.drop (i + 1)) (ts ++ [t1]) ops row L1 = some (t, l')) ∨ K.length ≤ i := by
  rcases trem_no (.inl h6) h with q | q
  · exact .inr (.inr q)
  · by_cases e : i = 0
    · exact .inl ⟨e, q⟩
    · exact .inr (.inl ⟨e, q⟩)
theorem trem_cs6 (hK : 0 < K.length) (h : trem k g n 6 i (K.drop i) ts ops row L = some (t, l')) :
    (i = 0 ∧ i < K.length ∧ ∃ p t1 L1, K[i]? = some p ∧ toldX k g p L = some (t1, L1) ∧ ∃ r ops', g.row[n]? = some r ∧ whole k g r [] = some (ops', 0) ∧ trem k g n 6 (i + 1) (K.drop (i + 1)) (ts ++ [t1]) ops' 0 L1 = some (t, l')) ∨
    (i = 0 ∧ i < K.length ∧ ∃ p t1 L1, K[i]? = some p ∧ toldX k g p L = some (t1, L1) ∧ ∃ r ops' v, g.row[n]? = some r ∧ whole k g r [] = some (ops', v) ∧ v ≠ 0 ∧ L1.r.length < 1000000000 ∧ trem k g n 6 (i + 1) (K.drop (i + 1)) (ts ++ [t1]) ops' (numb L1.r v).2 ⟨L1.t, (numb L1.r v).1⟩ = some (t, l')) ∨
    (i ≠ 0 ∧ i < K.length ∧ ∃ p t1 L1, K[i]? = some p ∧ toldX k g p L = some (t1, L1) ∧ trem k g n 6 (i + 1) (K.drop (i + 1)) (ts ++ [t1]) ops row L1 = some (t, l')) ∨ K.length ≤ i := by
  by_cases e : i = 0
  · subst e
    obtain ⟨p, t1, L1, h1, h2, r, ops', v, h3, h4, h5⟩ := trem_row hK h
    rcases h5 with ⟨rfl, h5⟩ | ⟨hv, hz, h5⟩
    · exact .inl ⟨rfl, hK, p, t1, L1, h1, h2, r, ops', h3, h4, h5⟩
    · exact .inr (.inl ⟨rfl, hK, p, t1, L1, h1, h2, r, ops', v, h3, h4, hv, hz, h5⟩)
  · rcases trem_no (.inr e) h with q | q
    · exact .inr (.inr (.inr q))
    · exact .inr (.inr (.inl ⟨e, q⟩))
theorem ksn_map (kl : List Kd) (p : Tv) (t : Ty) : kl.map (·.2) ++ [t] = (kl ++ [(p, t)]).map (·.2) := by simp
end
end Go.Slv
set_option linter.unusedVariables false
set_option linter.unusedSimpArgs false
namespace Go.Proofs.Ytfkkocjheeoobaa
open Go.RowKit Go.Sx Go.Inf Go.Slv
attribute [local irreducible] Go.wpOps Go.Code.wp Go.wpOp Go.wpAnyH Go.Calls Go.Sx.Goal
set_option maxRecDepth 20000
theorem Parts_p (S : Nat → Prop) (Z : List Slot) (T R : List Nat) (g : G) (k n ba : Nat) (w : World) (K : Ending → World → Prop) (H0 : Sp w [PI S Z T R g]) (c : Nat) (s' : Seen) (fl' : Bool) (hba : T[n]? = some ba) (hf : cnt k g n [] false = some (c, s', fl')) (hK : ∀ (S' : Nat → Prop) w', Hs w [PI S Z T R g] w' [PI S' Z T R g] → K (.returned (.tuple #[.int .i64 (c : Int), .bool fl'])) w') :
    Calls Try.prog 14 #[.pointer (some ⟨ba, 0, none⟩)] w K := by
  obtain ⟨L0, hL0, H⟩ : ∃ L0, L0 = [PI S Z T R g] ∧ Hs w L0 w [PI S Z T R g] := ⟨_, rfl, Hs.refl H0⟩
  refine Sx.en (vs := [.pointer (some ⟨ba, 0, none⟩)]) 13 Try.func14 ?_
  refine Sx.nw 3 H fun k1 w1 H1 => ?_
  refine Sx.nw 4 H1 fun k2 w2 H2 => ?_
  have H3 := pk_new (bt := k2) (i := 2) H2 (by kernel_rfl)
  refine Sx.nw 0 H3 fun k3 w3 H4 => ?_
  refine Sx.s 0 3 H4 fun w4 H5 => ?_
  refine Sx.nw 4 H5 fun k4 w5 H6 => ?_
  refine Sx.s 5 4 H6 fun w6 H7 => ?_
  refine Sx.l 4 4 H7 ?_
  refine Sx.c 1 [0, 1, 1, 0, 0] H7 (fun Hp1 R1 hR1 => (count_p _) S Z T R g n ba k3 k1 k4 k2 ([]) false w6 R1 Hp1 c s' fl' hba (sn0 _) hf (fun S1 w7 G1 hsn1 => hR1 _ _ _ G1 fun H8 => ?_))
  refine Sx.dr 4 H8 [3] [3] (LJ := [.blk k1 (.cells #[.bool fl'] 4)]) (by kernel_rfl) fun w8 H9 => ?_
  refine Sx.tk [(0, none), (1, some (0, [3])), (2, none)] (fun _ => (H9.sub [3] (by kernel_rfl))) ?_
  refine Sx.nmx ?_
  intro zx1
  refine Sx.on 3 ?_
  refine Sx.s 0 3 H9 fun w9 H10 => ?_
  refine Sx.bk (x := zx1) 3 (fun h => Sx.nope h (by kernel_rfl)) ?_
  refine Sx.dn ?_
  refine Sx.rt 2 [3] H10 (.tuple #[.int .i64 ((c : Nat) : Int), .bool fl']) ?_
  subst hL0
  exact hK S1 _ (H10.pick [0] (by kernel_rfl))
theorem NewNamer_p  (w : World) (K : Ending → World → Prop) (H0 : Sp w []) (hK : ∀ (nb : Nat) (bt : Nat) (br : Nat) w', Hs w [] w' [.blk nb (.cells #[.map (some bt), .map (some br)] 89), pkI bt [], pkI br []] → K (.returned (bp nb)) w') :
    Calls Try.prog 15 #[] w K := by
  obtain ⟨L0, hL0, H⟩ : ∃ L0, L0 = [] ∧ Hs w L0 w [] := ⟨_, rfl, Hs.refl H0⟩
  refine Sx.en (vs := []) 5 Try.func15 ?_
  refine Sx.nw 7 H fun k1 w1 H1 => ?_
  have H2 := pk_new (bt := k1) (i := 0) H1 (by kernel_rfl)
  refine Sx.nw 0 H2 fun k2 w2 H3 => ?_
  have H4 := pk_new (bt := k2) (i := 1) H3 (by kernel_rfl)
  refine Sx.nw 1 H4 fun k3 w3 H5 => ?_
  refine Sx.rt 4 [] H5 (.pointer (some ⟨k3, 0, none⟩)) ?_
  subst hL0
  exact hK k3 k1 k2 _ (H5.pick (a := [.blk k3 (.cells #[.map (some k1), .map (some k2)] 89), pkI k1 [], pkI k2 []]) [2, 0, 0] (by kernel_rfl))
set_option maxHeartbeats 16000000 in
theorem Told_p_s (k : Nat) (ih : ∀ (S : Nat → Prop) (Z : List Slot) (T R : List Nat) (g : G) (n ba nb bt br : Nat) (l : Nams) (w : World) (K : Ending → World → Prop) (H0 : Sp w [PI S Z T R g, .blk nb (.cells #[.map (some bt), .map (some br)] 89), pkI bt (kvB T l.t), pkI br (kvB R l.r)]) (t : Ty) (lf : Nams) (hba : T[n]? = some ba) (hnt : NmOk T.length [] l.t) (hnr : NmOk R.length [0] l.r) (hf : toldX k g n l = some (t, lf)) (hK : ∀ (S' : Nat → Prop) (Sy : Nat → Prop) (p : Tv) w', Hs w [PI S Z T R g, .blk nb (.cells #[.map (some bt), .map (some br)] 89), pkI bt (kvB T l.t), pkI br (kvB R l.r)] w' [PI S' Z T R g, .blk nb (.cells #[.map (some bt), .map (some br)] 89), pkI bt (kvB T lf.t), pkI br (kvB R lf.r), tyI Sy p t] → (NmOk T.length [] lf.t) → (NmOk R.length [0] lf.r) → K (.returned (.agg (tvC t p).toArray)) w'),
    Calls Try.prog 16 #[.pointer (some ⟨nb, 0, none⟩), .pointer (some ⟨ba, 0, none⟩)] w K) (S : Nat → Prop) (Z : List Slot) (T R : List Nat) (g : G) (n ba nb bt br : Nat) (l : Nams) (w : World) (K : Ending → World → Prop) (H0 : Sp w [PI S Z T R g, .blk nb (.cells #[.map (some bt), .map (some br)] 89), pkI bt (kvB T l.t), pkI br (kvB R l.r)]) (t : Ty) (lf : Nams) (hba : T[n]? = some ba) (hnt : NmOk T.length [] l.t) (hnr : NmOk R.length [0] l.r) (hf : toldX (k + 1) g n l = some (t, lf)) (hK : ∀ (S' : Nat → Prop) (Sy : Nat → Prop) (p : Tv) w', Hs w [PI S Z T R g, .blk nb (.cells #[.map (some bt), .map (some br)] 89), pkI bt (kvB T l.t), pkI br (kvB R l.r)] w' [PI S' Z T R g, .blk nb (.cells #[.map (some bt), .map (some br)] 89), pkI bt (kvB T lf.t), pkI br (kvB R lf.r), tyI Sy p t] → (NmOk T.length [] lf.t) → (NmOk R.length [0] lf.r) → K (.returned (.agg (tvC t p).toArray)) w') :
    Calls Try.prog 16 #[.pointer (some ⟨nb, 0, none⟩), .pointer (some ⟨ba, 0, none⟩)] w K := by
  obtain ⟨L0, hL0, H⟩ : ∃ L0, L0 = [PI S Z T R g, .blk nb (.cells #[.map (some bt), .map (some br)] 89), pkI bt (kvB T l.t), pkI br (kvB R l.r)] ∧ Hs w L0 w [PI S Z T R g, .blk nb (.cells #[.map (some bt), .map (some br)] 89), pkI bt (kvB T l.t), pkI br (kvB R l.r)] := ⟨_, rfl, Hs.refl H0⟩
  refine Sx.en (vs := [.pointer (some ⟨nb, 0, none⟩), .pointer (some ⟨ba, 0, none⟩)]) 78 Try.func16 ?_
  obtain ⟨_, hP, _, _⟩ := P_open H 0 (S := S) (Z := Z) (T := T) (R := R) (g := g) (by kernel_rfl)
  obtain ⟨u, kd, hm, hkd, h5⟩ := toldX_cases hP hf
  obtain ⟨be1, hbe1⟩ := root_T hP hm
  have hu := (List.getElem?_eq_some_iff.1 hkd).1
  have hRl : R.length = g.ops.length := by rw [hP.lR, hP.lo]
  have h6 : (kd = 0 ∧ l.t.length < 1000000000 ∧ (.mk 0 (numb l.t u).2 0 [] [] : Ty) = t ∧ (⟨(numb l.t u).1, l.r⟩ : Nams) = lf) ∨ (kd ≠ 0 ∧ kd ≠ 6 ∧ trem k g u kd 0 (kidsN g u) [] [] 0 l = some (t, lf)) ∨ (kd = 6 ∧ 0 < (kidsN g u).length ∧ trem k g u kd 0 (kidsN g u) [] [] 0 l = some (t, lf)) := by
    rcases h5 with h | ⟨h0, h⟩
    · exact .inl h
    · by_cases q : kd = 6
      · exact .inr (.inr ⟨q, six_kids hP (by rw [hkd, q]), h⟩)
      · exact .inr (.inl ⟨h0, q, h⟩)
  rcases h6 with ⟨rfl, hlz, rfl, rfl⟩ | ⟨hk0, hk6, hx⟩ | ⟨rfl, hkp, hx⟩
  · skip
    refine Sx.nw 2 H fun k1 w1 H1 => ?_
    refine Sx.c 5 [0] H1 (fun Hp1 R1 hR1 => Now_p S Z T R g n u ba be1 w1 R1 Hp1 _ hba hm hbe1 (fun S1 w2 G1 => hR1 _ _ _ G1 fun H2 => ?_))
    obtain ⟨pm1, hpm1, hzpm1, H3⟩ := P_open H2 0 (S := S1) (Z := Z) (T := T) (R := R) (g := g) (by kernel_rfl)
    obtain ⟨io1, hio1⟩ := oB_at (T := T) (m := pm1) (n := u)
    obtain ⟨rb1, hrb1⟩ : ∃ rb, rowB R g u = rb := ⟨_, rfl⟩
    have hnl1 := (List.getElem?_eq_some_iff.1 hkd).1
    obtain ⟨nA1, nn1, nc1, has1, hna1⟩ := P_nd hpm1 (H3.at 1 (by kernel_rfl)) (n := u) hnl1
    have H4 := bank_take (ty := 78) (T := T) (C := (ndC T R g pm1)) (hs := []) H3 0 (by kernel_rfl) (n := u) (b := be1) hbe1 nz0 (ndC_eq hkd has1 (rb := rb1) hrb1 (io := io1) hio1)
    refine Sx.l 8 0 H4 ?_
    refine Sx.nw 1 H4 fun k2 w3 H5 => ?_
    refine Sx.s 0 9 H5 fun w4 H6 => ?_
    refine Sx.l 8 0 H6 ?_
    refine Sx.v 0 (.bool (((0 : Nat) : Int) == (0 : Int))) (.bool true) (rfl) ?_
    refine Sx.l 8 5 H6 ?_
    have H7 := bank_put (ty := 78) (T := T) (C := (ndC T R g pm1)) (C' := (ndC T R g pm1)) (hs := []) H6 [0, 0] (by kernel_rfl) (n := u) (b := be1) hbe1 nz0 (ndC_eq hkd has1 (rb := rb1) hrb1 (io := io1) hio1) (fun _ _ _ => rfl)
    obtain ⟨S2, H8⟩ := P_close H7 [0, 0, 0, 0] (Z := Z) (T := T) (R := R) (g := g) pm1 hpm1 hzpm1 (by kernel_rfl)
    refine Sx.c 1 [0, 1] H8 (fun Hp2 R2 hR2 => numberTy_p S2 Z T R g bt be1 u l.t w4 R2 Hp2 hbe1 hnt hlz (fun S3 w5 G2 => hR2 _ _ _ G2 fun H9 => ?_))
    refine Sx.s 1 5 H9 fun w6 H10 => ?_
    refine Sx.l 4 5 H10 ?_
    refine Sx.s 0 4 H10 fun w7 H11 => ?_
    refine Sx.rt 4 [4] H11 (.agg #[.int .i64 0, .int .i64 (((numb l.t u).2 : Nat) : Int), .int .i64 0, .slice none 0 0, .slice none 0 0]) ?_
    have H12 := H11.add (Gx.Ext.refl _) (it := .own 32 5 none 0 0 []) (World.ownsRow_nil _ _ _ _) (fun _ h => by cases h)
    have H13 := H12.add (Gx.Ext.refl _) (it := strI (fun _ => False) none []) strI_nil (fun _ h => h.elim)
    have H14 := H13.add (Gx.Ext.refl _) (it := tysI (fun _ => False) []) tysI_nil (fun _ h => h.elim)
    obtain ⟨S4, H15⟩ := Slv.ty_fin (e := 32) (cap := 0) (n := 0) (A := none) (B := none) (Sa := (fun _ => False)) (S := (fun _ => False)) (ops := ([])) (l := ([])) (na := 0) (ca := 0) H14 [6, 6, 6] 0 (numb l.t u).2 0 (by kernel_rfl) rfl ⟨Nat.le_refl _, by decide, by decide⟩ rfl
    subst hL0
    exact Gx.ret_as (by rfl) (hK S3 S4 ⟨none, 0, 0, none, 0, 0⟩ _ (H15.pick (a := [PI S3 Z T R g, .blk nb (.cells #[.map (some bt), .map (some br)] 89), pkI bt (kvB T _), pkI br (kvB R _), tyI S4 _ _]) [1, 2, 1, 1, 0] (by kernel_rfl)) (hnt.numb (List.getElem?_eq_some_iff.1 hbe1).1 nz0) hnr)
  · skip
    refine Sx.nw 2 H fun k3 w8 H16 => ?_
    refine Sx.c 5 [0] H16 (fun Hp3 R3 hR3 => Now_p S Z T R g n u ba be1 w8 R3 Hp3 _ hba hm hbe1 (fun S5 w9 G3 => hR3 _ _ _ G3 fun H17 => ?_))
    obtain ⟨pm2, hpm2, hzpm2, H18⟩ := P_open H17 0 (S := S5) (Z := Z) (T := T) (R := R) (g := g) (by kernel_rfl)
    obtain ⟨io2, hio2⟩ := oB_at (T := T) (m := pm2) (n := u)
    obtain ⟨rb2, hrb2⟩ : ∃ rb, rowB R g u = rb := ⟨_, rfl⟩
    have hnl2 := (List.getElem?_eq_some_iff.1 hkd).1
    obtain ⟨nA2, nn2, nc2, has2, hna2⟩ := P_nd hpm2 (H18.at 1 (by kernel_rfl)) (n := u) hnl2
    have H19 := bank_take (ty := 78) (T := T) (C := (ndC T R g pm2)) (hs := []) H18 0 (by kernel_rfl) (n := u) (b := be1) hbe1 nz0 (ndC_eq hkd has2 (rb := rb2) hrb2 (io := io2) hio2)
    refine Sx.l 8 0 H19 ?_
    refine Sx.nw 1 H19 fun k4 w10 H20 => ?_
    refine Sx.s 0 9 H20 fun w11 H21 => ?_
    refine Sx.l 8 0 H21 ?_
    refine Sx.v 0 (.bool (((kd : Nat) : Int) == (0 : Int))) (.bool false) (congrArg Value.bool (ne0 hk0)) ?_
    refine Sx.l 11 0 H21 ?_
    have hZ : Z[u]? = some (nA2, nn2, nc2) := by rw [← hzpm2]; exact has2
    have hlk : nn2 = (kidsN g u).length := hna2.trans ksO_len
    have hk2 := kidsN_le g u
    have H22 := bank_put (ty := 78) (T := T) (C := (ndC T R g pm2)) (C' := (ndC T R g pm2)) (hs := []) H21 [0, 0] (by kernel_rfl) (n := u) (b := be1) hbe1 nz0 (ndC_eq hkd has2 (rb := rb2) hrb2 (io := io2) hio2) (fun _ _ _ => rfl)
    obtain ⟨S6, H23⟩ := P_close H22 [0, 0, 0, 0] (Z := Z) (T := T) (R := R) (g := g) pm2 hpm2 hzpm2 (by kernel_rfl)
    have H24 := H23.add (Gx.Ext.refl _) (it := .own 32 5 none 0 0 []) (World.ownsRow_nil _ _ _ _) (fun _ h => by cases h)
    have H25 := H24.add (Gx.Ext.refl _) (it := strI (fun _ => False) none []) strI_nil (fun _ h => h.elim)
    have H26 := H25.add (Gx.Ext.refl _) (it := tysI (fun _ => False) []) tysI_nil (fun _ h => h.elim)
    have H27 := H26.pick (a := [PI S6 Z T R g, .blk nb (.cells #[.map (some bt), .map (some br)] 89), pkI bt (kvB T l.t), pkI br (kvB R l.r), .blk k3 (.cells #[.int .i64 0, .int .i64 0, .int .i64 0, .slice none 0 0, .slice none 0 0] 32), .blk k4 (.cells #[.int .i64 ((kd : Nat) : Int), .int .i64 0, .int .i64 0, .slice none 0 0, .slice none 0 0] 32), .own 32 5 none 0 0 (kC []), strI (fun _ => False) none ([]), Slv.tysI (fun _ => False) ([])]) [0, 0, 0, 0, 0, 0, 0, 0, 0] (by kernel_rfl)
    refine Sx.lp 5 (fun z l' w' => ∃ (i : Nat) (L : Nams) (Aop : Option Addr) (nop : Nat) (cop : Nat) (So : Nat → Prop) (ops : List Nm) (row : Nat) (A5 : Option Addr) (c5 : Nat) (n5 : Nat) (kl : List Kd) (Sk : Nat → Prop) (Si : Nat → Prop), l' = [(0, .pointer (some ⟨nb, 0, none⟩)), (1, .pointer (some ⟨be1, 0, none⟩)), (4, .pointer (some ⟨k3, 0, none⟩)), (5, .pointer (some ⟨k4, 0, none⟩)), (33, .slice nA2 nn2 nc2), (34, .int .i64 ((nn2 : Nat) : Int)), (35, .int .i64 ((i : Nat) : Int))] ∧ z = nn2 - i ∧ Hs w L0 w' [PI Si Z T R g, .blk nb (.cells #[.map (some bt), .map (some br)] 89), pkI bt (kvB T L.t), pkI br (kvB R L.r), .blk k3 (.cells #[.int .i64 0, .int .i64 0, .int .i64 0, .slice none 0 0, .slice none 0 0] 32), .blk k4 (.cells #[.int .i64 ((kd : Nat) : Int), .int .i64 0, .int .i64 ((row : Nat) : Int), .slice Aop nop cop, .slice A5 n5 c5] 32), .own 32 5 A5 c5 n5 (kC kl), strI So Aop ops, Slv.tysI Sk kl] ∧ (trem k g u kd i ((kidsN g u).drop i) (kl.map (·.2)) ops row L = some (t, lf)) ∧ (n5 = kl.length) ∧ (kl.length = i) ∧ (nop = ops.length ∧ nop ≤ cop ∧ ops.length < 1000000000) ∧ (NmOk T.length [] L.t) ∧ (NmOk R.length [0] L.r) ∧ (i = 0 → row = 0) ∧ (i ≤ (kidsN g u).length)) _ [(0, .pointer (some ⟨nb, 0, none⟩)), (1, .pointer (some ⟨be1, 0, none⟩)), (4, .pointer (some ⟨k3, 0, none⟩)), (5, .pointer (some ⟨k4, 0, none⟩)), (33, .slice nA2 nn2 nc2), (34, .int .i64 ((nn2 : Nat) : Int)), (35, .int .i64 ((0 : Nat) : Int))] ⟨0, l, none, 0, 0, (fun _ => False), [], 0, none, 0, 0, [], (fun _ => False), S6, rfl, rfl, H27, hx, rfl, rfl, ⟨rfl, Nat.le_refl _, by decide⟩, hnt, hnr, (fun _ => rfl), (Nat.zero_le _)⟩ (fun b1 z1 l1 w12 hI1 K1 hK1 => ?_)
    obtain ⟨i, L, Aop, nop, cop, So, ops, row, A5, c5, n5, kl, Sk, Si, rfl, rfl, H28, htr, hn5, hkl, hop, hnt, hnr, hrow, hil⟩ := hI1
    rcases trem_csN hk6 htr with ⟨hi0, hi, p, ⟨k1, u1, r1, o1, a1⟩, L1, hp, htp, htn⟩ | ⟨hi0, hi, p, ⟨k1, u1, r1, o1, a1⟩, L1, hp, htp, htn⟩ | hi
    · skip
      obtain rfl := hrow hi0
      subst hi0
      refine Sx.br 6 (decide ((0 : Int) < ((nn2 : Nat) : Int))) (fun h_c36 => ?_) (fun h_c36 => ?_)
      · skip
        have p_c36 := of_decide_eq_true h_c36
        obtain ⟨pm3, hpm3, hzpm3, H29⟩ := P_open H28 0 (S := Si) (Z := Z) (T := T) (R := R) (g := g) (by kernel_rfl)
        have has3 : pm3.as[u]? = some (nA2, nn2, nc2) := by rw [hzpm3]; exact hZ
        obtain ⟨bp1, hbp1⟩ := hpm3.kid hp
        obtain ⟨ax, hax, hcx⟩ := kid_at (H29.at 1 (it := kidsI pm3.S1 pm3.as (ksL T g)) (by kernel_rfl)) has3 hu hp hbp1
        refine Sx.ia 7 ax 0 1 nn2 nc2 hax (by omega) ?_
        refine Sx.lo (c := 1) (t := 52) 0 [.pointer (some ⟨bp1, 0, none⟩)] (.pointer (some ⟨bp1, 0, none⟩)) hcx ?_
        refine Sx.dr 5 H29 [8] [8] (LJ := [.blk k4 (.cells #[.int .i64 ((kd : Nat) : Int), .int .i64 0, .int .i64 ((0 : Nat) : Int), .slice Aop nop cop, .slice A5 n5 c5] 32)]) (by kernel_rfl) fun w13 H30 => ?_
        refine Sx.tk [(0, none), (1, some (0, [6, 7, 8])), (2, none), (3, none)] (fun _ => (H30.sub [8] (by kernel_rfl))) ?_
        refine Sx.nmx ?_
        intro zx1
        refine Sx.on 4 ?_
        obtain ⟨S7, H31⟩ := P_close H30 [0, 0, 0, 0] (Z := Z) (T := T) (R := R) (g := g) pm3 hpm3 hzpm3 (by kernel_rfl)
        refine Sx.c 0 [0, 0, 0, 0] H31 (fun Hp4 R4 hR4 => ih S7 Z T R g p bp1 nb bt br L w13 R4 Hp4 (Ty.mk k1 u1 r1 o1 a1) L1 hbp1 hnt hnr htp (fun S8 Sy1 tp1 w14 G4 hnt1 hnr1 => hR4 _ _ _ G4 fun H32 => ?_))
        refine Sx.bk (x := zx1) 4 (fun _ => (H32.sub [6] (by kernel_rfl))) ?_
        refine Sx.nmx ?_
        intro zx2
        refine Sx.on 5 ?_
        refine Sx.nw 0 H32 fun k5 w15 H33 => ?_
        refine Sx.bk (x := zx2) 5 (fun _ => (H33.sub [6] (by kernel_rfl))) ?_
        refine Sx.nmx ?_
        intro zx3
        refine Sx.on 6 ?_
        refine Sx.ap 0 7 10 72 1 0 32 5 23 1 k5 A5 c5 n5 (kC kl) [.int .i64 ((k1 : Nat) : Int), .int .i64 ((u1 : Nat) : Int), .int .i64 ((r1 : Nat) : Int), .slice tp1.A tp1.na tp1.ca, .slice tp1.B tp1.nb tp1.cb] H33 (by omega) (by omega) (kC_app kl tp1 (Ty.mk k1 u1 r1 o1 a1)) fun A1 cap1 w16 H34 => ?_
        refine Sx.bk (x := zx3) 6 (fun _ => (H34.sub [6] (by kernel_rfl))) ?_
        refine Sx.tk [(7, none)] (fun _ => (H34.sub [6] (by kernel_rfl))) ?_
        refine Sx.nmx ?_
        intro zx4
        refine Sx.on 8 ?_
        refine Sx.s 0 6 H34 fun w17 H35 => ?_
        refine Sx.bk (x := zx4) 8 (fun h => Sx.nope h (by kernel_rfl)) ?_
        refine Sx.dn ?_
        obtain ⟨pm4, hpm4, hzpm4, H36⟩ := P_open H35 0 (S := S8) (Z := Z) (T := T) (R := R) (g := g) (by kernel_rfl)
        obtain ⟨io3, hio3⟩ := oB_at (T := T) (m := pm4) (n := u)
        have hnl3 := (List.getElem?_eq_some_iff.1 hkd).1
        obtain ⟨nA3, nn3, nc3, has4, hna3⟩ := P_nd hpm4 (H36.at 1 (by kernel_rfl)) (n := u) hnl3
        have H37 := bank_take (ty := 78) (T := T) (C := (ndC T R g pm4)) (hs := []) H36 0 (by kernel_rfl) (n := u) (b := be1) hbe1 nz0 (ndC_eq hkd has4 (rb := none) (rowB_no hkd hk6) (io := io3) hio3)
        refine Sx.v 4 (.bool ((0 : Int) == (0 : Int))) (.bool true) (rfl) ?_
        refine Sx.l 4 0 H37 ?_
        have H38 := bank_put (ty := 78) (T := T) (C := (ndC T R g pm4)) (C' := (ndC T R g pm4)) (hs := []) H37 [0, 0] (by kernel_rfl) (n := u) (b := be1) hbe1 nz0 (ndC_eq hkd has4 (rb := none) (rowB_no hkd hk6) (io := io3) hio3) (fun _ _ _ => rfl)
        obtain ⟨S9, H39⟩ := P_close H38 [0, 0, 0, 0] (Z := Z) (T := T) (R := R) (g := g) pm4 hpm4 hzpm4 (by kernel_rfl)
        obtain ⟨S10, H40⟩ := tys_add H39 [9, 4] (S := Sk) (S2 := Sy1) (l := kl) (p := tp1) (t := Ty.mk k1 u1 r1 o1 a1) (by kernel_rfl)
        have H41 := H40.pick (a := [PI S9 Z T R g, .blk nb (.cells #[.map (some bt), .map (some br)] 89), pkI bt (kvB T L1.t), pkI br (kvB R L1.r), .blk k3 (.cells #[.int .i64 0, .int .i64 0, .int .i64 0, .slice none 0 0, .slice none 0 0] 32), .blk k4 (.cells #[.int .i64 ((kd : Nat) : Int), .int .i64 0, .int .i64 ((0 : Nat) : Int), .slice Aop nop cop, .slice A1 (n5 + 1) cap1] 32), .own 32 5 A1 cap1 (n5 + 1) (kC (kl ++ [(tp1, Ty.mk k1 u1 r1 o1 a1)])), strI So Aop ops, Slv.tysI S10 (kl ++ [(tp1, Ty.mk k1 u1 r1 o1 a1)])]) [1, 1, 1, 1, 1, 1, 1, 1, 0] (by kernel_rfl)
        exact Sx.to 12 [(0, .pointer (some ⟨nb, 0, none⟩)), (1, .pointer (some ⟨be1, 0, none⟩)), (4, .pointer (some ⟨k3, 0, none⟩)), (5, .pointer (some ⟨k4, 0, none⟩)), (33, .slice nA2 nn2 nc2), (34, .int .i64 ((nn2 : Nat) : Int)), (35, .int .i64 (((0 + 1) : Nat) : Int))] (hK1 _ _ _ _ (by omega) ⟨(0 + 1), L1, Aop, nop, cop, So, ops, 0, A1, cap1, (n5 + 1), (kl ++ [(tp1, Ty.mk k1 u1 r1 o1 a1)]), S10, S9, rfl, rfl, H41, (by rw [← ksn_map]; exact htn), (by rw [List.length_append, hn5]; rfl), (by rw [List.length_append, hkl]; rfl), hop, hnt1, hnr1, (fun h => absurd h (Nat.succ_ne_zero _)), hi⟩)
      have p_c36 := of_decide_eq_false h_c36
      exfalso; omega
    · skip
      refine Sx.br 6 (decide (((i : Nat) : Int) < ((nn2 : Nat) : Int))) (fun h_c36 => ?_) (fun h_c36 => ?_)
      · skip
        have p_c36 := of_decide_eq_true h_c36
        obtain ⟨pm5, hpm5, hzpm5, H42⟩ := P_open H28 0 (S := Si) (Z := Z) (T := T) (R := R) (g := g) (by kernel_rfl)
        have has5 : pm5.as[u]? = some (nA2, nn2, nc2) := by rw [hzpm5]; exact hZ
        obtain ⟨bp1, hbp1⟩ := hpm5.kid hp
        obtain ⟨ax, hax, hcx⟩ := kid_at (H42.at 1 (it := kidsI pm5.S1 pm5.as (ksL T g)) (by kernel_rfl)) has5 hu hp hbp1
        refine Sx.ia 7 ax i 1 nn2 nc2 hax (by omega) ?_
        refine Sx.lo (c := 1) (t := 52) 0 [.pointer (some ⟨bp1, 0, none⟩)] (.pointer (some ⟨bp1, 0, none⟩)) hcx ?_
        refine Sx.dr 5 H42 [8] [8] (LJ := [.blk k4 (.cells #[.int .i64 ((kd : Nat) : Int), .int .i64 0, .int .i64 ((row : Nat) : Int), .slice Aop nop cop, .slice A5 n5 c5] 32)]) (by kernel_rfl) fun w18 H43 => ?_
        refine Sx.tk [(0, none), (1, some (0, [6, 7, 8])), (2, none), (3, none)] (fun _ => (H43.sub [8] (by kernel_rfl))) ?_
        refine Sx.nmx ?_
        intro zx5
        refine Sx.on 4 ?_
        obtain ⟨S11, H44⟩ := P_close H43 [0, 0, 0, 0] (Z := Z) (T := T) (R := R) (g := g) pm5 hpm5 hzpm5 (by kernel_rfl)
        refine Sx.c 0 [0, 0, 0, 0] H44 (fun Hp5 R5 hR5 => ih S11 Z T R g p bp1 nb bt br L w18 R5 Hp5 (Ty.mk k1 u1 r1 o1 a1) L1 hbp1 hnt hnr htp (fun S12 Sy2 tp2 w19 G5 hnt2 hnr2 => hR5 _ _ _ G5 fun H45 => ?_))
        refine Sx.bk (x := zx5) 4 (fun _ => (H45.sub [6] (by kernel_rfl))) ?_
        refine Sx.nmx ?_
        intro zx6
        refine Sx.on 5 ?_
        refine Sx.nw 0 H45 fun k6 w20 H46 => ?_
        refine Sx.bk (x := zx6) 5 (fun _ => (H46.sub [6] (by kernel_rfl))) ?_
        refine Sx.nmx ?_
        intro zx7
        refine Sx.on 6 ?_
        refine Sx.ap 0 7 10 72 1 0 32 5 23 1 k6 A5 c5 n5 (kC kl) [.int .i64 ((k1 : Nat) : Int), .int .i64 ((u1 : Nat) : Int), .int .i64 ((r1 : Nat) : Int), .slice tp2.A tp2.na tp2.ca, .slice tp2.B tp2.nb tp2.cb] H46 (by omega) (by omega) (kC_app kl tp2 (Ty.mk k1 u1 r1 o1 a1)) fun A2 cap2 w21 H47 => ?_
        refine Sx.bk (x := zx7) 6 (fun _ => (H47.sub [6] (by kernel_rfl))) ?_
        refine Sx.tk [(7, none)] (fun _ => (H47.sub [6] (by kernel_rfl))) ?_
        refine Sx.nmx ?_
        intro zx8
        refine Sx.on 8 ?_
        refine Sx.s 0 6 H47 fun w22 H48 => ?_
        refine Sx.bk (x := zx8) 8 (fun h => Sx.nope h (by kernel_rfl)) ?_
        refine Sx.dn ?_
        obtain ⟨pm6, hpm6, hzpm6, H49⟩ := P_open H48 0 (S := S12) (Z := Z) (T := T) (R := R) (g := g) (by kernel_rfl)
        obtain ⟨io4, hio4⟩ := oB_at (T := T) (m := pm6) (n := u)
        have hnl4 := (List.getElem?_eq_some_iff.1 hkd).1
        obtain ⟨nA4, nn4, nc4, has6, hna4⟩ := P_nd hpm6 (H49.at 1 (by kernel_rfl)) (n := u) hnl4
        have H50 := bank_take (ty := 78) (T := T) (C := (ndC T R g pm6)) (hs := []) H49 0 (by kernel_rfl) (n := u) (b := be1) hbe1 nz0 (ndC_eq hkd has6 (rb := none) (rowB_no hkd hk6) (io := io4) hio4)
        refine Sx.v 4 (.bool (((i : Nat) : Int) == (0 : Int))) (.bool false) (congrArg Value.bool (ne0 hi0)) ?_
        refine Sx.v 14 (.int .i64 (IntKind.i64.wrap (((i : Nat) : Int) + (1 : Int)))) (.int .i64 ((i + 1 : Nat) : Int)) (congrArg (Value.int .i64) (Gx.i64n (by omega) (by omega))) ?_
        have H51 := bank_put (ty := 78) (T := T) (C := (ndC T R g pm6)) (C' := (ndC T R g pm6)) (hs := []) H50 [0, 0] (by kernel_rfl) (n := u) (b := be1) hbe1 nz0 (ndC_eq hkd has6 (rb := none) (rowB_no hkd hk6) (io := io4) hio4) (fun _ _ _ => rfl)
        obtain ⟨S13, H52⟩ := P_close H51 [0, 0, 0, 0] (Z := Z) (T := T) (R := R) (g := g) pm6 hpm6 hzpm6 (by kernel_rfl)
        obtain ⟨S14, H53⟩ := tys_add H52 [9, 4] (S := Sk) (S2 := Sy2) (l := kl) (p := tp2) (t := Ty.mk k1 u1 r1 o1 a1) (by kernel_rfl)
        have H54 := H53.pick (a := [PI S13 Z T R g, .blk nb (.cells #[.map (some bt), .map (some br)] 89), pkI bt (kvB T L1.t), pkI br (kvB R L1.r), .blk k3 (.cells #[.int .i64 0, .int .i64 0, .int .i64 0, .slice none 0 0, .slice none 0 0] 32), .blk k4 (.cells #[.int .i64 ((kd : Nat) : Int), .int .i64 0, .int .i64 ((row : Nat) : Int), .slice Aop nop cop, .slice A2 (n5 + 1) cap2] 32), .own 32 5 A2 cap2 (n5 + 1) (kC (kl ++ [(tp2, Ty.mk k1 u1 r1 o1 a1)])), strI So Aop ops, Slv.tysI S14 (kl ++ [(tp2, Ty.mk k1 u1 r1 o1 a1)])]) [1, 1, 1, 1, 1, 1, 1, 1, 0] (by kernel_rfl)
        exact Sx.to 2 [(0, .pointer (some ⟨nb, 0, none⟩)), (1, .pointer (some ⟨be1, 0, none⟩)), (4, .pointer (some ⟨k3, 0, none⟩)), (5, .pointer (some ⟨k4, 0, none⟩)), (33, .slice nA2 nn2 nc2), (34, .int .i64 ((nn2 : Nat) : Int)), (35, .int .i64 (((i + 1) : Nat) : Int))] (hK1 _ _ _ _ (by omega) ⟨(i + 1), L1, Aop, nop, cop, So, ops, row, A2, cap2, (n5 + 1), (kl ++ [(tp2, Ty.mk k1 u1 r1 o1 a1)]), S14, S13, rfl, rfl, H54, (by rw [← ksn_map]; exact htn), (by rw [List.length_append, hn5]; rfl), (by rw [List.length_append, hkl]; rfl), hop, hnt2, hnr2, (fun h => absurd h (Nat.succ_ne_zero _)), hi⟩)
      have p_c36 := of_decide_eq_false h_c36
      exfalso; omega
    refine Sx.br 6 (decide (((i : Nat) : Int) < ((nn2 : Nat) : Int))) (fun h_c36 => ?_) (fun h_c36 => ?_)
    · skip
      have p_c36 := of_decide_eq_true h_c36
      exfalso; omega
    refine Sx.l 7 5 H28 ?_
    refine Sx.s 0 4 H28 fun w23 H55 => ?_
    refine Sx.rt 3 [4] H55 (.agg #[.int .i64 ((kd : Nat) : Int), .int .i64 0, .int .i64 ((row : Nat) : Int), .slice Aop nop cop, .slice A5 n5 c5]) ?_
    obtain ⟨rfl, rfl⟩ := trem_end htr hi
    obtain ⟨S15, H56⟩ := Slv.ty_fin (e := 32) (cap := c5) (n := n5) (A := Aop) (B := A5) (Sa := So) (S := Sk) (ops := ops) (l := kl) (na := nop) (ca := cop) H55 [6, 6, 6] kd 0 row (by kernel_rfl) hop.1 ⟨hop.2.1, hop.2.2, by omega⟩ hn5
    subst hL0
    exact Gx.ret_as (by rfl) (hK Si S15 ⟨Aop, nop, cop, A5, n5, c5⟩ _ (H56.pick (a := [PI Si Z T R g, .blk nb (.cells #[.map (some bt), .map (some br)] 89), pkI bt (kvB T _), pkI br (kvB R _), tyI S15 _ _]) [1, 1, 1, 1, 0] (by kernel_rfl)) hnt hnr)
  refine Sx.nw 2 H fun k7 w24 H57 => ?_
  refine Sx.c 5 [0] H57 (fun Hp6 R6 hR6 => Now_p S Z T R g n u ba be1 w24 R6 Hp6 _ hba hm hbe1 (fun S16 w25 G6 => hR6 _ _ _ G6 fun H58 => ?_))
  obtain ⟨pm7, hpm7, hzpm7, H59⟩ := P_open H58 0 (S := S16) (Z := Z) (T := T) (R := R) (g := g) (by kernel_rfl)
  obtain ⟨io5, hio5⟩ := oB_at (T := T) (m := pm7) (n := u)
  obtain ⟨rb3, hrb3⟩ : ∃ rb, rowB R g u = rb := ⟨_, rfl⟩
  have hnl5 := (List.getElem?_eq_some_iff.1 hkd).1
  obtain ⟨nA5, nn5, nc5, has7, hna5⟩ := P_nd hpm7 (H59.at 1 (by kernel_rfl)) (n := u) hnl5
  have H60 := bank_take (ty := 78) (T := T) (C := (ndC T R g pm7)) (hs := []) H59 0 (by kernel_rfl) (n := u) (b := be1) hbe1 nz0 (ndC_eq hkd has7 (rb := rb3) hrb3 (io := io5) hio5)
  refine Sx.l 8 0 H60 ?_
  refine Sx.nw 1 H60 fun k8 w26 H61 => ?_
  refine Sx.s 0 9 H61 fun w27 H62 => ?_
  refine Sx.l 8 0 H62 ?_
  refine Sx.v 0 (.bool (((6 : Nat) : Int) == (0 : Int))) (.bool false) (rfl) ?_
  refine Sx.l 11 0 H62 ?_
  have hZ : Z[u]? = some (nA5, nn5, nc5) := by rw [← hzpm7]; exact has7
  have hlk : nn5 = (kidsN g u).length := hna5.trans ksO_len
  have hk2 := kidsN_le g u
  have H63 := bank_put (ty := 78) (T := T) (C := (ndC T R g pm7)) (C' := (ndC T R g pm7)) (hs := []) H62 [0, 0] (by kernel_rfl) (n := u) (b := be1) hbe1 nz0 (ndC_eq hkd has7 (rb := rb3) hrb3 (io := io5) hio5) (fun _ _ _ => rfl)
  obtain ⟨S17, H64⟩ := P_close H63 [0, 0, 0, 0] (Z := Z) (T := T) (R := R) (g := g) pm7 hpm7 hzpm7 (by kernel_rfl)
  have H65 := H64.add (Gx.Ext.refl _) (it := .own 32 5 none 0 0 []) (World.ownsRow_nil _ _ _ _) (fun _ h => by cases h)
  have H66 := H65.add (Gx.Ext.refl _) (it := strI (fun _ => False) none []) strI_nil (fun _ h => h.elim)
  have H67 := H66.add (Gx.Ext.refl _) (it := tysI (fun _ => False) []) tysI_nil (fun _ h => h.elim)
  have H68 := H67.pick (a := [PI S17 Z T R g, .blk nb (.cells #[.map (some bt), .map (some br)] 89), pkI bt (kvB T l.t), pkI br (kvB R l.r), .blk k7 (.cells #[.int .i64 0, .int .i64 0, .int .i64 0, .slice none 0 0, .slice none 0 0] 32), .blk k8 (.cells #[.int .i64 6, .int .i64 0, .int .i64 0, .slice none 0 0, .slice none 0 0] 32), .own 32 5 none 0 0 (kC []), strI (fun _ => False) none ([]), Slv.tysI (fun _ => False) ([])]) [0, 0, 0, 0, 0, 0, 0, 0, 0] (by kernel_rfl)
  refine Sx.lp 5 (fun z l' w' => ∃ (i : Nat) (L : Nams) (Aop : Option Addr) (nop : Nat) (cop : Nat) (So : Nat → Prop) (ops : List Nm) (row : Nat) (A5 : Option Addr) (c5 : Nat) (n5 : Nat) (kl : List Kd) (Sk : Nat → Prop) (Si : Nat → Prop), l' = [(0, .pointer (some ⟨nb, 0, none⟩)), (1, .pointer (some ⟨be1, 0, none⟩)), (4, .pointer (some ⟨k7, 0, none⟩)), (5, .pointer (some ⟨k8, 0, none⟩)), (33, .slice nA5 nn5 nc5), (34, .int .i64 ((nn5 : Nat) : Int)), (35, .int .i64 ((i : Nat) : Int))] ∧ z = nn5 - i ∧ Hs w L0 w' [PI Si Z T R g, .blk nb (.cells #[.map (some bt), .map (some br)] 89), pkI bt (kvB T L.t), pkI br (kvB R L.r), .blk k7 (.cells #[.int .i64 0, .int .i64 0, .int .i64 0, .slice none 0 0, .slice none 0 0] 32), .blk k8 (.cells #[.int .i64 6, .int .i64 0, .int .i64 ((row : Nat) : Int), .slice Aop nop cop, .slice A5 n5 c5] 32), .own 32 5 A5 c5 n5 (kC kl), strI So Aop ops, Slv.tysI Sk kl] ∧ (trem k g u 6 i ((kidsN g u).drop i) (kl.map (·.2)) ops row L = some (t, lf)) ∧ (n5 = kl.length) ∧ (kl.length = i) ∧ (nop = ops.length ∧ nop ≤ cop ∧ ops.length < 1000000000) ∧ (NmOk T.length [] L.t) ∧ (NmOk R.length [0] L.r) ∧ (i = 0 → row = 0) ∧ (i ≤ (kidsN g u).length)) _ [(0, .pointer (some ⟨nb, 0, none⟩)), (1, .pointer (some ⟨be1, 0, none⟩)), (4, .pointer (some ⟨k7, 0, none⟩)), (5, .pointer (some ⟨k8, 0, none⟩)), (33, .slice nA5 nn5 nc5), (34, .int .i64 ((nn5 : Nat) : Int)), (35, .int .i64 ((0 : Nat) : Int))] ⟨0, l, none, 0, 0, (fun _ => False), [], 0, none, 0, 0, [], (fun _ => False), S17, rfl, rfl, H68, hx, rfl, rfl, ⟨rfl, Nat.le_refl _, by decide⟩, hnt, hnr, (fun _ => rfl), (Nat.zero_le _)⟩ (fun b2 z2 l2 w28 hI2 K2 hK2 => ?_)
  obtain ⟨i, L, Aop, nop, cop, So, ops, row, A5, c5, n5, kl, Sk, Si, rfl, rfl, H69, htr, hn5, hkl, hop, hnt, hnr, hrow, hil⟩ := hI2
  rcases trem_cs6 hkp htr with ⟨hi0, hi, p, ⟨k1, u1, r1, o1, a1⟩, L1, hp, htp, r, lo, hrr, hwl, htn⟩ | ⟨hi0, hi, p, ⟨k1, u1, r1, o1, a1⟩, L1, hp, htp, r, lo, v, hrr, hwl, hv0, hlz2, htn⟩ | ⟨hi0, hi, p, ⟨k1, u1, r1, o1, a1⟩, L1, hp, htp, htn⟩ | hi
  · skip
    obtain rfl := hrow hi0
    subst hi0
    refine Sx.br 6 (decide ((0 : Int) < ((nn5 : Nat) : Int))) (fun h_c36 => ?_) (fun h_c36 => ?_)
    · skip
      have p_c36 := of_decide_eq_true h_c36
      obtain ⟨pm8, hpm8, hzpm8, H70⟩ := P_open H69 0 (S := Si) (Z := Z) (T := T) (R := R) (g := g) (by kernel_rfl)
      have has8 : pm8.as[u]? = some (nA5, nn5, nc5) := by rw [hzpm8]; exact hZ
      obtain ⟨bp1, hbp1⟩ := hpm8.kid hp
      obtain ⟨ax, hax, hcx⟩ := kid_at (H70.at 1 (it := kidsI pm8.S1 pm8.as (ksL T g)) (by kernel_rfl)) has8 hu hp hbp1
      refine Sx.ia 7 ax 0 1 nn5 nc5 hax (by omega) ?_
      refine Sx.lo (c := 1) (t := 52) 0 [.pointer (some ⟨bp1, 0, none⟩)] (.pointer (some ⟨bp1, 0, none⟩)) hcx ?_
      refine Sx.dr 5 H70 [8] [8] (LJ := [.blk k8 (.cells #[.int .i64 6, .int .i64 0, .int .i64 ((0 : Nat) : Int), .slice Aop nop cop, .slice A5 n5 c5] 32)]) (by kernel_rfl) fun w29 H71 => ?_
      refine Sx.tk [(0, none), (1, some (0, [6, 7, 8])), (2, none), (3, none)] (fun _ => (H71.sub [8] (by kernel_rfl))) ?_
      refine Sx.nmx ?_
      intro zx9
      refine Sx.on 4 ?_
      obtain ⟨S18, H72⟩ := P_close H71 [0, 0, 0, 0] (Z := Z) (T := T) (R := R) (g := g) pm8 hpm8 hzpm8 (by kernel_rfl)
      refine Sx.c 0 [0, 0, 0, 0] H72 (fun Hp7 R7 hR7 => ih S18 Z T R g p bp1 nb bt br L w29 R7 Hp7 (Ty.mk k1 u1 r1 o1 a1) L1 hbp1 hnt hnr htp (fun S19 Sy3 tp3 w30 G7 hnt3 hnr3 => hR7 _ _ _ G7 fun H73 => ?_))
      refine Sx.bk (x := zx9) 4 (fun _ => (H73.sub [6] (by kernel_rfl))) ?_
      refine Sx.nmx ?_
      intro zx10
      refine Sx.on 5 ?_
      refine Sx.nw 0 H73 fun k9 w31 H74 => ?_
      refine Sx.bk (x := zx10) 5 (fun _ => (H74.sub [6] (by kernel_rfl))) ?_
      refine Sx.nmx ?_
      intro zx11
      refine Sx.on 6 ?_
      refine Sx.ap 0 7 10 72 1 0 32 5 23 1 k9 A5 c5 n5 (kC kl) [.int .i64 ((k1 : Nat) : Int), .int .i64 ((u1 : Nat) : Int), .int .i64 ((r1 : Nat) : Int), .slice tp3.A tp3.na tp3.ca, .slice tp3.B tp3.nb tp3.cb] H74 (by omega) (by omega) (kC_app kl tp3 (Ty.mk k1 u1 r1 o1 a1)) fun A3 cap3 w32 H75 => ?_
      refine Sx.bk (x := zx11) 6 (fun _ => (H75.sub [6] (by kernel_rfl))) ?_
      refine Sx.tk [(7, none)] (fun _ => (H75.sub [6] (by kernel_rfl))) ?_
      refine Sx.nmx ?_
      intro zx12
      refine Sx.on 8 ?_
      refine Sx.s 0 6 H75 fun w33 H76 => ?_
      refine Sx.bk (x := zx12) 8 (fun h => Sx.nope h (by kernel_rfl)) ?_
      refine Sx.dn ?_
      obtain ⟨pm9, hpm9, hzpm9, H77⟩ := P_open H76 0 (S := S19) (Z := Z) (T := T) (R := R) (g := g) (by kernel_rfl)
      obtain ⟨hr0', br1, hbr1⟩ := hpm9.row6 hkd hrr
      obtain ⟨io6, hio6⟩ := oB_at (T := T) (m := pm9) (n := u)
      have hnl6 := (List.getElem?_eq_some_iff.1 hkd).1
      obtain ⟨nA6, nn6, nc6, has9, hna6⟩ := P_nd hpm9 (H77.at 1 (by kernel_rfl)) (n := u) hnl6
      have H78 := bank_take (ty := 78) (T := T) (C := (ndC T R g pm9)) (hs := []) H77 0 (by kernel_rfl) (n := u) (b := be1) hbe1 nz0 (ndC_eq hkd has9 (rb := (some br1)) ((rowB_yes hkd hrr).trans hbr1) (io := io6) hio6)
      refine Sx.v 4 (.bool ((0 : Int) == (0 : Int))) (.bool true) (rfl) ?_
      refine Sx.l 4 0 H78 ?_
      refine Sx.l 10 0 H78 ?_
      have H79 := bank_put (ty := 78) (T := T) (C := (ndC T R g pm9)) (C' := (ndC T R g pm9)) (hs := []) H78 [0, 0] (by kernel_rfl) (n := u) (b := be1) hbe1 nz0 (ndC_eq hkd has9 (rb := (some br1)) ((rowB_yes hkd hrr).trans hbr1) (io := io6) hio6) (fun _ _ _ => rfl)
      obtain ⟨S20, H80⟩ := P_close H79 [0, 0, 0, 0] (Z := Z) (T := T) (R := R) (g := g) pm9 hpm9 hzpm9 (by kernel_rfl)
      refine Sx.c 0 [0] H80 (fun Hp8 R8 hR8 => Whole_p S20 Z T R g _ r br1 0 lo none w33 R8 Hp8 hbr1 hr0' vB_0 hwl (fun S21 S22 wA1 wn1 wc1 w34 G8 hwn1 hwc1 => hR8 _ _ _ G8 fun H81 => ?_))
      refine Sx.s 11 7 H81 fun w35 H82 => ?_
      obtain ⟨S23, H83⟩ := tys_add H82 [10, 5] (S := Sk) (S2 := Sy3) (l := kl) (p := tp3) (t := Ty.mk k1 u1 r1 o1 a1) (by kernel_rfl)
      have H84 := H83.pick (a := [PI S21 Z T R g, .blk nb (.cells #[.map (some bt), .map (some br)] 89), pkI bt (kvB T L1.t), pkI br (kvB R L1.r), .blk k7 (.cells #[.int .i64 0, .int .i64 0, .int .i64 0, .slice none 0 0, .slice none 0 0] 32), .blk k8 (.cells #[.int .i64 6, .int .i64 0, .int .i64 ((0 : Nat) : Int), .slice wA1 wn1 wc1, .slice A3 (n5 + 1) cap3] 32), .own 32 5 A3 cap3 (n5 + 1) (kC (kl ++ [(tp3, Ty.mk k1 u1 r1 o1 a1)])), strI S22 wA1 lo, Slv.tysI S23 (kl ++ [(tp3, Ty.mk k1 u1 r1 o1 a1)])]) [1, 2, 2, 2, 2, 2, 2, 1, 0] (by kernel_rfl)
      exact Sx.to 16 [(0, .pointer (some ⟨nb, 0, none⟩)), (1, .pointer (some ⟨be1, 0, none⟩)), (4, .pointer (some ⟨k7, 0, none⟩)), (5, .pointer (some ⟨k8, 0, none⟩)), (33, .slice nA5 nn5 nc5), (34, .int .i64 ((nn5 : Nat) : Int)), (35, .int .i64 (((0 + 1) : Nat) : Int))] (hK2 _ _ _ _ (by omega) ⟨(0 + 1), L1, wA1, wn1, wc1, S22, lo, 0, A3, cap3, (n5 + 1), (kl ++ [(tp3, Ty.mk k1 u1 r1 o1 a1)]), S23, S21, rfl, rfl, H84, (by rw [← ksn_map]; exact htn), (by rw [List.length_append, hn5]; rfl), (by rw [List.length_append, hkl]; rfl), ⟨hwn1, hwc1, whole_len hwl⟩, hnt3, hnr3, (fun h => absurd h (Nat.succ_ne_zero _)), hi⟩)
    have p_c36 := of_decide_eq_false h_c36
    exfalso; omega
  · skip
    obtain rfl := hrow hi0
    subst hi0
    refine Sx.br 6 (decide ((0 : Int) < ((nn5 : Nat) : Int))) (fun h_c36 => ?_) (fun h_c36 => ?_)
    · skip
      have p_c36 := of_decide_eq_true h_c36
      obtain ⟨pm10, hpm10, hzpm10, H85⟩ := P_open H69 0 (S := Si) (Z := Z) (T := T) (R := R) (g := g) (by kernel_rfl)
      have has10 : pm10.as[u]? = some (nA5, nn5, nc5) := by rw [hzpm10]; exact hZ
      obtain ⟨bp1, hbp1⟩ := hpm10.kid hp
      obtain ⟨ax, hax, hcx⟩ := kid_at (H85.at 1 (it := kidsI pm10.S1 pm10.as (ksL T g)) (by kernel_rfl)) has10 hu hp hbp1
      refine Sx.ia 7 ax 0 1 nn5 nc5 hax (by omega) ?_
      refine Sx.lo (c := 1) (t := 52) 0 [.pointer (some ⟨bp1, 0, none⟩)] (.pointer (some ⟨bp1, 0, none⟩)) hcx ?_
      refine Sx.dr 5 H85 [8] [8] (LJ := [.blk k8 (.cells #[.int .i64 6, .int .i64 0, .int .i64 ((0 : Nat) : Int), .slice Aop nop cop, .slice A5 n5 c5] 32)]) (by kernel_rfl) fun w36 H86 => ?_
      refine Sx.tk [(0, none), (1, some (0, [6, 7, 8])), (2, none), (3, none)] (fun _ => (H86.sub [8] (by kernel_rfl))) ?_
      refine Sx.nmx ?_
      intro zx13
      refine Sx.on 4 ?_
      obtain ⟨S24, H87⟩ := P_close H86 [0, 0, 0, 0] (Z := Z) (T := T) (R := R) (g := g) pm10 hpm10 hzpm10 (by kernel_rfl)
      refine Sx.c 0 [0, 0, 0, 0] H87 (fun Hp9 R9 hR9 => ih S24 Z T R g p bp1 nb bt br L w36 R9 Hp9 (Ty.mk k1 u1 r1 o1 a1) L1 hbp1 hnt hnr htp (fun S25 Sy4 tp4 w37 G9 hnt4 hnr4 => hR9 _ _ _ G9 fun H88 => ?_))
      refine Sx.bk (x := zx13) 4 (fun _ => (H88.sub [6] (by kernel_rfl))) ?_
      refine Sx.nmx ?_
      intro zx14
      refine Sx.on 5 ?_
      refine Sx.nw 0 H88 fun k10 w38 H89 => ?_
      refine Sx.bk (x := zx14) 5 (fun _ => (H89.sub [6] (by kernel_rfl))) ?_
      refine Sx.nmx ?_
      intro zx15
      refine Sx.on 6 ?_
      refine Sx.ap 0 7 10 72 1 0 32 5 23 1 k10 A5 c5 n5 (kC kl) [.int .i64 ((k1 : Nat) : Int), .int .i64 ((u1 : Nat) : Int), .int .i64 ((r1 : Nat) : Int), .slice tp4.A tp4.na tp4.ca, .slice tp4.B tp4.nb tp4.cb] H89 (by omega) (by omega) (kC_app kl tp4 (Ty.mk k1 u1 r1 o1 a1)) fun A4 cap4 w39 H90 => ?_
      refine Sx.bk (x := zx15) 6 (fun _ => (H90.sub [6] (by kernel_rfl))) ?_
      refine Sx.tk [(7, none)] (fun _ => (H90.sub [6] (by kernel_rfl))) ?_
      refine Sx.nmx ?_
      intro zx16
      refine Sx.on 8 ?_
      refine Sx.s 0 6 H90 fun w40 H91 => ?_
      refine Sx.bk (x := zx16) 8 (fun h => Sx.nope h (by kernel_rfl)) ?_
      refine Sx.dn ?_
      obtain ⟨pm11, hpm11, hzpm11, H92⟩ := P_open H91 0 (S := S25) (Z := Z) (T := T) (R := R) (g := g) (by kernel_rfl)
      obtain ⟨hr0', br1, hbr1⟩ := hpm11.row6 hkd hrr
      obtain ⟨bv, hbv⟩ := tb (T := R) (n := v) (by rw [hRl]; exact (whole_v hwl).resolve_left hv0)
      obtain ⟨io7, hio7⟩ := oB_at (T := T) (m := pm11) (n := u)
      have hnl7 := (List.getElem?_eq_some_iff.1 hkd).1
      obtain ⟨nA7, nn7, nc7, has11, hna7⟩ := P_nd hpm11 (H92.at 1 (by kernel_rfl)) (n := u) hnl7
      have H93 := bank_take (ty := 78) (T := T) (C := (ndC T R g pm11)) (hs := []) H92 0 (by kernel_rfl) (n := u) (b := be1) hbe1 nz0 (ndC_eq hkd has11 (rb := (some br1)) ((rowB_yes hkd hrr).trans hbr1) (io := io7) hio7)
      refine Sx.v 4 (.bool ((0 : Int) == (0 : Int))) (.bool true) (rfl) ?_
      refine Sx.l 4 0 H93 ?_
      refine Sx.l 10 0 H93 ?_
      have H94 := bank_put (ty := 78) (T := T) (C := (ndC T R g pm11)) (C' := (ndC T R g pm11)) (hs := []) H93 [0, 0] (by kernel_rfl) (n := u) (b := be1) hbe1 nz0 (ndC_eq hkd has11 (rb := (some br1)) ((rowB_yes hkd hrr).trans hbr1) (io := io7) hio7) (fun _ _ _ => rfl)
      obtain ⟨S26, H95⟩ := P_close H94 [0, 0, 0, 0] (Z := Z) (T := T) (R := R) (g := g) pm11 hpm11 hzpm11 (by kernel_rfl)
      refine Sx.c 0 [0] H95 (fun Hp10 R10 hR10 => Whole_p S26 Z T R g _ r br1 v lo (some bv) w40 R10 Hp10 hbr1 hr0' (vB_n hv0 hbv) hwl (fun S27 S28 wA2 wn2 wc2 w41 G10 hwn2 hwc2 => hR10 _ _ _ G10 fun H96 => ?_))
      refine Sx.s 11 7 H96 fun w42 H97 => ?_
      refine Sx.l 13 2 H97 ?_
      refine Sx.c 1 [0, 3] H97 (fun Hp11 R11 hR11 => numberRow_p S27 Z T R g br bv v L1.r w42 R11 Hp11 hbv hv0 hnr4 hlz2 (fun S29 w43 G11 => hR11 _ _ _ G11 fun H98 => ?_))
      refine Sx.s 1 7 H98 fun w44 H99 => ?_
      obtain ⟨S30, H100⟩ := tys_add H99 [10, 5] (S := Sk) (S2 := Sy4) (l := kl) (p := tp4) (t := Ty.mk k1 u1 r1 o1 a1) (by kernel_rfl)
      have H101 := H100.pick (a := [PI S29 Z T R g, .blk nb (.cells #[.map (some bt), .map (some br)] 89), pkI bt (kvB T L1.t), pkI br (kvB R ((numb L1.r v).1)), .blk k7 (.cells #[.int .i64 0, .int .i64 0, .int .i64 0, .slice none 0 0, .slice none 0 0] 32), .blk k8 (.cells #[.int .i64 6, .int .i64 0, .int .i64 (((numb L1.r v).2 : Nat) : Int), .slice wA2 wn2 wc2, .slice A4 (n5 + 1) cap4] 32), .own 32 5 A4 cap4 (n5 + 1) (kC (kl ++ [(tp4, Ty.mk k1 u1 r1 o1 a1)])), strI S28 wA2 lo, Slv.tysI S30 (kl ++ [(tp4, Ty.mk k1 u1 r1 o1 a1)])]) [1, 3, 3, 1, 2, 2, 2, 1, 0] (by kernel_rfl)
      exact Sx.to 7 [(0, .pointer (some ⟨nb, 0, none⟩)), (1, .pointer (some ⟨be1, 0, none⟩)), (4, .pointer (some ⟨k7, 0, none⟩)), (5, .pointer (some ⟨k8, 0, none⟩)), (33, .slice nA5 nn5 nc5), (34, .int .i64 ((nn5 : Nat) : Int)), (35, .int .i64 (((0 + 1) : Nat) : Int))] (hK2 _ _ _ _ (by omega) ⟨(0 + 1), (⟨L1.t, (numb L1.r v).1⟩ : Nams), wA2, wn2, wc2, S28, lo, ((numb L1.r v).2), A4, cap4, (n5 + 1), (kl ++ [(tp4, Ty.mk k1 u1 r1 o1 a1)]), S30, S29, rfl, rfl, H101, (by rw [← ksn_map]; exact htn), (by rw [List.length_append, hn5]; rfl), (by rw [List.length_append, hkl]; rfl), ⟨hwn2, hwc2, whole_len hwl⟩, hnt4, (hnr4.numb (List.getElem?_eq_some_iff.1 hbv).1 (nz1 hv0)), (fun h => absurd h (Nat.succ_ne_zero _)), hi⟩)
    have p_c36 := of_decide_eq_false h_c36
    exfalso; omega
  · skip
    refine Sx.br 6 (decide (((i : Nat) : Int) < ((nn5 : Nat) : Int))) (fun h_c36 => ?_) (fun h_c36 => ?_)
    · skip
      have p_c36 := of_decide_eq_true h_c36
      obtain ⟨pm12, hpm12, hzpm12, H102⟩ := P_open H69 0 (S := Si) (Z := Z) (T := T) (R := R) (g := g) (by kernel_rfl)
      have has12 : pm12.as[u]? = some (nA5, nn5, nc5) := by rw [hzpm12]; exact hZ
      obtain ⟨bp1, hbp1⟩ := hpm12.kid hp
      obtain ⟨ax, hax, hcx⟩ := kid_at (H102.at 1 (it := kidsI pm12.S1 pm12.as (ksL T g)) (by kernel_rfl)) has12 hu hp hbp1
      refine Sx.ia 7 ax i 1 nn5 nc5 hax (by omega) ?_
      refine Sx.lo (c := 1) (t := 52) 0 [.pointer (some ⟨bp1, 0, none⟩)] (.pointer (some ⟨bp1, 0, none⟩)) hcx ?_
      refine Sx.dr 5 H102 [8] [8] (LJ := [.blk k8 (.cells #[.int .i64 6, .int .i64 0, .int .i64 ((row : Nat) : Int), .slice Aop nop cop, .slice A5 n5 c5] 32)]) (by kernel_rfl) fun w45 H103 => ?_
      refine Sx.tk [(0, none), (1, some (0, [6, 7, 8])), (2, none), (3, none)] (fun _ => (H103.sub [8] (by kernel_rfl))) ?_
      refine Sx.nmx ?_
      intro zx17
      refine Sx.on 4 ?_
      obtain ⟨S31, H104⟩ := P_close H103 [0, 0, 0, 0] (Z := Z) (T := T) (R := R) (g := g) pm12 hpm12 hzpm12 (by kernel_rfl)
      refine Sx.c 0 [0, 0, 0, 0] H104 (fun Hp12 R12 hR12 => ih S31 Z T R g p bp1 nb bt br L w45 R12 Hp12 (Ty.mk k1 u1 r1 o1 a1) L1 hbp1 hnt hnr htp (fun S32 Sy5 tp5 w46 G12 hnt5 hnr5 => hR12 _ _ _ G12 fun H105 => ?_))
      refine Sx.bk (x := zx17) 4 (fun _ => (H105.sub [6] (by kernel_rfl))) ?_
      refine Sx.nmx ?_
      intro zx18
      refine Sx.on 5 ?_
      refine Sx.nw 0 H105 fun k11 w47 H106 => ?_
      refine Sx.bk (x := zx18) 5 (fun _ => (H106.sub [6] (by kernel_rfl))) ?_
      refine Sx.nmx ?_
      intro zx19
      refine Sx.on 6 ?_
      refine Sx.ap 0 7 10 72 1 0 32 5 23 1 k11 A5 c5 n5 (kC kl) [.int .i64 ((k1 : Nat) : Int), .int .i64 ((u1 : Nat) : Int), .int .i64 ((r1 : Nat) : Int), .slice tp5.A tp5.na tp5.ca, .slice tp5.B tp5.nb tp5.cb] H106 (by omega) (by omega) (kC_app kl tp5 (Ty.mk k1 u1 r1 o1 a1)) fun A5 cap5 w48 H107 => ?_
      refine Sx.bk (x := zx19) 6 (fun _ => (H107.sub [6] (by kernel_rfl))) ?_
      refine Sx.tk [(7, none)] (fun _ => (H107.sub [6] (by kernel_rfl))) ?_
      refine Sx.nmx ?_
      intro zx20
      refine Sx.on 8 ?_
      refine Sx.s 0 6 H107 fun w49 H108 => ?_
      refine Sx.bk (x := zx20) 8 (fun h => Sx.nope h (by kernel_rfl)) ?_
      refine Sx.dn ?_
      obtain ⟨pm13, hpm13, hzpm13, H109⟩ := P_open H108 0 (S := S32) (Z := Z) (T := T) (R := R) (g := g) (by kernel_rfl)
      obtain ⟨io8, hio8⟩ := oB_at (T := T) (m := pm13) (n := u)
      obtain ⟨rb4, hrb4⟩ : ∃ rb, rowB R g u = rb := ⟨_, rfl⟩
      have hnl8 := (List.getElem?_eq_some_iff.1 hkd).1
      obtain ⟨nA8, nn8, nc8, has13, hna8⟩ := P_nd hpm13 (H109.at 1 (by kernel_rfl)) (n := u) hnl8
      have H110 := bank_take (ty := 78) (T := T) (C := (ndC T R g pm13)) (hs := []) H109 0 (by kernel_rfl) (n := u) (b := be1) hbe1 nz0 (ndC_eq hkd has13 (rb := rb4) hrb4 (io := io8) hio8)
      refine Sx.v 4 (.bool (((i : Nat) : Int) == (0 : Int))) (.bool false) (congrArg Value.bool (ne0 hi0)) ?_
      refine Sx.v 14 (.int .i64 (IntKind.i64.wrap (((i : Nat) : Int) + (1 : Int)))) (.int .i64 ((i + 1 : Nat) : Int)) (congrArg (Value.int .i64) (Gx.i64n (by omega) (by omega))) ?_
      have H111 := bank_put (ty := 78) (T := T) (C := (ndC T R g pm13)) (C' := (ndC T R g pm13)) (hs := []) H110 [0, 0] (by kernel_rfl) (n := u) (b := be1) hbe1 nz0 (ndC_eq hkd has13 (rb := rb4) hrb4 (io := io8) hio8) (fun _ _ _ => rfl)
      obtain ⟨S33, H112⟩ := P_close H111 [0, 0, 0, 0] (Z := Z) (T := T) (R := R) (g := g) pm13 hpm13 hzpm13 (by kernel_rfl)
      obtain ⟨S34, H113⟩ := tys_add H112 [9, 4] (S := Sk) (S2 := Sy5) (l := kl) (p := tp5) (t := Ty.mk k1 u1 r1 o1 a1) (by kernel_rfl)
      have H114 := H113.pick (a := [PI S33 Z T R g, .blk nb (.cells #[.map (some bt), .map (some br)] 89), pkI bt (kvB T L1.t), pkI br (kvB R L1.r), .blk k7 (.cells #[.int .i64 0, .int .i64 0, .int .i64 0, .slice none 0 0, .slice none 0 0] 32), .blk k8 (.cells #[.int .i64 6, .int .i64 0, .int .i64 ((row : Nat) : Int), .slice Aop nop cop, .slice A5 (n5 + 1) cap5] 32), .own 32 5 A5 cap5 (n5 + 1) (kC (kl ++ [(tp5, Ty.mk k1 u1 r1 o1 a1)])), strI So Aop ops, Slv.tysI S34 (kl ++ [(tp5, Ty.mk k1 u1 r1 o1 a1)])]) [1, 1, 1, 1, 1, 1, 1, 1, 0] (by kernel_rfl)
      exact Sx.to 2 [(0, .pointer (some ⟨nb, 0, none⟩)), (1, .pointer (some ⟨be1, 0, none⟩)), (4, .pointer (some ⟨k7, 0, none⟩)), (5, .pointer (some ⟨k8, 0, none⟩)), (33, .slice nA5 nn5 nc5), (34, .int .i64 ((nn5 : Nat) : Int)), (35, .int .i64 (((i + 1) : Nat) : Int))] (hK2 _ _ _ _ (by omega) ⟨(i + 1), L1, Aop, nop, cop, So, ops, row, A5, cap5, (n5 + 1), (kl ++ [(tp5, Ty.mk k1 u1 r1 o1 a1)]), S34, S33, rfl, rfl, H114, (by rw [← ksn_map]; exact htn), (by rw [List.length_append, hn5]; rfl), (by rw [List.length_append, hkl]; rfl), hop, hnt5, hnr5, (fun h => absurd h (Nat.succ_ne_zero _)), hi⟩)
    have p_c36 := of_decide_eq_false h_c36
    exfalso; omega
  refine Sx.br 6 (decide (((i : Nat) : Int) < ((nn5 : Nat) : Int))) (fun h_c36 => ?_) (fun h_c36 => ?_)
  · skip
    have p_c36 := of_decide_eq_true h_c36
    exfalso; omega
  refine Sx.l 7 5 H69 ?_
  refine Sx.s 0 4 H69 fun w50 H115 => ?_
  refine Sx.rt 3 [4] H115 (.agg #[.int .i64 6, .int .i64 0, .int .i64 ((row : Nat) : Int), .slice Aop nop cop, .slice A5 n5 c5]) ?_
  obtain ⟨rfl, rfl⟩ := trem_end htr hi
  obtain ⟨S35, H116⟩ := Slv.ty_fin (e := 32) (cap := c5) (n := n5) (A := Aop) (B := A5) (Sa := So) (S := Sk) (ops := ops) (l := kl) (na := nop) (ca := cop) H115 [6, 6, 6] 6 0 row (by kernel_rfl) hop.1 ⟨hop.2.1, hop.2.2, by omega⟩ hn5
  subst hL0
  exact Gx.ret_as (by rfl) (hK Si S35 ⟨Aop, nop, cop, A5, n5, c5⟩ _ (H116.pick (a := [PI Si Z T R g, .blk nb (.cells #[.map (some bt), .map (some br)] 89), pkI bt (kvB T _), pkI br (kvB R _), tyI S35 _ _]) [1, 1, 1, 1, 0] (by kernel_rfl)) hnt hnr)
theorem Told_p (k : Nat) : ∀ (S : Nat → Prop) (Z : List Slot) (T R : List Nat) (g : G) (n ba nb bt br : Nat) (l : Nams) (w : World) (K : Ending → World → Prop) (H0 : Sp w [PI S Z T R g, .blk nb (.cells #[.map (some bt), .map (some br)] 89), pkI bt (kvB T l.t), pkI br (kvB R l.r)]) (t : Ty) (lf : Nams) (hba : T[n]? = some ba) (hnt : NmOk T.length [] l.t) (hnr : NmOk R.length [0] l.r) (hf : toldX k g n l = some (t, lf)) (hK : ∀ (S' : Nat → Prop) (Sy : Nat → Prop) (p : Tv) w', Hs w [PI S Z T R g, .blk nb (.cells #[.map (some bt), .map (some br)] 89), pkI bt (kvB T l.t), pkI br (kvB R l.r)] w' [PI S' Z T R g, .blk nb (.cells #[.map (some bt), .map (some br)] 89), pkI bt (kvB T lf.t), pkI br (kvB R lf.r), tyI Sy p t] → (NmOk T.length [] lf.t) → (NmOk R.length [0] lf.r) → K (.returned (.agg (tvC t p).toArray)) w'),
    Calls Try.prog 16 #[.pointer (some ⟨nb, 0, none⟩), .pointer (some ⟨ba, 0, none⟩)] w K := by
  induction k with
  | zero => intro S Z T R g n ba nb bt br l w K H0 t lf hba hnt hnr hf; exact absurd hf (by simp [toldX])
  | succ k ih => exact Told_p_s k ih
end Go.Proofs.Ytfkkocjheeoobaa
set_option linter.unusedVariables false
set_option linter.unusedSimpArgs false
namespace Go.Slv
open Go.RowKit Go.Sx Go.Inf Go.Gx
theorem Fine.cs {c kd u row : Nat} {ops : List Nm} {args : List Ty} (h : Fine c (.mk kd u row ops args)) : (kd = 0 ∧ row = 0 ∧ ops = [] ∧ args = []) ∨ ((kd = 1 ∨ kd = 2 ∨ kd = 3) ∧ u = 0 ∧ row = 0 ∧ ops = [] ∧ args = []) ∨
    (kd = 4 ∧ u = 0 ∧ row = 0 ∧ ops = [] ∧ ∃ c t, args = [t] ∧ Fine c t) ∨ (kd = 5 ∧ u = 0 ∧ row = 0 ∧ ops = [] ∧ ∃ c t c' t', args = [t, t'] ∧ Fine c t ∧ Fine c' t') ∨ (kd = 6 ∧ u = 0 ∧ ∃ c t c' t', args = [t, t'] ∧ Fine c t ∧ Fine c' t') := by
  cases h with
  | v => exact .inl ⟨rfl, rfl, rfl, rfl⟩
  | c _ h => exact .inr (.inl ⟨h, rfl, rfl, rfl, rfl⟩)
  | l h => exact .inr (.inr (.inl ⟨rfl, rfl, rfl, rfl, _, _, rfl, h⟩))
  | p h k => exact .inr (.inr (.inr (.inl ⟨rfl, rfl, rfl, rfl, _, _, _, _, rfl, h, k⟩)))
  | f _ _ _ _ h k => exact .inr (.inr (.inr (.inr ⟨rfl, rfl, _, _, _, _, rfl, h, k⟩)))
def oargs (k : Nat) : G → List Ty → List Nat → Option (G × List Nat)
  | g, [], ms => some (g, ms)
  | g, t :: r, ms => match ofX k g t with
    | some (g, m) => oargs k g r (ms ++ [m])
    | none => none
/-- What comes behind the parts. -/
def OFin (kd row : Nat) (ops : List Nm) (g : G) (a b : Option Nat) (g' : G) (m : Nat) : Prop :=
  (kd ≠ 6 ∧ g.put kd a b 0 = some (g', m)) ∨ (kd = 6 ∧ ∃ g2 x g3 r, ofnx g row = some (g2, x) ∧ g2.putRow ops (some x) = some (g3, r) ∧ g3.put kd a b r = some (g', m))
theorem ofX_var {k u row : Nat} {g g' : G} {ops : List Nm} {args : List Ty} {m : Nat} (h : ofX (k + 1) g (.mk 0 u row ops args) = some (g', m)) :
    (lookI u g.tv = some m ∧ g = g') ∨ (lookI u g.tv = none ∧ g.kind.length < 1000000000 ∧ m = g.kind.length ∧ g' = gtv (gput g 0 none none 0) u m) := by
  unfold ofX at h
  rw [if_pos rfl] at h
  split at h
  · rename_i m' hl; cases h; exact .inl ⟨hl, rfl⟩
  · rename_i hl
    split at h <;> try contradiction
    rename_i g1 m1 h1
    unfold G.var G.put big at h1
    split at h1 <;> try contradiction
    rename_i hz
    simp only [wO_eq, wN_eq, wL_eq, Option.some.injEq, Prod.mk.injEq] at h1
    obtain ⟨rfl, rfl⟩ := h1
    cases h
    exact .inr ⟨hl, hz, rfl, rfl⟩
theorem ofX_more {k kd u row : Nat} {g g' : G} {ops : List Nm} {args : List Ty} {m : Nat} (hk : kd ≠ 0) (ha : args.length ≤ 2) (h : ofX (k + 1) g (.mk kd u row ops args) = some (g', m)) : ∃ g1 ms, oargs k g args [] = some (g1, ms) ∧ OFin kd row ops g1 ms[0]? ms[1]? g' m := by
  unfold ofX at h
  rw [if_neg hk] at h
  have fin : ∀ {g2 : G} {a b : Option Nat}, (if kd = 6 then (match ofnx g2 row with | some (g, m) => (match g.putRow ops (some m) with | some (g, r) => g.put kd a b r | none => none) | none => none) else g2.put kd a b 0) = some (g', m) → OFin kd row ops g2 a b g' m := fun {g2 a b} h => by
    split at h
    · rename_i k6
      split at h <;> try contradiction
      rename_i g3 x h3
      split at h <;> try contradiction
      rename_i g4 r h4
      exact .inr ⟨k6, g3, x, g4, r, h3, h4, h⟩
    · rename_i k6; exact .inl ⟨k6, h⟩
  match args, ha with
  | [], _ =>
    simp only [List.getElem?_nil, ofkid] at h
    exact ⟨g, [], rfl, fin h⟩
  | [t], _ =>
    simp only [List.getElem?_cons_zero, List.getElem?_cons_succ, List.getElem?_nil, ofkid] at h
    split at h <;> try contradiction
    rename_i g1 a h1
    split at h1 <;> try contradiction
    rename_i g2 m1 h2
    cases h1
    exact ⟨g1, [m1], by simp [oargs, h2], fin h⟩
  | [t, t'], _ =>
    simp only [List.getElem?_cons_zero, List.getElem?_cons_succ, ofkid] at h
    split at h <;> try contradiction
    rename_i g1 a h1
    split at h1 <;> try contradiction
    rename_i g2 m1 h2
    cases h1
    split at h <;> try contradiction
    rename_i g3 b h3
    split at h3 <;> try contradiction
    rename_i g4 m2 h4
    cases h3
    exact ⟨g3, [m1, m2], by simp [oargs, h2, h4], fin h⟩
  | _ :: _ :: _ :: _, ha => simp at ha
theorem oargs_step {k i : Nat} {g g1 : G} {args : List Ty} {ms msf : List Nat} (h : oargs k g (args.drop i) ms = some (g1, msf)) (hi : i < args.length) : ∃ t g2 m, args[i]? = some t ∧ ofX k g t = some (g2, m) ∧ oargs k g2 (args.drop (i + 1)) (ms ++ [m]) = some (g1, msf) := by
  rw [List.drop_eq_getElem_cons hi, oargs] at h
  split at h <;> try contradiction
  rename_i g2 m h1
  exact ⟨args[i], g2, m, by simp [hi], h1, h⟩
theorem oargs_end {k i : Nat} {g g1 : G} {args : List Ty} {ms msf : List Nat} (h : oargs k g (args.drop i) ms = some (g1, msf)) (hi : args.length ≤ i) : g = g1 ∧ ms = msf := by
  rw [List.drop_of_length_le hi, oargs] at h; cases h; exact ⟨rfl, rfl⟩
/-! ### The maker's maps -/
def mpB (B : List Nat) (l : List (Int × Nat)) : List (Int × Value) := l.map fun p => (p.1, bp ((B[p.2]?).getD 0))
abbrev mpI (bt : Nat) (B : List Nat) (l : List (Int × Nat)) : Sx.Item := mapI (.int .i64) encN bt (mpB B l)
def TvOk (n : Nat) (l : List (Int × Nat)) : Prop := ∀ p ∈ l, p.2 < n
theorem TvOk.at {n : Nat} {l : List (Int × Nat)} (h : TvOk n l) {a : Int} {m : Nat} (k : lookI a l = some m) : m < n := h _ (lookI_mem k)
theorem TvOk.mono {n n' : Nat} {l : List (Int × Nat)} (h : TvOk n l) (k : n ≤ n') : TvOk n' l := fun p hp => by have := h p hp; omega
theorem TvOk.snoc {n : Nat} {l : List (Int × Nat)} (h : TvOk n l) {a : Int} {m : Nat} (k : m < n) : TvOk n (l ++ [(a, m)]) := fun p hp => by
  rcases List.mem_append.1 hp with q | q
  · exact h p q
  · rw [List.mem_singleton.1 q]; exact k
theorem look_mpB (B : List Nat) (a : Int) (l : List (Int × Nat)) : Sx.look a (mpB B l) = (lookI a l).map fun m => bp ((B[m]?).getD 0) := by
  induction l with
  | nil => rfl
  | cons p l ih =>
    obtain ⟨m, v⟩ := p
    have e : mpB B ((m, v) :: l) = (m, bp ((B[v]?).getD 0)) :: mpB B l := rfl
    rw [e]
    simp only [lookI]
    by_cases q : m = a
    · rw [if_pos q]; simp [Sx.look, Sx.pos, q]
    · rw [if_neg q, ← ih]
      unfold Sx.look
      simp only [Sx.pos, if_neg q]
      cases Sx.pos a (mpB B l) with
      | none => rfl
      | some k => simp
theorem mp_none {B : List Nat} {a : Int} {l : List (Int × Nat)} (h : lookI a l = none) : (Sx.look a (mpB B l)).getD (.pointer none) = .pointer none := by rw [look_mpB, h]; rfl
theorem mp_some {B : List Nat} {a : Int} {l : List (Int × Nat)} {m b : Nat} (h : lookI a l = some m) (hb : B[m]? = some b) : (Sx.look a (mpB B l)).getD (.pointer none) = bp b := by rw [look_mpB, h]; simp [hb]
theorem mp_upd {B : List Nat} {a : Int} {l : List (Int × Nat)} {m b : Nat} (h : lookI a l = none) (hb : B[m]? = some b) : Sx.upd a (bp b) (mpB B l) = mpB B (l ++ [(a, m)]) := by
  have hp : Sx.pos a (mpB B l) = none := look_none.1 (by rw [look_mpB, h]; rfl)
  unfold Sx.upd
  rw [hp]
  simp [mpB, hb]
theorem mp_ext {B B' : List Nat} {l : List (Int × Nat)} (h : TvOk B.length l) (k : Pre B B') : mpB B l = mpB B' l := List.map_congr_left fun p hp => by
  have := h p hp
  have e : B[p.2]? = some B[p.2] := by simp [this]
  rw [e, k _ _ e]
theorem Pre.len {B B' : List Nat} (k : Pre B B') : B.length ≤ B'.length := by
  rcases Nat.eq_zero_or_pos B.length with q | q
  · omega
  · have e : B[B.length - 1]? = some B[B.length - 1] := List.getElem?_eq_getElem (by omega)
    have := (List.getElem?_eq_some_iff.1 (k _ _ e)).1
    omega
theorem keyZ (a : Int) : MapKept.IsKey (.int .i64) (encN a) := rfl
theorem injZ (a b : Int) (h : encN a = encN b) : a = b := by simpa [encN] using h
theorem bitsZ (a : Int) : Instr.sameBits 10000 (encN a) (encN a) = true := by simp [encN, Instr.sameBits]
/-! ### A new node -/
/-- The blocks of some nodes. -/
def BL (T : List Nat) (ms bs : List Nat) : Prop := bs = ms.map (fun m => (T[m]?).getD 0) ∧ ∀ m ∈ ms, m < T.length
theorem BL.nil (T : List Nat) : BL T [] [] := ⟨rfl, fun _ h => by cases h⟩
theorem BL.snoc {T : List Nat} {ms bs : List Nat} (h : BL T ms bs) {m b : Nat} (hb : T[m]? = some b) : BL T (ms ++ [m]) (bs ++ [b]) := ⟨by rw [h.1]; simp [hb], fun x hx => by
  rcases List.mem_append.1 hx with q | q
  · exact h.2 x q
  · rw [List.mem_singleton.1 q]; exact (List.getElem?_eq_some_iff.1 hb).1⟩
theorem BL.ext {T T' : List Nat} {ms bs : List Nat} (h : BL T ms bs) (k : Pre T T') : BL T' ms bs := by
  refine ⟨?_, fun m hm => Nat.lt_of_lt_of_le (h.2 m hm) k.len⟩
  rw [h.1]
  refine List.map_congr_left fun m hm => ?_
  have e : T[m]? = some (T[m]'(h.2 m hm)) := List.getElem?_eq_getElem _
  rw [e, k _ _ e]
theorem BL.ks {T : List Nat} {ms bs : List Nat} (h : BL T ms bs) (hl : ms.length ≤ 2) : bs = ksO T ms[0]? ms[1]? := by
  rw [h.1]
  unfold ksO
  match ms, hl with
  | [], _ => rfl
  | [_], _ => rfl
  | [_, _], _ => rfl
  | _ :: _ :: _ :: _, hl => simp at hl
section
variable {T R : List Nat} {g : G} {m : Pm}
abbrev pnew (m : Pm) (s : Slot) (S : Nat → Prop) : Pm := ⟨m.as ++ [s], m.il ++ [none], m.sl, S, m.S2⟩
theorem PR.node (hm : PR T R g m) (b : Nat) {kd r : Nat} {x y : Option Nat} {s : Slot} {S : Nat → Prop} (hx : ∀ p, x = some p → p < g.kind.length) (hy : ∀ p, y = some p → p < g.kind.length) (h6 : kd = 6 → r < g.next.length ∧ r ≠ 0)
    (har : (kd ≠ 4 ∧ kd ≠ 5 ∧ kd ≠ 6 ∧ x = none ∧ y = none) ∨ (kd = 4 ∧ (∃ p, x = some p) ∧ y = none) ∨ ((kd = 5 ∨ kd = 6) ∧ (∃ p, x = some p) ∧ ∃ q, y = some q)) : PR (T ++ [b]) R (gput g kd x y r) (pnew m s S) := by
  have l1 : (g.kind ++ [kd]).length = g.kind.length + 1 := by simp
  have at_ : ∀ {α : Type} {l : List α} {z : α} {n : Nat} {w : α}, (l ++ [z])[n]? = some w → (n < l.length ∧ l[n]? = some w) ∨ (n = l.length ∧ w = z) := fun h => app_at h
  refine ⟨?_, hm.lR, ?_, ?_, ?_, ?_, ?_, fun n e h => ?_, hm.al.app, fun n p h => ?_, fun n h => ?_, hm.kn, hm.z, hm.lo, fun n k h => ?_⟩
  · show (T ++ [b]).length = (g.kind ++ [kd]).length; simp [hm.lT]
  · show (g.a ++ [x]).length = (g.kind ++ [kd]).length; simp [hm.la]
  · show (g.b ++ [y]).length = (g.kind ++ [kd]).length; simp [hm.lb]
  · show (g.row ++ [r]).length = (g.kind ++ [kd]).length; simp [hm.lr]
  · show (g.link ++ [none]).length = (g.kind ++ [kd]).length; simp [hm.ll]
  · show (m.il ++ [none]).length = (g.link ++ [none]).length; simp [hm.li]
  · rcases Nat.lt_or_ge n g.link.length with q | q
    · exact (hm.en n e (h.app_back hm.al q)).app _
    · have hn : n = g.link.length := by have := h.lt; simp [gput] at this; omega
      have h0 : En (g.link ++ [none]) n n := .here (by rw [hn]; simp)
      have : e = n := h.det h0
      subst this
      exact .here (by rw [hn, ← hm.li]; simp)
  · show p < (g.kind ++ [kd]).length
    rw [l1]
    rcases h with h | h
    · rcases at_ h with ⟨_, e⟩ | ⟨_, e⟩
      · have := hm.ka n p (.inl e); omega
      · have := hx p e.symm; omega
    · rcases at_ h with ⟨_, e⟩ | ⟨_, e⟩
      · have := hm.ka n p (.inr e); omega
      · have := hy p e.symm; omega
  · rcases at_ h with ⟨q, e⟩ | ⟨e, e2⟩
    · obtain ⟨r', h1, h2⟩ := hm.kr n e
      exact ⟨r', by show (g.row ++ [r])[n]? = _; rw [app_l (by rw [hm.lr]; exact q)]; exact h1, h2⟩
    · exact ⟨r, by show (g.row ++ [r])[n]? = _; rw [e, ← hm.lr]; simp, h6 e2.symm⟩
  · rcases at_ h with ⟨q, e⟩ | ⟨e, e2⟩
    · have h1 : (gput g kd x y r).a[n]? = g.a[n]? := app_l (by rw [hm.la]; exact q) x
      have h2 : (gput g kd x y r).b[n]? = g.b[n]? := app_l (by rw [hm.lb]; exact q) y
      rw [h1, h2]; exact hm.ar n k e
    · have h1 : (gput g kd x y r).a[n]? = some x := by show (g.a ++ [x])[n]? = _; rw [e, ← hm.la]; simp
      have h2 : (gput g kd x y r).b[n]? = some y := by show (g.b ++ [y])[n]? = _; rw [e, ← hm.lb]; simp
      rw [h1, h2, e2]
      rcases har with ⟨a, b, c, rfl, rfl⟩ | ⟨a, ⟨p, rfl⟩, rfl⟩ | ⟨a, ⟨p, rfl⟩, q, rfl⟩
      · exact .inl ⟨a, b, c, rfl, rfl⟩
      · exact .inr (.inl ⟨a, p, rfl, rfl⟩)
      · exact .inr (.inr ⟨a, p, q, rfl, rfl⟩)
theorem ndC_old (hm : PR T R g m) (hz : m.as.length = T.length) (b : Nat) {kd r : Nat} {x y : Option Nat} {s : Slot} {S : Nat → Prop} {i : Nat} (hi : i < T.length) : ndC (T ++ [b]) R (gput g kd x y r) (pnew m s S) i = ndC T R g m i := by
  have hk : i < g.kind.length := by rw [← hm.lT]; exact hi
  have e1 : (gput g kd x y r).kind[i]? = g.kind[i]? := app_l hk kd
  have e2 : (gput g kd x y r).row[i]? = g.row[i]? := app_l (by rw [hm.lr]; exact hk) r
  have e3 : (pnew m s S).as[i]? = m.as[i]? := app_l (by rw [hz]; exact hi) s
  have e4 : (pnew m s S).il[i]? = m.il[i]? := app_l (by rw [hm.li, hm.ll]; exact hk) none
  unfold ndC slD rowB
  rw [e1, e2, e3, e4]
  congr 4
  obtain ⟨e, he⟩ := hm.al i (by rw [hm.ll]; exact hk)
  have := hm.en i e he
  cases this with
  | here h => rw [h]; rfl
  | on h k => rw [h]; show pB ((T ++ [b])[_]?) = pB (T[_]?); rw [app_l (by rw [hm.lT, ← hm.ll, ← hm.li]; exact k.lt)]
theorem ndC_new (hm : PR T R g m) (hz : m.as.length = T.length) (b : Nat) {kd r na ca : Nat} {x y : Option Nat} {A : Option Addr} {S : Nat → Prop} {rb : Option Nat} (hr : (kd ≠ 6 ∧ rb = none) ∨ (kd = 6 ∧ R[r]? = rb)) : ndC (T ++ [b]) R (gput g kd x y r) (pnew m (A, na, ca) S) T.length = [.int .i64 (kd : Int), .slice A na ca, pB rb, .pointer none] := by
  have e1 : (gput g kd x y r).kind[T.length]? = some kd := by show (g.kind ++ [kd])[_]? = _; rw [hm.lT]; simp
  have e2 : (gput g kd x y r).row[T.length]? = some r := by show (g.row ++ [r])[_]? = _; rw [hm.lT, ← hm.lr]; simp
  have e3 : (pnew m (A, na, ca) S).as[T.length]? = some (A, na, ca) := by show (m.as ++ [_])[_]? = _; rw [← hz]; simp
  have e4 : (pnew m (A, na, ca) S).il[T.length]? = some none := by show (m.il ++ [none])[_]? = _; rw [hm.lT, ← hm.ll, ← hm.li]; simp
  have e5 : rowB R (gput g kd x y r) T.length = rb := by
    rcases hr with ⟨h, rfl⟩ | ⟨h, k⟩
    · exact rowB_no e1 h
    · subst h; rw [rowB_yes e1 e2]; exact k
  rw [ndC_eq e1 e3 e5 (il_none e4)]
  rfl
theorem ksL_new (hm : PR T R g m) (b : Nat) {kd r : Nat} {x y : Option Nat} {bs : List Nat} (hb : bs = ksO T x y) (hx : ∀ p, x = some p → p < g.kind.length) (hy : ∀ p, y = some p → p < g.kind.length) : ksL T g ++ [bs] = ksL (T ++ [b]) (gput g kd x y r) := by
  subst hb
  have ext : ∀ (x y : Option Nat), (∀ p, x = some p → p < g.kind.length) → (∀ p, y = some p → p < g.kind.length) → ksO T x y = ksO (T ++ [b]) x y := fun x y hx hy => by
    unfold ksO
    refine List.map_congr_left fun p hp => ?_
    have : p < g.kind.length := by
      rcases List.mem_append.1 hp with q | q
      · exact hx p (Option.mem_toList.1 q)
      · exact hy p (Option.mem_toList.1 q)
    rw [app_l (by rw [hm.lT]; exact this)]
  unfold ksL
  show _ = (List.range (g.kind ++ [kd]).length).map _
  rw [List.length_append, List.length_singleton, List.range_succ, List.map_append, List.map_singleton]
  have l1 : (gput g kd x y r).a[g.kind.length]? = some x := by show (g.a ++ [x])[_]? = _; rw [← hm.la]; simp
  have l2 : (gput g kd x y r).b[g.kind.length]? = some y := by show (g.b ++ [y])[_]? = _; rw [← hm.lb]; simp
  rw [l1, l2]
  congr 1
  · refine List.map_congr_left fun n hn => ?_
    have hn := List.mem_range.1 hn
    have h1 : (gput g kd x y r).a[n]? = g.a[n]? := app_l (by rw [hm.la]; exact hn) x
    have h2 : (gput g kd x y r).b[n]? = g.b[n]? := app_l (by rw [hm.lb]; exact hn) y
    rw [h1, h2]
    refine ext _ _ (fun p hp => ?_) (fun p hp => ?_)
    · cases ha : g.a[n]? with
      | none => rw [ha] at hp; cases hp
      | some o => rw [ha] at hp; simp at hp; subst hp; exact hm.ka n p (.inl ha)
    · cases ha : g.b[n]? with
      | none => rw [ha] at hp; cases hp
      | some o => rw [ha] at hp; simp at hp; subst hp; exact hm.ka n p (.inr ha)
  · simp only [Option.getD_some]; rw [ext x y hx hy]
end
end Go.Slv
namespace Go.Sx
open Go.RowKit Go.Gx Go.MapKept
section
variable [Rd] {P : Program} {B : Exit → Act → World → Prop} [Pn B] {b : Nat → Value} {n : Nat} {d : List Deferred} {w0 w : World} {x : St} {L0 L : List Item} {α : Type} [DecidableEq α]
omit [Rd] in
theorem lk_run0 {o : Oper} {t kt et : TypeId} {mo ix : Operand} {l : List (Nat × Value)} (hop : o.op = .lookup t mo ix false) {kd : TypeDesc} {enc : α → Value} {bt : Nat} {mp : List (α × Value)} {a : α} {z : Value}
    (h3 : ev b n l mo = .map (some bt)) (h4 : ev b n l ix = enc a) (hh : (mapI kd enc bt mp).holds w) (hk : ∀ a, IsKey kd (enc a)) (hinj : ∀ a b, enc a = enc b → a = b)
    (ht : mapT P t = some (kt, et)) (hkt : P.underlying kt = some kd) (hz : (P.info? et).bind (·.zero) = some z) :
    (execOp (ev b n l) o).run P w = .ok (.value ((Sx.look a mp).getD z)) w := by
  obtain ⟨⟨es, ck, hb, hst, hky, hm⟩, _, _⟩ := hh
  have hmt := mapT_eq ht
  have hfn := findNow_pos hk hinj a es.toList mp 0 hm
  rw [look_eq] at hfn
  have hzv : (zeroValue et).run P w = .ok z w := by
    cases hinf : P.info? et with
    | none => simp [hinf] at hz
    | some inf => rw [hinf] at hz; simp only [Option.bind_some] at hz; simp [zeroValue, typeInfo, hinf, hz]
  unfold execOp
  have hgo := MapKept.run_getObj_map (P := P) (w := w) hb
  have hck : (Instr.checkKey es.isEmpty 10000 kt (enc a)).run P w = .ok () w := run_checkKey hkt (hk a) _ 9999
  cases hp : pos a mp with
  | none =>
    have hl := look_none.2 hp
    rw [hp] at hfn
    have hfk := run_findKey (P := P) (w := w) hkt hfn
    simp [hop, h3, h4, Instr.lookup, run_underlying hmt, Sem.run_bind, hgo, hck, hfk, hzv, hl, Result.andThen]
  | some j =>
    obtain ⟨v, hv⟩ := pos_some hp
    have hl : Sx.look a mp = some v := by unfold Sx.look; rw [hp]; simp [hv]
    rw [hp] at hfn
    simp only [hl, Option.map_some] at hfn
    have hfk := run_findKey (P := P) (w := w) hkt hfn
    simp [hop, h3, h4, Instr.lookup, run_underlying hmt, Sem.run_bind, hgo, hck, hfk, hl, Result.andThen]
def lkO0 (b : Nat → Value) (n : Nat) (z : Tz) : Option (List Value × List Nat) := match z.o.op with
  | .lookup t mp ix ok => match ok with
    | false => some ([ev b n z.l mp, ev b n z.l ix], [t])
    | true => none
  | _ => none
/-- A map of numbers is asked. -/
theorem tvk0 (i : Nat) (C : List Nat) (jj : Nat) {kd : TypeDesc} {enc : α → Value} {bt t kt et : Nat} {mp : List (α × Value)} (a : α) (z v : Value) (hk : ∀ a, IsKey kd (enc a)) (hinj : ∀ a b, enc a = enc b → a = b)
    (hv : (Sx.look a mp).getD z = v) (hS : clrA x = true → Sp w (LJof x))
    (k : Goal P B b n d ((vX (via P b n 0 w x (tvR b n i C))).k v) w) (hi : (LJof x)[jj]? = some (mapI kd enc bt mp))
    (h : vA (via P b n 0 w x (tvR b n i C)) = vB w (via P b n 0 w x (tvR b n i C)))
    (h2 : lkO0 b n (vX (via P b n 0 w x (tvR b n i C))) = some ([.map (some bt), enc a], [t]))
    (ht : mapT P t = some (kt, et)) (hkt : P.underlying kt = some kd) (hz : (P.info? et).bind (·.zero) = some z) : Goal P B b n d x w := by
  refine tv i C _ hS (fun w' hs => ?_) k h
  generalize vX (via P b n 0 w x (tvR b n i C)) = zz at *
  unfold lkO0 at h2
  split at h2 <;> try contradiction
  rename_i t' mo ix ok hop
  split at h2 <;> try contradiction
  simp only [Option.some.injEq, Prod.mk.injEq, List.cons.injEq, and_true] at h2
  obtain ⟨⟨h3, h4⟩, rfl⟩ := h2
  subst hv
  exact lk_run0 hop h3 h4 (hs.all _ (List.mem_of_getElem? hi)) hk hinj ht hkt hz
end
end Go.Sx
namespace Go.Slv
open Go.RowKit Go.Sx Go.Inf Go.Gx
section
variable [Rd] {P : Program} {E : Exit → Act → World → Prop} [Pn E] {b : Nat → Value} {n : Nat} {d : List Deferred} {w0 w : World} {x : St} {L0 L : List Sx.Item}
theorem tvmp (i : Nat) (C : List Nat) (jj bt : Nat) (a : Int) (B : List Nat) (l : List (Int × Nat)) (v : Value) (hv : (Sx.look a (mpB B l)).getD (.pointer none) = v) {t kt et : Nat} (hS : clrA x = true → Sp w (LJof x))
    (k : Goal P E b n d ((vX (via P b n 0 w x (tvR b n i C))).k v) w) (hi : (LJof x)[jj]? = some (mpI bt B l) := by kernel_rfl)
    (h : Sx.vA (via P b n 0 w x (tvR b n i C)) = Sx.vB w (via P b n 0 w x (tvR b n i C)) := by kernel_rfl)
    (h2 : lkO0 b n (vX (via P b n 0 w x (tvR b n i C))) = some ([.map (some bt), .int .i64 a], [t]) := by kernel_rfl)
    (ht : mapT P t = some (kt, et) := by kernel_rfl) (hkt : P.underlying kt = some (.int .i64) := by kernel_rfl) (hz : (P.info? et).bind (·.zero) = some (.pointer none) := by kernel_rfl) : Goal P E b n d x w :=
  tvk0 i C jj a (.pointer none) v keyZ injZ hv hS k hi h h2 ht hkt hz
omit [Pn E] in
theorem mump (m i bt : Nat) (a : Int) (v : Value) (B : List Nat) (l l' : List (Int × Nat)) (hm : Sx.upd a v (mpB B l) = mpB B l') (H : Hs w0 L0 w L) {t kt et : Nat} (hi : L[i]? = some (mpI bt B l))
    (k : ∀ w', Hs w0 L0 w' (L.set i (mpI bt B l')) → Goal P E b n d (Sx.nx (vX (via P b n m w x (Sx.ask (muA b n)))).y (vX (via P b n m w x (Sx.ask (muA b n)))).q undef) w')
    (h : Sx.vA (via P b n m w x (Sx.ask (muA b n))) = Sx.vB w (via P b n m w x (Sx.ask (muA b n))) := by kernel_rfl)
    (h2 : ((vX (via P b n m w x (Sx.ask (muA b n)))).u, (vX (via P b n m w x (Sx.ask (muA b n)))).t) = ([.map (some bt), .int .i64 a, v], [t]) := by kernel_rfl)
    (ht : mapT P t = some (kt, et) := by kernel_rfl) (hkt : P.underlying kt = some (.int .i64) := by kernel_rfl) : Goal P E b n d x w :=
  mu m i H a v hi keyZ injZ bitsZ (fun w' H' => by rw [hm] at H'; exact k w' H') h h2 ht hkt
end
theorem mpI_ext {bt : Nat} {B B' : List Nat} {l : List (Int × Nat)} (h : TvOk B.length l) (k : Pre B B') : mpI bt B l = mpI bt B' l := by unfold mpI; rw [mp_ext h k]
def RvOk (n : Nat) (l : List (Int × Nat)) : Prop := TvOk n l ∧ ∀ p ∈ l, p.2 ≠ 0
theorem RvOk.mono {n n' : Nat} {l : List (Int × Nat)} (h : RvOk n l) (k : n ≤ n') : RvOk n' l := ⟨h.1.mono k, h.2⟩
theorem RvOk.snoc {n : Nat} {l : List (Int × Nat)} (h : RvOk n l) {a : Int} {m : Nat} (k : m < n) (hm : m ≠ 0) : RvOk n (l ++ [(a, m)]) := ⟨h.1.snoc k, fun p hp => by
  rcases List.mem_append.1 hp with q | q
  · exact h.2 p q
  · rw [List.mem_singleton.1 q]; exact hm⟩
theorem RvOk.at {n : Nat} {l : List (Int × Nat)} (h : RvOk n l) {a : Int} {m : Nat} (k : lookI a l = some m) : m < n ∧ m ≠ 0 := ⟨h.1.at k, h.2 _ (lookI_mem k)⟩
theorem ofnx_cases {g g2 : G} {row x : Nat} (h : ofnx g row = some (g2, x)) : (row = 0 ∧ g = g2 ∧ 0 = x) ∨ (0 < row ∧ lookI row g.rv = some x ∧ g = g2) ∨ (0 < row ∧ lookI row g.rv = none ∧ g.ops.length < 1000000000 ∧ x = g.ops.length ∧ g2 = grv (gop1 g [] none) row x) := by
  unfold ofnx at h
  split at h
  · rename_i h0
    split at h
    · rename_i m hl; cases h; exact .inr (.inl ⟨h0, hl, rfl⟩)
    · rename_i hl
      split at h <;> try contradiction
      rename_i g1 m h1
      obtain ⟨hz, rfl, rfl⟩ := opn_op1 h1
      cases h
      exact .inr (.inr ⟨h0, hl, hz, rfl, rfl⟩)
  · cases h; exact .inl ⟨by omega, rfl, rfl⟩
theorem put_s {g g' : G} {kd r m : Nat} {a b : Option Nat} (h : g.put kd a b r = some (g', m)) : g.kind.length < 1000000000 ∧ g' = gput g kd a b r ∧ m = g.kind.length := by
  unfold G.put big at h
  split at h <;> try contradiction
  rename_i hz
  simp only [wO_eq, wN_eq, wL_eq, Option.some.injEq, Prod.mk.injEq] at h
  exact ⟨hz, h.1.symm, h.2.symm⟩
theorem putRow_s {g g' : G} {l : List Nm} {q : Option Nat} {n : Nat} (h : g.putRow l q = some (g', n)) : g.ops.length < 1000000000 ∧ g' = gop1 g l q ∧ n = g.ops.length := by
  unfold G.putRow big at h
  split at h <;> try contradiction
  rename_i hz
  simp only [wO_eq, wN_eq, wL_eq, Option.some.injEq, Prod.mk.injEq] at h
  exact ⟨hz, h.1.symm, h.2.symm⟩
/-- How many parts a kind has. -/
def Shp (kd n : Nat) : Prop := (kd ≠ 4 ∧ kd ≠ 5 ∧ kd ≠ 6 ∧ n = 0) ∨ (kd = 4 ∧ n = 1) ∨ ((kd = 5 ∨ kd = 6) ∧ n = 2)
theorem Shp.ar {kd : Nat} {ms : List Nat} (h : Shp kd ms.length) : (kd ≠ 4 ∧ kd ≠ 5 ∧ kd ≠ 6 ∧ ms[0]? = none ∧ ms[1]? = none) ∨ (kd = 4 ∧ (∃ p, ms[0]? = some p) ∧ ms[1]? = none) ∨ ((kd = 5 ∨ kd = 6) ∧ (∃ p, ms[0]? = some p) ∧ ∃ q, ms[1]? = some q) := by
  rcases h with ⟨a, b, c, h⟩ | ⟨a, h⟩ | ⟨a, h⟩
  · exact .inl ⟨a, b, c, List.getElem?_eq_none (by omega), List.getElem?_eq_none (by omega)⟩
  · exact .inr (.inl ⟨a, ⟨_, List.getElem?_eq_getElem (by omega)⟩, List.getElem?_eq_none (by omega)⟩)
  · exact .inr (.inr ⟨a, ⟨_, List.getElem?_eq_getElem (by omega)⟩, _, List.getElem?_eq_getElem (by omega)⟩)
theorem of6 {k c kd u row : Nat} {g g' : G} {ops : List Nm} {args : List Ty} {m : Nat} (hfi : Fine c (.mk kd u row ops args)) (h : ofX (k + 1) g (.mk kd u row ops args) = some (g', m)) :
    (kd = 0 ∧ lookI u g.tv = some m ∧ g = g') ∨ (kd = 0 ∧ lookI u g.tv = none ∧ m = g.kind.length ∧ g' = gtv (gput g 0 none none 0) u m) ∨
    (∃ g1 ms, (args.length ≤ 2 ∧ ∀ t ∈ args, ∃ c, Fine c t) ∧ oargs k g args [] = some (g1, ms) ∧ ((kd ≠ 0 ∧ kd ≠ 6 ∧ Shp kd args.length ∧ g' = gput g1 kd ms[0]? ms[1]? 0 ∧ m = g1.kind.length) ∨
      (kd = 6 ∧ Shp 6 args.length ∧ ∃ g2 x, ofnx g1 row = some (g2, x) ∧ g' = gput (gop1 g2 ops (some x)) 6 ms[0]? ms[1]? g2.ops.length ∧ m = g2.kind.length))) := by
  have more : kd ≠ 0 → args.length ≤ 2 → (∀ t ∈ args, ∃ c, Fine c t) → Shp kd args.length → ∃ g1 ms, (args.length ≤ 2 ∧ ∀ t ∈ args, ∃ c, Fine c t) ∧ oargs k g args [] = some (g1, ms) ∧ ((kd ≠ 0 ∧ kd ≠ 6 ∧ Shp kd args.length ∧ g' = gput g1 kd ms[0]? ms[1]? 0 ∧ m = g1.kind.length) ∨
      (kd = 6 ∧ Shp 6 args.length ∧ ∃ g2 x, ofnx g1 row = some (g2, x) ∧ g' = gput (gop1 g2 ops (some x)) 6 ms[0]? ms[1]? g2.ops.length ∧ m = g2.kind.length)) := fun h0 hl hf hs => by
    obtain ⟨g1, ms, h1, h2⟩ := ofX_more h0 hl h
    refine ⟨g1, ms, ⟨hl, hf⟩, h1, ?_⟩
    rcases h2 with ⟨k6, h2⟩ | ⟨k6, g2, x, g3, r, h3, h4, h5⟩
    · obtain ⟨_, a, b⟩ := put_s h2
      exact .inl ⟨h0, k6, hs, a, b⟩
    · obtain ⟨_, rfl, rfl⟩ := putRow_s h4
      obtain ⟨_, a, b⟩ := put_s h5
      subst k6
      exact .inr ⟨rfl, hs, g2, x, h3, a, b⟩
  rcases hfi.cs with ⟨rfl, _, _, _⟩ | ⟨hk, _, _, _, rfl⟩ | ⟨rfl, _, _, _, c, t, rfl, h1⟩ | ⟨rfl, _, _, _, c, t, c', t', rfl, h1, h2⟩ | ⟨rfl, _, c, t, c', t', rfl, h1, h2⟩
  · rcases ofX_var h with ⟨a, b⟩ | ⟨a, _, b, e⟩
    · exact .inl ⟨rfl, a, b⟩
    · exact .inr (.inl ⟨rfl, a, b, e⟩)
  · exact .inr (.inr (more (by omega) (by simp) (fun t h => by cases h) (.inl ⟨by omega, by omega, by omega, rfl⟩)))
  · exact .inr (.inr (more (by decide) (by simp) (fun t h => by rw [List.mem_singleton.1 h]; exact ⟨c, h1⟩) (.inr (.inl ⟨rfl, rfl⟩))))
  all_goals exact .inr (.inr (more (by decide) (by simp) (fun t h => by
    rcases List.mem_cons.1 h with rfl | q
    · exact ⟨c, h1⟩
    · rw [List.mem_singleton.1 q]; exact ⟨c', h2⟩) (.inr (.inr ⟨by decide, rfl⟩))))
theorem PR.tvrv {T R : List Nat} {g : G} {m : Pm} (hm : PR T R g m) (tv rv : List (Int × Nat)) : PR T R ⟨g.kind, g.a, g.b, g.row, g.link, g.ops, g.next, tv, rv⟩ m := ⟨hm.lT, hm.lR, hm.la, hm.lb, hm.lr, hm.ll, hm.li, hm.en, hm.al, hm.ka, hm.kr, hm.kn, hm.z, hm.lo, hm.ar⟩
theorem as_len {w : World} {T R : List Nat} {g : G} {m : Pm} (hm : PR T R g m) (h : (kidsI m.S1 m.as (ksL T g)).holds w) : m.as.length = T.length := by rw [h.1.1, hm.lT]; simp [ksL]
theorem BL.lt {T : List Nat} {ms bs : List Nat} (h : BL T ms bs) {g : G} (hl : T.length = g.kind.length) (i : Nat) : ∀ p, ms[i]? = some p → p < g.kind.length := fun p hp => by rw [← hl]; exact h.2 p (List.mem_of_getElem? hp)
end Go.Slv
