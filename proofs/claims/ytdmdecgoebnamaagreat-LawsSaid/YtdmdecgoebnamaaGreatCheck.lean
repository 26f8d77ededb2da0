/- The document's types of programs (chapter 4), in plain Lean. -/
import Derived.Test.YtdmdecgoebnamaaGreatYb
import Derived.Test.YtdmdecgoebnamaaGreatGraph
import Derived.Test.YtdmdecgoebnamaaGreatSx6
import Derived.Maps.RangeRun
import Derived.Maps.AppendAt
import Derived.Test.YtdmdecgoebnamaaGreatProg
set_option linter.unusedVariables false
set_option linter.unusedSimpArgs false
namespace Go.aS
open Go.fO
structure sL where
 nm : Nm
 t : Nat
 all : Bool
 tv : List Nat
 rv : List Nat
 gu : Bool
structure Fl where
 nm : Nm
 i : Ty
 o : Ty
 n : Nat
structure Ck where
 g : G
 env : List sL
 ops : List Fl
 fk : Nat
 fa : Int
def add (l : List Nat) (n : Nat) : List Nat := if l.contains n then l else l ++ [n]
def Ck.no (c : Ck) (kd : Nat) (at_ : Int) : Ck := if c.fk = 0 then { c with fk := kd, fa := at_ } else c
def Ck.same (k : Nat) (c : Ck) (m n : Nat) (at_ : Int) : Option Ck :=
 if c.fk ≠ 0 then some c else
 match aS.same k c.g m n with
 | some (g, s) =>
   let c := { c with g := g }
   if s = false then some (c.no 8 at_) else
   match round k g m [] with
   | some (r, _) => if r then some (c.no 8 at_) else
     match round k g n [] with
     | some (r, _) => if r then some (c.no 8 at_) else some c
     | none => none
   | none => none
 | none => none
def Ck.row (k : Nat) (c : Ck) (m n : Nat) (at_ : Int) : Option Ck :=
 if c.fk ≠ 0 then some c else
 match ik k c.g m n with
 | some (g, s) => let c := { c with g := g }; if s then some c else some (c.no 9 at_)
 | none => none
def Ck.rm (k : Nat) (c : Ck) (n : Nat) (at_ : Int) : Option Ck :=
 if c.fk ≠ 0 then some c else
 match parts k c.g n [] with
 | some (p, _) => if 300 < p then some (c.no 10 at_) else some c
 | none => none
def mg (nm : Nm) : List Fl → Option Fl
 | [] => none
 | o :: r => if ee o.nm nm then some o else mg nm r
def vars : Nat → G → Nat → (seen tv rv : List Nat) → Option (List Nat × List Nat × List Nat)
 | 0, _, _, _, _, _ => none
 | k + 1, g, n, seen, tv, rv => match find k g n with
   | some n =>
     if seen.contains n then some (seen, tv, rv) else
     let seen := seen ++ [n]
     match g.kind[n]? with
     | some 0 => some (seen, add tv n, rv)
     | some kd =>
       let arg (x : Option (Option Nat)) (s : List Nat × List Nat × List Nat) : Option (List Nat × List Nat × List Nat) := match x with
         | some none => some s
         | some (some m) => vars k g m s.1 s.2.1 s.2.2
         | none => none
       match arg g.a[n]? (seen, tv, rv) with
       | some s => match arg g.b[n]? s with
         | some s => if kd = 6 then (match g.row[n]? with
           | some r => match whole k g r [] with
             | some (_, 0) => some s
             | some (_, v + 1) => some (s.1, s.2.1, add s.2.2 (v + 1))
             | none => none
           | none => none) else some s
         | none => none
       | none => none
     | none => none
   | none => none
def fE (k : Nat) (g : G) : List sL → (seen tv rv : List Nat) → Option (List Nat × List Nat)
 | [], _, tv, rv => some (tv, rv)
 | x :: e, seen, tv, rv =>
   if x.all then
     match vars k g x.t [] [] [] with
     | some (_, a, b) => fE k g e seen ((a.filter fun n => !x.tv.contains n).foldl add tv) ((b.filter fun n => !x.rv.contains n).foldl add rv)
     | none => none
   else match vars k g x.t seen tv rv with
     | some (seen, tv, rv) => fE k g e seen tv rv
     | none => none
def Ck.il (k : Nat) (c : Ck) (nm : Nm) (n : Nat) : Option sL :=
 match fE k c.g c.env [] [] [], vars k c.g n [] [] [] with
 | some (it, ir), some (_, tv, rv) => some ⟨nm, n, true, tv.filter fun v => !it.contains v, rv.filter fun v => !ir.contains v, true⟩
 | _, _ => none
def Seen.get (s : Seen) (n : Nat) : Option Nat := match s with
 | [] => none
 | (m, v) :: r => if m = n then some v else Seen.get r n
def copied : Nat → G → Nat → sL → (done rows : List (Nat × Nat)) → Option (G × Nat × List (Nat × Nat) × List (Nat × Nat))
 | 0, _, _, _, _, _ => none
 | k + 1, g, n, x, done, rows => match find k g n with
   | some n => match Seen.get done n with
     | some p => some (g, p, done, rows)
     | none => match g.kind[n]? with
       | some 0 => if x.tv.contains n then (match g.var with
           | some (g, m) => some (g, m, Seen.put done n m, rows)
           | none => none)
         else some (g, n, Seen.put done n n, rows)
       | some kd =>
         let arg (y : G → Option (Option Nat)) (s : G × Option Nat × List (Nat × Nat) × List (Nat × Nat)) : Option (G × Option Nat × List (Nat × Nat) × List (Nat × Nat)) := match y s.1 with
           | some none => some (s.1, none, s.2.2.1, s.2.2.2)
           | some (some m) => match copied k s.1 m x s.2.2.1 s.2.2.2 with
             | some (g, m, d, r) => some (g, some m, d, r)
             | none => none
           | none => none
         match arg (fun g => g.a[n]?) (g, none, done, rows) with
         | some (g, a, done, rows) => match arg (fun g => g.b[n]?) (g, none, done, rows) with
           | some (g, b, done, rows) =>
             let rw : Option (G × Nat × List (Nat × Nat)) := if kd = 6 then (match g.row[n]? with
               | some r => match whole k g r [] with
                 | some (ops, v) =>
                   let vv : Option (G × Nat × List (Nat × Nat)) := if v ≠ 0 && x.rv.contains v then (match Seen.get rows v with
                     | some p => some (g, p, rows)
                     | none => match g.gu with
                       | some (g, w) => some (g, w, Seen.put rows v w)
                       | none => none) else some (g, v, rows)
                   match vv with
                   | some (g, v, rows) => match g.putRow ops (some v) with
                     | some (g, q) => some (g, q, rows)
                     | none => none
                   | none => none
                 | none => none
               | none => none) else some (g, 0, rows)
             match rw with
             | some (g, q, rows) => match g.put kd a b q with
               | some (g, m) => some (g, m, Seen.put done n m, rows)
               | none => none
             | none => none
           | none => none
         | none => none
       | none => none
   | none => none
def opened : Nat → G → Nat → Option (G × Nat)
 | 0, _, _ => none
 | k + 1, g, n => match find k g n with
   | some n => match g.kind[n]? with
     | some 6 => match g.b[n]? with
       | some (some b) => match opened k g b with
         | some (g, b) => match g.row[n]? with
           | some r => match whole k g r [] with
             | some (ops, v) =>
               let vv : Option (G × Nat) := if v = 0 then g.gu else some (g, v)
               match vv with
               | some (g, v) => match g.putRow ops (some v) with
                 | some (g, q) => match g.a[n]? with
                   | some a => g.put 6 a (some b) q
                   | none => none
                 | none => none
               | none => none
             | none => none
           | none => none
         | none => none
       | _ => none
     | some _ => some (g, n)
     | none => none
   | none => none
def use (k : Nat) (g : G) (x : sL) : Option (G × Nat) :=
 let c : Option (G × Nat) := if x.all then (match copied k g x.t x [] [] with
   | some (g, n, _, _) => some (g, n)
   | none => none) else some (g, x.t)
 match c with
 | some (g, n) => if x.gu then opened k g n else some (g, n)
 | none => none
def qQ : Nat → Nd → Option Ty
 | 0, _ => none
 | k + 1, n =>
   let nB (i : Nat) : Option Ty := match n.ks[i]? with
     | some d => qQ k d
     | none => none
   if n.k = 24 then some (.mk 1 0 0 [] []) else if n.k = 25 then some (.mk 2 0 0 [] []) else if n.k = 26 then some (.mk 3 0 0 [] [])
   else if n.k = 27 then (match nB 0 with
     | some a => some (.mk 4 0 0 [] [a])
     | none => none)
   else match nB 0, nB 1 with
     | some a, some b => if n.k = 28 then some (.mk 5 0 0 [] [a, b]) else if n.ks.length < 1000000000 then some (.mk 6 0 0 ((n.ks.drop 2).foldl (fun l d => iY l d.nm) []) [a, b]) else none
     | _, _ => none
def jP : Nat → Ty → Option Nat
 | 0, _ => none
 | k + 1, .mk _ _ _ ops args => args.foldl (fun s a => match s, jP k a with
   | some n, some m => if n + m ≤ 2147483647 then some (n + m) else none
   | _, _ => none) (some (1 + ops.length))
def KK (s : Nm) (l : List Nm) : Bool := l.any fun x => ee x s
def sM (c : Ck) (all : List Nm) (before : List Nd) (d : Nd) : Ck :=
 let c := if KK d.nm all then c else c.no 6 d.a
 before.foldl (fun c e => if ee e.nm d.nm then c.no 7 d.a else c) c
def gI (c : Ck) (all : List Nm) : List Nd → List Nd → Ck
 | _, [] => c
 | before, d :: r => gI (sM c all before d) all (before ++ [d]) r
def cf : Nat → Ck → Nd → List Nm → Option Ck
 | 0, _, _, _ => none
 | k + 1, c, n, all =>
   if c.fk ≠ 0 then some c else
   if n.k ≠ 29 then n.ks.foldl (fun s d => match s with
     | some c => cf k c d all
     | none => none) (some c)
   else match n.ks with
     | a :: b :: r => match cf k c a all with
       | some c => cf k (gI c all [] r) b all
       | none => none
     | _ => none
def gJ (k : Nat) (all : List Nm) : Nat → List Nd → Ck → Option Ck
 | _, [], c => some c
 | i, d :: r, c =>
   if c.fk ≠ 0 then some c else
   match mg d.nm c.ops with
   | some _ => some (c.no 7 d.a)
   | none => match d.ks with
     | x :: y :: _ => match cf k c x all with
       | some c => match cf k c y all with
         | some c => if c.fk ≠ 0 then some c else
           match qQ k x, qQ k y with
           | some ti, some to => match jP k ti, jP k to with
             | some p, some q => gJ k all (i + 1) r { (if 300 < p || 300 < q then c.no 10 d.a else c) with ops := c.ops ++ [⟨d.nm, ti, to, i⟩] }
             | _, _ => none
           | _, _ => none
         | none => none
       | none => none
     | _ => none
def value (n : Nd) : Bool := n.k == 3 || n.k == 4 || n.k == 5 || n.k == 15 || n.k == 6 || n.k == 7
def gK (nm : Nm) (e : List sL) : Option sL := (e.reverse.find? fun x => ee x.nm nm)
def Ck.with (c : Ck) (x : sL) : Ck := { c with env := c.env ++ [x] }
def Ck.out (c : Ck) (n : Nat) : Ck := { c with env := c.env.take (c.env.length - n) }
def mono (nm : Nm) (t : Nat) : sL := ⟨nm, t, false, [], [], false⟩
def Ck.put (c : Ck) (kd : Nat) (a b : Option Nat) (r : Nat) : Option (Ck × Nat) := match c.g.put kd a b r with
 | some (g, m) => some ({ c with g := g }, m)
 | none => none
def Ck.var (c : Ck) : Option (Ck × Nat) := c.put 0 none none 0
def Ck.putRow (c : Ck) (l : List Nm) (nx : Option Nat) : Option (Ck × Nat) := match c.g.putRow l nx with
 | some (g, m) => some ({ c with g := g }, m)
 | none => none
def Ck.gu (c : Ck) : Option (Ck × Nat) := c.putRow [] none
def Ck.tG (k : Nat) (c : Ck) (t : Ty) : Option (Ck × Nat) := match aS.tG k c.g t with
 | some (g, m) => some ({ c with g := g }, m)
 | none => none
def qp (ex : Ck → Nd → Nat → Option (Ck × Nat)) (k : Nat) (c : Ck) (d : Nd) : Option (Ck × Nat) := do
 let (c, row) ← c.gu
 let d0 ← d.ks[0]?
 if d.n = 0 then ex c d0 row else
   let (c, v) ← c.var
   let (c, t) ← ex (c.with (mono d.nm v)) d0 row
   let c ← (c.out 1).same k v t d.a
   some (c, t)
def iD (ex : Ck → Nd → Nat → Option (Ck × Nat)) (k : Nat) (n : Nd) (row inner t b : Nat) : List Nd → Ck → Option Ck
 | [], c => some c
 | d :: r, c => do
   let o ← mg d.nm c.ops
   let (c, i) ← c.tG k o.i
   let (c, o) ← c.tG k o.o
   let (c, f) ← c.put 6 (some o) (some b) row
   let (c, f) ← if n.n = 1 then c.put 6 (some o) (some t) inner else some (c, f)
   let p0 ← d.ks[0]?
   let p1 ← d.ks[1]?
   let p2 ← d.ks[2]?
   let c := (c.with ⟨p0.nm, i, false, [], [], true⟩).with ⟨p1.nm, f, false, [], [], true⟩
   let (c, e) ← ex c p2 row
   let c ← (c.out 2).same k e b p2.a
   iD ex k n row inner t b r c
def mh (ops : List Fl) : List Nd → List Nm → Ck → Ck
 | [], _, c => c
 | d :: r, names, c =>
   let c := match mg d.nm ops with
     | some _ => c
     | none => c.no 6 d.a
   let c := names.foldl (fun c s => if ee s d.nm then c.no 7 d.a else c) c
   mh ops r (names ++ [d.nm]) c
def expr : Nat → Ck → Nd → Nat → Option (Ck × Nat)
 | 0, _, _, _ => none
 | k + 1, c, n, row =>
   let ex := expr k
   if c.fk ≠ 0 then c.var else
   match n.k with
   | 3 => c.put 1 none none 0
   | 4 => c.put 2 none none 0
   | 5 => c.put 3 none none 0
   | 15 => do
     let (c, v) ← c.var
     c.put 4 (some v) none 0
   | 6 => match gK n.nm c.env with
     | some x => match use k c.g x with
       | some (g, m) => some ({ c with g := g }, m)
       | none => none
     | none => (c.no 6 n.a).var
   | 7 => do
     let (c, v) ← c.var
     let (c, r) ← c.gu
     let d ← n.ks[0]?
     let (c, b) ← ex (c.with (mono n.nm v)) d r
     (c.out 1).put 6 (some v) (some b) r
   | 8 => do
     let d0 ← n.ks[0]?
     let d1 ← n.ks[1]?
     let (c, f) ← ex c d0 row
     let (c, a) ← ex c d1 row
     let (c, p) ← c.var
     let (c, b) ← c.var
     let (c, q) ← c.gu
     let (c, t) ← c.put 6 (some p) (some b) q
     let c ← c.same k f t d0.a
     let c ← c.same k p a d1.a
     let c ← c.row k q row n.a
     some (c, b)
   | 9 => do
     let d0 ← n.ks[0]?
     let d1 ← n.ks[1]?
     let (c, x) ← if n.n = 1 then do
         let (c, t) ← qp ex k c n
         let c ← c.rm k t n.a
         let x ← c.il k n.nm t
         some (c, x)
       else do
         let (c, t) ← ex c d0 row
         let c ← c.rm k t n.a
         if value d0 then do
           let x ← c.il k n.nm t
           some (c, x)
         else some (c, mono n.nm t)
     let (c, t) ← ex (c.with x) d1 row
     some (c.out 1, t)
   | 10 => do
     let d0 ← n.ks[0]?
     let d1 ← n.ks[1]?
     let (c, _) ← ex c d0 row
     ex c d1 row
   | 11 => do
     let d0 ← n.ks[0]?
     let d1 ← n.ks[1]?
     let d2 ← n.ks[2]?
     let (c, a) ← ex c d0 row
     let (c, b) ← c.put 2 none none 0
     let c ← c.same k a b d0.a
     let (c, t) ← ex c d1 row
     let (c, e) ← ex c d2 row
     let c ← c.same k e t d2.a
     some (c, t)
   | 12 => do
     let d0 ← n.ks[0]?
     let d1 ← n.ks[1]?
     let (c, a) ← ex c d0 row
     let (c, b) ← ex c d1 row
     c.put 5 (some a) (some b) 0
   | 16 => do
     let d0 ← n.ks[0]?
     let d1 ← n.ks[1]?
     let (c, a) ← ex c d0 row
     let (c, b) ← ex c d1 row
     let (c, l) ← c.put 4 (some a) none 0
     let c ← c.same k b l d1.a
     some (c, b)
   | 17 => do
     let d0 ← n.ks[0]?
     let d1 ← n.ks[1]?
     let p2 ← n.ks[2]?
     let p3 ← n.ks[3]?
     let d4 ← n.ks[4]?
     let (c, a) ← ex c d0 row
     let (c, v) ← c.var
     let (c, l) ← c.put 4 (some v) none 0
     let c ← c.same k a l d0.a
     let (c, t) ← ex c d1 row
     let (c, e) ← ex ((c.with (mono p2.nm v)).with (mono p3.nm l)) d4 row
     let c ← (c.out 2).same k e t d4.a
     some (c, t)
   | 18 => do
     let d0 ← n.ks[0]?
     let d1 ← n.ks[1]?
     let (c, a) ← ex c d0 row
     let (c, t) ← c.put 1 none none 0
     let c ← c.same k a t d0.a
     let (c, a) ← ex c d1 row
     let (c, t) ← c.put 1 none none 0
     let c ← c.same k a t d1.a
     if ee n.nm ⟨#[60]⟩ || ee n.nm ⟨#[61, 61]⟩ then c.put 2 none none 0 else c.put 1 none none 0
   | 19 => match mg n.nm c.ops with
     | none => (c.no 6 n.a).var
     | some o => do
       let d0 ← n.ks[0]?
       let (c, a) ← ex c d0 row
       let (c, i) ← c.tG k o.i
       let (c, r) ← c.tG k o.o
       let c ← c.same k a i d0.a
       let (c, v) ← c.gu
       let (c, q) ← c.putRow [n.nm] (some v)
       let c ← c.row k row q n.a
       some (c, r)
   | 13 | 14 => do
     let d0 ← n.ks[0]?
     let (c, a) ← ex c d0 row
     let (c, x) ← c.var
     let (c, y) ← c.var
     let (c, p) ← c.put 5 (some x) (some y) 0
     let c ← c.same k a p d0.a
     some (c, if n.k = 13 then x else y)
   | _ => do
     let d0 ← n.ks[0]?
     let rt ← n.ks[1]?
     let rb ← rt.ks[0]?
     let cl := n.ks.drop 2
     let _ ← if n.ks.length < 1000000000 then some () else none
     let c := mh c.ops cl [] c
     if c.fk ≠ 0 then c.var else
       let (c, inner) ← c.putRow (cl.map fun d => d.nm) (some row)
       let (c, t) ← ex c d0 inner
       let (c, b) ← ex (c.with (mono rt.nm t)) rb row
       let c ← iD ex k n row inner t b cl (c.out 1)
       some (c, b)
end Go.aS
namespace Go.aS
open Go.RowKit Go.Sx
theorem Hx {k m n : Nat} {c c' : Ck} {a : Int} (h : c.same k m n a = some c') :
   (c.fk ≠ 0 → c = c') ∧ (c.fk = 0 → ∃ g s, aS.same k c.g m n = some (g, s) ∧ (s = false → { c with g := g, fk := 8, fa := a } = c') ∧
     (s = true → ∃ r1 z1, round k g m [] = some (r1, z1) ∧ (r1 = true → { c with g := g, fk := 8, fa := a } = c') ∧
       (r1 = false → ∃ r2 z2, round k g n [] = some (r2, z2) ∧ (r2 = true → { c with g := g, fk := 8, fa := a } = c') ∧ (r2 = false → { c with g := g } = c')))) := by
 unfold Ck.same at h;split at h
 · rename_i e; cases h; exact ⟨fun _ => rfl, fun q => absurd q e⟩
 · rename_i e;have e : c.fk = 0 := by simpa using e
   refine ⟨fun q => absurd e q, fun _ => ?_⟩;split at h <;> try contradiction
   rename_i g s hs;refine ⟨g, s, hs, ?_⟩;cases s with
   | false => simp only [if_true, Option.some.injEq, Ck.no, e] at h; exact ⟨fun _ => h, fun q => by cases q⟩
   | true =>
     refine ⟨fun q => (by cases q), fun _ => ?_⟩;simp only [Bool.true_eq_false, if_false] at h;split at h <;> try contradiction
     rename_i r1 z1 h1;refine ⟨r1, z1, h1, ?_⟩;cases r1 with
     | true => simp only [if_true, Option.some.injEq, Ck.no, e] at h; exact ⟨fun _ => h, fun q => by cases q⟩
     | false =>
       refine ⟨fun q => (by cases q), fun _ => ?_⟩;simp only [Bool.false_eq_true, if_false] at h;split at h <;> try contradiction
       rename_i r2 z2 h2;refine ⟨r2, z2, h2, ?_⟩;cases r2 with
       | true => simp only [if_true, Option.some.injEq, Ck.no, e] at h; exact ⟨fun _ => h, fun q => by cases q⟩
       | false => simp only [Bool.false_eq_true, if_false, Option.some.injEq] at h; exact ⟨fun q => (by cases q), fun _ => h⟩
theorem Mb {k m n : Nat} {c c' : Ck} {a : Int} (h : c.row k m n a = some c') :
   (c.fk ≠ 0 → c = c') ∧ (c.fk = 0 → ∃ g s, ik k c.g m n = some (g, s) ∧ (s = false → { c with g := g, fk := 9, fa := a } = c') ∧ (s = true → { c with g := g } = c')) := by
 unfold Ck.row at h;split at h
 · rename_i e; cases h; exact ⟨fun _ => rfl, fun q => absurd q e⟩
 · rename_i e;have e : c.fk = 0 := by simpa using e
   refine ⟨fun q => absurd e q, fun _ => ?_⟩;split at h <;> try contradiction
   rename_i g s hs;refine ⟨g, s, hs, ?_⟩;cases s with
   | false => simp only [Bool.false_eq_true, if_false, Option.some.injEq, Ck.no, e, if_true] at h; exact ⟨fun _ => h, fun q => by cases q⟩
   | true => simp only [if_true, Option.some.injEq] at h; exact ⟨fun q => (by cases q), fun _ => h⟩
theorem Mc {k n : Nat} {c c' : Ck} {a : Int} (h : c.rm k n a = some c') :
   (c.fk ≠ 0 → c = c') ∧ (c.fk = 0 → ∃ p z, parts k c.g n [] = some (p, z) ∧ (300 < p → { c with fk := 10, fa := a } = c') ∧ (p ≤ 300 → c = c')) := by
 unfold Ck.rm at h;split at h
 · rename_i e; cases h; exact ⟨fun _ => rfl, fun q => absurd q e⟩
 · rename_i e;have e : c.fk = 0 := by simpa using e
   refine ⟨fun q => absurd e q, fun _ => ?_⟩;split at h <;> try contradiction
   rename_i p z hp;refine ⟨p, z, hp, ?_⟩;split at h
   · rename_i q; simp only [Option.some.injEq, Ck.no, e, if_true] at h; exact ⟨fun _ => h, fun r => by omega⟩
   · rename_i q; cases h; exact ⟨fun r => absurd r q, fun _ => rfl⟩
end Go.aS
namespace Go.aS
open Go.RowKit Go.Sx
abbrev pF (k : Nat) (s : Option Nat) (a : Ty) : Option Nat := match s, jP k a with
 | some n, some m => if n + m ≤ 2147483647 then some (n + m) else none
 | _, _ => none
theorem Hy (k : Nat) (l : List Ty) : l.foldl (pF k) none = none := by
 induction l with
 | nil => rfl
 | cons t l ih => rw [List.foldl_cons]; exact ih
theorem Js {k kd u row m : Nat} {ops : List Nm} {args : List Ty} (h : jP (k + 1) (.mk kd u row ops args) = some m) : args.foldl (pF k) (some (1 + ops.length)) = some m := h
theorem Rm {k c m i : Nat} {args : List Ty} (h : (args.drop i).foldl (pF k) (some c) = some m) (hi : i < args.length) :
   ∃ t j, args[i]? = some t ∧ jP k t = some j ∧ c + j ≤ 2147483647 ∧ (args.drop (i + 1)).foldl (pF k) (some (c + j)) = some m := by
 rw [List.drop_eq_getElem_cons hi, List.foldl_cons] at h;cases hp : jP k args[i] with
 | none => simp only [pF, hp] at h; rw [Hy] at h; cases h
 | some j =>
   simp only [pF, hp] at h;split at h
   · rename_i hle; exact ⟨_, j, List.getElem?_eq_getElem hi, hp, hle, h⟩
   · rw [Hy] at h; cases h
end Go.aS
namespace Go.aS
open Go.RowKit Go.Sx Go.fO
theorem Jt (v : Nat) (k : Int) (j : Nat) (h : k = (j : Int)) : ((v : Int) == k) = (v == j) := by
 subst h;by_cases e : v = j
 · subst e; simp
 · have h2 : ¬ ((v : Int) = (j : Int)) := by omega
   rw [beq_eq_false_iff_ne.2 e, beq_eq_false_iff_ne.2 h2]
def eK (Q : Nat → Prop) (ks : List Nd) (A : Option Addr) (c : Nat) : Sx.Item := .ro Q (fun w => KV Q w ks A c)
theorem uX (Q : Nat → Prop) (ks : List Nd) (A : Option Addr) (c : Nat) : Sx.Loc Q (fun w => KV Q w ks A c) := fun _ _ _ hk h => h.frame (fun j hj _ => hk j hj)
theorem Z9 {w0 w : World} {L0 L : List Sx.Item} {Q : Nat → Prop} {ks : List Nd} {A : Option Addr} {c : Nat} (H : Hs w0 L0 w L) (j : Nat) (hi : L[j]? = some (eK Q ks A c)) : KV Q w ks A c := (H.at j hi).1
theorem V2 {w : World} {Q : Nat → Prop} {ks : List Nd} {A : Option Addr} {c i : Nat} {d : Nd} (h : KV Q w ks A c) (hd : ks[i]? = some d) : ∃ (B : Option Addr) (cb : Nat) (a : Addr), A = some a ∧ w.cells? 0 (a.add (i * 5)) 5 = some (vN d B cb) ∧ KV Q w d.ks B cb := by
 obtain ⟨As, cs, hr, hk⟩ := h.at_;have hi : i < ks.length := (List.getElem?_eq_some_iff.1 hd).1;obtain ⟨a, ha, hc⟩ := hr i hi;have e : ks.getD i gF = d := by rw [List.getD_eq_getElem?_getD, hd]; rfl
 have k := hk i hi;simp only [e] at hc k;exact ⟨_, _, a, ha, hc, k⟩
end Go.aS
namespace Go.aS
open Go.RowKit Go.Sx
abbrev Kid := Tv × Ty × (Nat → Prop)
def Md (l : List Kid) : List Value := l.flatMap fun k => Fk k.2.1 k.1
theorem rn (t : Ty) (p : Tv) : (Fk t p).length = 5 := by cases t; rfl
theorem Ro {l : List Kid} {i : Nat} {k : Kid} (h : l[i]? = some k) : ((Md l).drop (i * 5)).take 5 = Fk k.2.1 k.1 := by
 induction l generalizing i with
 | nil => simp at h
 | cons x l ih =>
   have e : Md (x :: l) = Fk x.2.1 x.1 ++ Md l := rfl;cases i with
   | zero => simp at h; subst h; rw [e]; simp [rn]
   | succ i =>
     rw [e, show (i + 1) * 5 = (Fk x.2.1 x.1).length + i * 5 by rw [rn]; omega, List.drop_append];simp only [List.length_append, Nat.add_sub_cancel_left];rw [List.drop_of_length_le (by omega), List.nil_append];exact ih (by simpa using h)
end Go.aS
namespace Go.aS
open Go.RowKit Go.Sx
theorem cZ {w0 w : World} {L0 L : List Sx.Item} {e cap n na ca : Nat} {A B : Option Addr} {Sa : Nat → Prop} {ops : List Nm} {l : List Kid} (H : Hs w0 L0 w L) (I : List Nat) (kd u row : Nat)
   (hp : bp I L = some (.own e 5 B cap n (Md l) :: bf Sa A ops :: l.map fun k => lV k.2.2 k.1 k.2.1)) (hn : na = ops.length) (hc : na ≤ ca ∧ ops.length < 1000000000 ∧ l.length ≤ 2) (hk : n = l.length) :
   ∃ S, Hs w0 L0 w (lV S ⟨A, na, ca, B, n, cap⟩ (.mk kd u row ops (l.map (·.2.1))) :: rest I L) := by
 refine ⟨_, H.fz I hp (fun s => ?_) (eQ _ _ _)⟩;have h0 := s.all _ (.head _);have h1 := s.all _ (.tail _ (.head _));refine .mk _ (l.map (·.1)) (h1.1.mono fun c Ff => ⟨_, .tail _ (.head _), Ff⟩) hn (by simpa using hc) (by simpa using hk) (by simp) (fun i q t hq ht => ?_) (fun i q t hq ht => ?_)
 · rw [List.getElem?_map] at hq ht;cases hx : l[i]? with
   | none => simp [hx] at hq
   | some k =>
     simp only [hx, Option.map_some, Option.some.injEq] at hq ht;subst hq ht;have hi : i < l.length := (List.getElem?_eq_some_iff.1 hx).1;rcases h0.2 with ⟨_, hz⟩ | ⟨g, cM, cur, hv, _, hg, zI, _, pq, ZV⟩
     · omega
     · injection hv with e1 e2 e3;subst e1;refine ⟨_, rfl, ⟨_, .head _, rfl⟩, ?_⟩;have ea : (⟨g, 0, none⟩ : Addr).add (i * 5) = ⟨g, i * 5, none⟩ := by unfold Addr.add; split <;> simp_all
       have hxs : ((Md l).drop (i * 5)).take 5 = Fk k.2.1 k.1 := Ro hx;rw [ea];refine ChangeShapes.cells?_of (Nat.zero_le _) (rn _ _) (fun j hj => ?_);have hj5 : j < 5 := by simpa [rn] using hj
       have ri : cur[i * 5 + j]? = (Fk k.2.1 k.1)[j]? := by
         rw [← hxs, List.getElem?_take, if_pos hj5, List.getElem?_drop, ← ZV, List.getElem?_take, if_pos (by omega)];simp
       rw [cell_of_row w g _ cur e (0, 0) hg, ri]
 · rw [List.getElem?_map] at hq ht;cases hx : l[i]? with
   | none => simp [hx] at hq
   | some k =>
     simp only [hx, Option.map_some, Option.some.injEq] at hq ht;subst hq ht;have hm : lV k.2.2 k.1 k.2.1 ∈ l.map fun k => lV k.2.2 k.1 k.2.1 := List.mem_map_of_mem (List.mem_of_getElem? hx);have h2 := s.all _ (.tail _ (.tail _ hm));exact h2.1.mono fun c Ff => ⟨_, .tail _ (.tail _ hm), Ff⟩
end Go.aS
namespace Go.aS
open Go.RowKit Go.Sx Go.fO
abbrev Fm (l : List Nm) (d : Nd) : List Nm := iY l d.nm
theorem Ju {k kd na : Nat} {nm : Nm} {nn : Int} {ks : List Nd} {t : Ty} (h : qQ (k + 1) (.mk kd na nm nn ks) = some t) :
   (kd = 24 → .mk 1 0 0 [] [] = t) ∧ (kd = 25 → .mk 2 0 0 [] [] = t) ∧ (kd = 26 → .mk 3 0 0 [] [] = t) ∧
   (kd ≠ 24 → kd ≠ 25 → kd ≠ 26 → kd = 27 → ∃ d0 a, ks[0]? = some d0 ∧ qQ k d0 = some a ∧ .mk 4 0 0 [] [a] = t) ∧
   (kd ≠ 24 → kd ≠ 25 → kd ≠ 26 → kd ≠ 27 → ∃ d0 d1 a b, ks[0]? = some d0 ∧ ks[1]? = some d1 ∧ qQ k d0 = some a ∧ qQ k d1 = some b ∧ (kd = 28 → .mk 5 0 0 [] [a, b] = t) ∧
     (kd ≠ 28 → ks.length < 1000000000 ∧ .mk 6 0 0 ((ks.drop 2).foldl Fm []) [a, b] = t)) := by
 unfold qQ at h;split at h
 · rename_i e1; have e1 : kd = 24 := e1; simp only [Option.some.injEq] at h; exact ⟨fun _ => h, fun q => by omega, fun q => by omega, fun q => absurd e1 q, fun q => absurd e1 q⟩
 rename_i e1;have e1 : ¬ kd = 24 := e1;split at h
 · rename_i e2; have e2 : kd = 25 := e2; simp only [Option.some.injEq] at h; exact ⟨fun q => absurd q e1, fun _ => h, fun q => by omega, fun _ q => absurd e2 q, fun _ q => absurd e2 q⟩
 rename_i e2;have e2 : ¬ kd = 25 := e2;split at h
 · rename_i e3; have e3 : kd = 26 := e3; simp only [Option.some.injEq] at h; exact ⟨fun q => absurd q e1, fun q => absurd q e2, fun _ => h, fun _ _ q => absurd e3 q, fun _ _ q => absurd e3 q⟩
 rename_i e3;have e3 : ¬ kd = 26 := e3;refine ⟨fun q => absurd q e1, fun q => absurd q e2, fun q => absurd q e3, fun _ _ _ e4 => ?_, fun _ _ _ e4 => ?_⟩
 · split at h
   · simp only [Nd.ks] at h;cases h0 : ks[0]? with
     | none => simp [h0] at h
     | some d0 =>
       simp only [h0] at h;cases ha : qQ k d0 with
       | none => simp [ha] at h
       | some a => simp only [ha, Option.some.injEq] at h; exact ⟨d0, a, rfl, ha, h⟩
   · rename_i q; exact absurd e4 q
 · split at h
   · rename_i q; exact absurd q e4
   simp only [Nd.ks] at h;cases h0 : ks[0]? with
   | none => simp [h0] at h
   | some d0 =>
     cases h1 : ks[1]? with
     | none =>
       simp only [h0, h1] at h;split at h <;> simp_all
     | some d1 =>
       simp only [h0, h1] at h;split at h <;> try contradiction
       rename_i a b ha hb;refine ⟨d0, d1, a, b, rfl, rfl, ha, hb, fun e5 => ?_, fun e5 => ?_⟩
       · split at h
         · simpa using h
         · rename_i q; exact absurd e5 q
       · split at h
         · rename_i q; exact absurd q e5
         · have h' : (if ks.length < 1000000000 then some (Ty.mk 6 0 0 (List.foldl Fm [] (List.drop 2 ks)) [a, b]) else none) = some t := h;by_cases hl : ks.length < 1000000000
           · rw [if_pos hl] at h'; exact ⟨hl, Option.some.inj h'⟩
           · rw [if_neg hl] at h'; cases h'
end Go.aS
namespace Go.Sx
open Go.RowKit Go.Gx Go.MapKept
section
variable {α : Type}
def Z_ (es : Array MapEntry) (seen : Array Nat) (enc : α → Value) : Option (α × Value) → Prop
 | none => True
 | some p => ∃ (e : MapEntry) (s : Array Nat), seen = s.push e.born ∧ e ∈ es.toList ∧ e.key = enc p.1 ∧ e.val = p.2
def V4 (kd : TypeDesc) (enc : α → Value) (bt r : Nat) (mp left : List (α × Value)) (cur : Option (α × Value)) (w : World) : Prop :=
 ∃ es ck seen, Has w bt (.map es ck) ∧ C6 kd enc es ck mp ∧ Has w r (.mapIter (some bt) ck seen ck) ∧ ((leftOf es seen).toList.map (fun e => (e.key, e.val))).Perm (left.map (fun p => (enc p.1, p.2))) ∧ Z_ es seen enc cur
def YM (kd : TypeDesc) (enc : α → Value) (bt r : Nat) (mp left : List (α × Value)) (cur : Option (α × Value)) : Item := .abs (fun c => c = bt ∨ c = r) (V4 kd enc bt r mp left cur)
theorem Rp (kd : TypeDesc) (enc : α → Value) (bt r : Nat) (mp left : List (α × Value)) (cur : Option (α × Value)) : Loc (fun c => c = bt ∨ c = r) (V4 kd enc bt r mp left cur) := by
 rintro w w' _ hk ⟨es, ck, seen, h1, h2, h3, h4, h5⟩;exact ⟨es, ck, seen, (hk _ (.inl rfl)).trans h1, h2, (hk _ (.inr rfl)).trans h3, h4, h5⟩
theorem zU {kd : TypeDesc} {enc : α → Value} {bt r : Nat} {mp left : List (α × Value)} {cur : Option (α × Value)} {w : World} (h : V4 kd enc bt r mp left cur w) : (YM kd enc bt r mp left cur).holds w := by
 refine ⟨h, fun c hc => ?_, Rp _ _ _ _ _ _ _⟩;obtain ⟨es, ck, seen, h1, _, h3, _, _⟩ := h;rcases hc with rfl | rfl
 · exact Has.lt h1
 · exact Has.lt h3
theorem Dg {w w1 : World} {r : Nat} {o : Obj} (h : w1 = w ∨ w1 = w.drew) (k : Has w r o) : Has w1 r o := by rcases h with rfl | rfl <;> exact k
theorem Jv (es : Array MapEntry) (seen : Array Nat) (e : MapEntry) (hn : (es.toList.map (·.born)).Nodup) (he : e ∈ (leftOf es seen).toList) :
   (leftOf es seen).toList.Perm (e :: (leftOf es (seen.push e.born)).toList) := by
 unfold leftOf at *;rw [Array.toList_filter] at he ⊢;rw [Array.toList_filter];generalize es.toList = l at *;induction l with
 | nil => simp at he
 | cons x l ih =>
   simp only [List.map_cons, List.nodup_cons] at hn;have Me : ∀ y : MapEntry, (!(seen.push e.born).contains y.born) = ((!seen.contains y.born) && (y.born != e.born)) := by
     intro y;simp only [Array.contains_push];cases seen.contains y.born <;> simp [Bool.not_or, bne]
   by_cases hx : x = e
   · subst hx;have hs : (!seen.contains x.born) = true := (List.mem_filter.1 he).2;rw [List.filter_cons, if_pos hs, List.filter_cons, Me];simp only [bne_self_eq_false, Bool.and_false, Bool.false_eq_true, if_false];refine List.Perm.cons _ ?_;have : l.filter (fun y => !(seen.push x.born).contains y.born) = l.filter (fun y => !seen.contains y.born) := by
       refine List.filter_congr fun y hy => ?_;rw [Me];have : y.born ≠ x.born := fun q => hn.1 (q ▸ List.mem_map_of_mem hy);simp [this]
     rw [this]
   · have he' : e ∈ l.filter (fun y => !seen.contains y.born) := by
       rw [List.filter_cons] at he;split at he
       · rcases List.mem_cons.1 he with q | q
         · exact absurd q.symm hx
         · exact q
       · exact he
     have hb : x.born ≠ e.born := fun q => hn.1 (q ▸ List.mem_map_of_mem (List.mem_filter.1 he').1);have k := ih hn.2 he';rw [List.filter_cons, List.filter_cons, Me];have I8 : (x.born != e.born) = true := by simp [hb]
     rw [I8, Bool.and_true];split
     · exact (k.cons x).trans (List.Perm.swap _ _ _)
     · exact k
end
section
variable {α : Type}
variable [Rd] {P : Program} {B : Exit → Act → World → Prop} {b : Nat → Value} {n : Nat} {d : List Deferred} {w0 w : World} {x : St} {L0 L : List Item}
def Hz (b : Nat → Value) (n : Nat) (x : St) : Option Ask :=
 match hd b n x with
 | some q => match q.2.2.op with
   | .range t mp => some ⟨[ev b n x.l mp], [t], x, q⟩
   | _ => none
 | none => none
theorem rg (m i : Nat) (H : Hs w0 L0 w L) {kd : TypeDesc} {enc : α → Value} {bt t kt et : Nat} {mp : List (α × Value)} (hi : L[i]? = some (rf kd enc bt mp))
   (k : ∀ r w', Hs w0 L0 w' (L.set i (YM kd enc bt r mp mp none)) → Goal P B b n d (nx (vX (via P b n m w x (ask (Hz b n)))).y (vX (via P b n m w x (ask (Hz b n)))).q (.pointer (some ⟨r, 0, none⟩))) w')
   (h : vA (via P b n m w x (ask (Hz b n))) = vB w (via P b n m w x (ask (Hz b n))) := by kernel_rfl)
   (h2 : ((vX (via P b n m w x (ask (Hz b n)))).u, (vX (via P b n m w x (ask (Hz b n)))).t) = ([.map (some bt)], [t]) := by kernel_rfl)
   (ht : ki P t = some (kt, et) := by kernel_rfl) : Goal P B b n d x w := by
 obtain ⟨y, hr, hf⟩ := cG h;refine az hr ?_;generalize vX (via P b n m w x (ask (Hz b n))) = zz at *;unfold Hz at hf;split at hf <;> try contradiction
 rename_i q hq;split at hf <;> try contradiction
 rename_i t' mo hop;simp only [Option.some.injEq] at hf;subst hf;simp only [Prod.mk.injEq, List.cons.injEq, and_true] at h2;obtain ⟨h3, rfl⟩ := h2;obtain ⟨⟨es, ck, hb, hm⟩, _, _⟩ := H.at i hi;have C7 := mf ht;refine cF hq (v := .pointer (some ⟨w.heap.size, 0, none⟩)) (w' := w.alloc (.mapIter (some bt) ck #[] ck)) ?_ (k _ _ ?_)
 · unfold execOp;simp [hop, h3, Instr.range, run_underlying C7, Sem.run_bind, MapKept.run_getObj_map hb, Result.andThen]
 · refine H.put i hi rfl (Kp.qg (AN w _) _) (zU ⟨es, ck, #[], ?_, hm, zF w _, ?_, trivial⟩) (fun c hc => ?_)
   · exact (AN w _).block _ (Has.lt hb) (by simp) |>.trans hb
   · have : leftOf es #[] = es := by unfold leftOf; simp
     rw [this, hm.2.2]
   · rcases hc with rfl | rfl
     · exact .inl rfl
     · exact .inr (Nat.le_refl _)
def EC (b : Nat → Value) (n : Nat) (x : St) : Option Ask :=
 match hd b n x with
 | some q => match q.2.2.op with
   | .next it s => match s with
     | false => some ⟨[ev b n x.l it], [], x, q⟩
     | true => none
   | _ => none
 | none => none
theorem nt (m i : Nat) (H : Hs w0 L0 w L) {kd : TypeDesc} {enc : α → Value} {bt r : Nat} {mp left : List (α × Value)} {cur : Option (α × Value)} (hi : L[i]? = some (YM kd enc bt r mp left cur))
   (k0 : left = [] → Goal P B b n d (nx (vX (via P b n m w x (ask (EC b n)))).y (vX (via P b n m w x (ask (EC b n)))).q (.tuple #[.bool false])) w)
   (k1 : ∀ p nU w', left.Perm (p :: nU) → Hs w0 L0 w' (L.set i (YM kd enc bt r mp nU (some p))) → Goal P B b n d (nx (vX (via P b n m w x (ask (EC b n)))).y (vX (via P b n m w x (ask (EC b n)))).q (.tuple #[.bool true, enc p.1, p.2])) w')
   (h : vA (via P b n m w x (ask (EC b n))) = vB w (via P b n m w x (ask (EC b n))) := by kernel_rfl)
   (h2 : (vX (via P b n m w x (ask (EC b n)))).u = [.pointer (some ⟨r, 0, none⟩)] := by kernel_rfl) : Goal P B b n d x w := by
 obtain ⟨y, hr, hf⟩ := cG h;refine az hr ?_;generalize vX (via P b n m w x (ask (EC b n))) = zz at *;unfold EC at hf;split at hf <;> try contradiction
 rename_i q hq;split at hf <;> try contradiction
 rename_i it s hop;split at hf <;> try contradiction
 simp only [Option.some.injEq] at hf;subst hf;simp only [List.cons.injEq, and_true] at h2;have pG := H.at i hi;obtain ⟨⟨es, ck, seen, hb, hm, hri, hl, hc⟩, dO, _⟩ := pG;have cw := (stamped_iff es ck).1 hm.1;have hx : ∀ v w', (Instr.next (.pointer (some ⟨r, 0, none⟩)) false q.2.2.type).run P w = .ok v w' → (execOp (ev b n y.l) q.2.2).run P w = .ok (.value v) w' := by
   intro v w' hv;unfold execOp;simp [hop, h2, hv, Sem.run_bind, Result.andThen]
 rcases run_next_at (P := P) w q.2.2.type r bt ck ck seen es ck hri hb cw.1 (Nat.le_refl _) with ⟨h0, nL⟩ | ⟨e, he, w1, Mf, nL⟩
 · have : left = [] := by
     have e0 : (leftOf es seen).toList = [] := by
       have := Array.eq_empty_of_size_eq_zero h0;rw [this]
     rw [e0] at hl;have := hl.length_eq;cases left with
     | nil => rfl
     | cons _ _ => simp at this
   exact cF hq (hx _ _ nL) (k0 this)
 · have hp := Jv es seen e cw.2.1 he;have afT : e ∈ es.toList := by
     unfold leftOf at he; rw [Array.toList_filter] at he; exact (List.mem_filter.1 he).1
   obtain ⟨p, hpm, HA⟩ : ∃ p ∈ left, (enc p.1, p.2) = (e.key, e.val) := by
     have : (e.key, e.val) ∈ (leftOf es seen).toList.map (fun e => (e.key, e.val)) := List.mem_map.2 ⟨e, he, rfl⟩;rw [hl.mem_iff] at this;exact List.mem_map.1 this
   simp only [Prod.mk.injEq] at HA;obtain ⟨s, t, rfl⟩ := List.append_of_mem hpm;have hl' : ((leftOf es (seen.push e.born)).toList.map (fun e => (e.key, e.val))).Perm ((s ++ t).map (fun p => (enc p.1, p.2))) := by
     have h1 := (hp.map (fun e => (e.key, e.val))).symm.trans (hl.trans ((List.perm_middle (a := p) (l₁ := s) (l₂ := t)).map _));simp only [List.map_cons, HA.1, HA.2] at h1;exact (List.perm_cons _).1 h1
   have hrb : r ≠ bt := by
     intro q; subst q;have := hb.symm.trans hri; cases this
   refine cF hq (hx _ _ nL) ?_;have KL := Dg Mf hb;have iE := Dg Mf hri;have hE : Ext w w1 := by
     rcases Mf with rfl | rfl
     · exact Ext.refl _
     · exact ⟨rfl, rfl, rfl, Nat.le_refl _, fun _ _ _ => rfl⟩
   have k' := k1 p (s ++ t) (ChangeMaps.setBlock w1 r (.mapIter (some bt) ck (seen.push e.born) ck)) List.perm_middle ?_
   · rw [HA.1, HA.2] at k'; exact k'
   have hG : G w1 (ChangeMaps.setBlock w1 r (.mapIter (some bt) ck (seen.push e.born) ck)) (some r) := vw w1 r _;refine H.put i hi rfl (Kp.trans (Kp.qg hE _) ((Kp.C2 hG).mono fun c hc => .inr (Option.some.inj hc).symm)) (zU ⟨es, ck, seen.push e.born, ?_, hm, qd _ iE, hl', e, seen, rfl, afT, HA.1.symm, HA.2.symm⟩) (fun c hc => .inl hc);exact (hG.block _ (Has.lt KL) (by simp; exact fun q => hrb q.symm)).trans KL
def KM (b : Nat → Value) (n : Nat) (x : St) : Option Ask :=
 match hd b n x with
 | some q => match q.2.2.op with
   | .entry it => some ⟨[ev b n x.l it], [], x, q⟩
   | _ => none
 | none => none
theorem ent (m i : Nat) (H : Hs w0 L0 w L) {kd : TypeDesc} {enc : α → Value} {bt r : Nat} {mp left : List (α × Value)} {p : α × Value} (hi : L[i]? = some (YM kd enc bt r mp left (some p)))
   (k : Goal P B b n d (nx (vX (via P b n m w x (ask (KM b n)))).y (vX (via P b n m w x (ask (KM b n)))).q (.tuple #[enc p.1, p.2])) w)
   (h : vA (via P b n m w x (ask (KM b n))) = vB w (via P b n m w x (ask (KM b n))) := by kernel_rfl)
   (h2 : (vX (via P b n m w x (ask (KM b n)))).u = [.pointer (some ⟨r, 0, none⟩)] := by kernel_rfl) : Goal P B b n d x w := by
 obtain ⟨y, hr, hf⟩ := cG h;refine az hr ?_;generalize vX (via P b n m w x (ask (KM b n))) = zz at *;unfold KM at hf;split at hf <;> try contradiction
 rename_i q hq;split at hf <;> try contradiction
 rename_i it hop;simp only [Option.some.injEq] at hf;subst hf;simp only [List.cons.injEq, and_true] at h2;obtain ⟨⟨es, ck, seen, hb, hm, hri, hl, e, s, rfl, he, h3, h4⟩, _, _⟩ := H.at i hi;have cw := (stamped_iff es ck).1 hm.1;have nL := run_entry_at (P := P) w r bt ck s es ck e hri hb he cw.2.1;refine cF hq ?_ k;unfold execOp;simp [hop, h2, nL, h3, h4, Sem.run_bind, Result.andThen]
omit [Rd] in
end
end Go.Sx
namespace Go.aS
open Go.RowKit Go.Sx Go.Gx Go.MapKept
def uj (l : List Nat) : List (Int × Value) := l.map fun n : Nat => ((n : Int), .bool true)
def kq (s t : List Nat) : Prop := ∀ n, n ∈ s ↔ n ∈ t
theorem kq.rfl' {s : List Nat} : kq s s := fun _ => Iff.rfl
theorem kq.symm {s t : List Nat} (h : kq s t) : kq t s := fun n => (h n).symm
theorem kq.trans {s t u : List Nat} (h : kq s t) (k : kq t u) : kq s u := fun n => (h n).trans (k n)
def zc (w : World) (b : Nat) (s : List Nat) : Prop := ∃ l, kq l s ∧ ∃ es ck, Has w b (.map es ck) ∧ C6 (.int .i64) kj es ck (uj l)
theorem zc.hO {w w' : World} {b : Nat} {s : List Nat} (h : zc w b s) (k : w'.heap[b]? = w.heap[b]?) : zc w' b s := by
 obtain ⟨l, h1, es, ck, h2, h3⟩ := h;exact ⟨l, h1, es, ck, k.trans h2, h3⟩
theorem zc.as {w : World} {b : Nat} {s t : List Nat} (h : zc w b s) (k : kq s t) : zc w b t := by
 obtain ⟨l, h1, h2⟩ := h;exact ⟨l, h1.trans k, h2⟩
def cS (b : Nat) (s : List Nat) : Sx.Item := .abs (fun c => c = b) (fun w => zc w b s)
theorem Mg (b : Nat) (s : List Nat) : Sx.Loc (fun c => c = b) (fun w => zc w b s) := fun _ _ _ hk h => h.hO (hk b rfl)
theorem qq {w : World} {b : Nat} {s : List Nat} (h : zc w b s) : (cS b s).holds w := by
 refine ⟨h, fun c hc => ?_, Mg _ _⟩;obtain ⟨_, _, _, _, h2, _⟩ := h;subst hc; exact Has.lt h2
abbrev smap (b : Nat) (l : List Nat) : Sx.Item := rf (.int .i64) kj b (uj l)
section
variable {w0 w : World} {L0 L : List Sx.Item}
theorem rp (H : Hs w0 L0 w L) (i : Nat) {b : Nat} {s : List Nat} (hi : L[i]? = some (cS b s)) : ∃ l, kq l s ∧ Hs w0 L0 w (L.set i (smap b l)) := by
 obtain ⟨⟨l, h1, es, ck, h2, h3⟩, _, _⟩ := H.at i hi;exact ⟨l, h1, H.as i _ hi rfl (jN h2 h3) (fun _ h => h)⟩
theorem zV (H : Hs w0 L0 w L) (i : Nat) {b : Nat} {l s : List Nat} (hi : L[i]? = some (smap b l)) (hm : kq l s) : Hs w0 L0 w (L.set i (cS b s)) := by
 obtain ⟨⟨es, ck, h2, h3⟩, _, _⟩ := H.at i hi;exact H.as i _ hi rfl (qq ⟨l, hm, es, ck, h2, h3⟩) (fun _ h => h)
theorem vZ (H : Hs w0 L0 w L) (i : Nat) {b : Nat} {s t : List Nat} (hi : L[i]? = some (cS b s)) (hm : kq s t) : Hs w0 L0 w (L.set i (cS b t)) :=
 H.as i _ hi rfl (qq ((H.at i hi).1.as hm)) (fun _ h => h)
theorem jA (H : Hs w0 L0 w L) (i : Nat) {b : Nat} (hi : L[i]? = some (.al b (.map #[] 0))) : Hs w0 L0 w (L.set i (cS b [])) :=
 H.as i _ hi rfl (qq ⟨[], kq.rfl', #[], 0, H.at i hi, ⟨stamped_empty 0, by simp, rfl⟩⟩) (fun _ h => h)
end
theorem HB (q : Nat) (l : List Nat) : (Sx.look (q : Int) (uj l)) = if l.contains q then some (.bool true) else none := by
 induction l with
 | nil => rfl
 | cons n l ih =>
   rw [show uj (n :: l) = ((n : Int), Value.bool true) :: uj l from rfl, zT, ih];by_cases e : n = q
   · subst e; simp
   · have h1 : ¬ ((n : Int) = (q : Int)) := by omega
     have h2 : (q == n) = false := by simp; exact fun h => e h.symm
     rw [if_neg (by simpa using h1), List.contains_cons, h2, Bool.false_or]
theorem Rq (q : Nat) (l : List Nat) : AM (q : Int) (.bool true) (uj l) = uj (add l q) := by
 unfold add;induction l with
 | nil => rfl
 | cons n l ih =>
   rw [show uj (n :: l) = ((n : Int), Value.bool true) :: uj l from rfl, vV, ih];by_cases e : n = q
   · subst e; simp [uj]
   · have h1 : ¬ ((n : Int) = (q : Int)) := by omega
     have h2 : (q == n) = false := by simp; exact fun h => e h.symm
     rw [if_neg (by simpa using h1), List.contains_cons, h2, Bool.false_or];split <;> rfl
theorem Mh (a : Int) (p : Int × Value) (r : List (Int × Value)) : del a (p :: r) = if p.1 = a then r else p :: del a r := by
 unfold del;rw [pos];by_cases e : p.1 = a
 · rw [if_pos e, if_pos e]; rfl
 · rw [if_neg e, if_neg e]; cases pos a r <;> rfl
theorem uY {l : List Nat} {q n : Nat} : n ∈ add l q ↔ n ∈ l ∨ n = q := by
 unfold add;split
 · rename_i h;have h := List.contains_iff_mem.1 h;constructor
   · exact .inl
   · rintro (h' | rfl)
     · exact h'
     · exact h
 · simp
theorem Mi {es : Array MapEntry} {ck : Nat} {l : List Nat} (h : C6 (.int .i64) kj es ck (uj l)) : l.Nodup := by
 obtain ⟨h1, _, h3⟩ := h;have hp := ((stamped_iff es ck).1 h1).2.2;have e : es.toList.map (·.key) = l.map fun n : Nat => kj (n : Int) := by
   have := congrArg (List.map Prod.fst) h3;simpa [uj, Function.comp_def] using this
 have : (es.toList.map (·.key)).Nodup := by unfold List.Nodup; rw [List.pairwise_map]; exact hp
 rw [e] at this;rw [List.Nodup, List.pairwise_map] at this;exact this.imp fun h e => h (by rw [e])
theorem Rr {q : Nat} {l : List Nat} (h : l.Nodup) : del (q : Int) (uj l) = uj (l.filter fun n => n != q) := by
 induction l with
 | nil => rfl
 | cons n l ih =>
   obtain ⟨h1, h2⟩ := List.nodup_cons.1 h;rw [show uj (n :: l) = ((n : Int), Value.bool true) :: uj l from rfl, Mh, ih h2];by_cases e : n = q
   · subst e;rw [if_pos rfl, List.filter_cons];simp only [bne_self_eq_false, Bool.false_eq_true, if_false];congr 1;refine (List.filter_eq_self.2 fun y hy => ?_).symm;have : y ≠ n := fun q => h1 (q ▸ hy);simp [this]
   · have h3 : ¬ ((n : Int) = (q : Int)) := by omega
     rw [if_neg (by simpa using h3), List.filter_cons];simp [e, uj]
theorem pJ {s t : List Nat} (h : kq s t) (q : Nat) : s.contains q = t.contains q := by
 rw [Bool.eq_iff_iff, List.contains_iff_mem, List.contains_iff_mem]; exact h q
section
variable {P : Program} {B : Exit → Act → World → Prop} {b : Nat → Value} {n : Nat} {d : List Deferred} {w0 w : World} {x : St} {L0 L : List Sx.Item}
theorem lkb (m i bt q : Nat) (s : List Nat) (H : Hs w0 L0 w L) {t kt et : Nat} (hi : L[i]? = some (cS bt s))
   (k : Goal P B b n d (Sx.nx (vX (via P b n m w x (Sx.ask (lU b n)))).y (vX (via P b n m w x (Sx.ask (lU b n)))).q (.bool (s.contains q))) w)
   (h : vA (via P b n m w x (Sx.ask (lU b n))) = vB w (via P b n m w x (Sx.ask (lU b n))) := by kernel_rfl)
   (h2 : ((vX (via P b n m w x (Sx.ask (lU b n)))).u, (vX (via P b n m w x (Sx.ask (lU b n)))).t) = ([.map (some bt), .int .i64 (q : Int)], [t, 0]) := by kernel_rfl)
   (ht : ki P t = some (kt, et) := by kernel_rfl) (lE : P.underlying kt = some (.int .i64) := by kernel_rfl) (hz : (P.info? et).bind (·.zero) = some (.bool false) := by kernel_rfl) : Goal P B b n d x w := by
 obtain ⟨l, hl, H'⟩ := rp H i hi;have hlen := (List.getElem?_eq_some_iff.1 hi).1;refine lk (r := 0) m i H' (q : Int) (.bool false) (List.getElem?_set_self hlen) za A_ ?_ h h2 ht lE hz;rw [show (Sx.look (q : Int) (uj l)).getD (.bool false) = .bool (s.contains q) by rw [HB, pJ hl]; cases s.contains q <;> rfl];exact k
theorem mub (m i bt q : Nat) (s : List Nat) (H : Hs w0 L0 w L) {t kt et : Nat} (hi : L[i]? = some (cS bt s))
   (k : ∀ w', Hs w0 L0 w' (L.set i (cS bt (add s q))) → Goal P B b n d (Sx.nx (vX (via P b n m w x (Sx.ask (pH b n)))).y (vX (via P b n m w x (Sx.ask (pH b n)))).q undef) w')
   (h : vA (via P b n m w x (Sx.ask (pH b n))) = vB w (via P b n m w x (Sx.ask (pH b n))) := by kernel_rfl)
   (h2 : ((vX (via P b n m w x (Sx.ask (pH b n)))).u, (vX (via P b n m w x (Sx.ask (pH b n)))).t) = ([.map (some bt), .int .i64 (q : Int), .bool true], [t]) := by kernel_rfl)
   (ht : ki P t = some (kt, et) := by kernel_rfl) (lE : P.underlying kt = some (.int .i64) := by kernel_rfl) : Goal P B b n d x w := by
 obtain ⟨l, hl, H'⟩ := rp H i hi;have hlen := (List.getElem?_eq_some_iff.1 hi).1;refine mu m i H' (q : Int) (.bool true) (List.getElem?_set_self hlen) za A_ L7 (fun w' H2 => ?_) h h2 ht lE;rw [Rq, List.set_set] at H2;have H3 := zV H2 i (List.getElem?_set_self hlen) (s := add s q) (fun n => by rw [uY, uY, hl n]);rw [List.set_set] at H3;exact k w' H3
theorem deb (m i bt q : Nat) (s : List Nat) (H : Hs w0 L0 w L) {t t' kt et : Nat} (hi : L[i]? = some (cS bt s))
   (k : ∀ w', Hs w0 L0 w' (L.set i (cS bt (s.filter fun n => n != q))) → Goal P B b n d (Sx.nx (vX (via P b n m w x (Sx.ask (Hi b n)))).y (vX (via P b n m w x (Sx.ask (Hi b n)))).q (.tuple #[])) w')
   (h : vA (via P b n m w x (Sx.ask (Hi b n))) = vB w (via P b n m w x (Sx.ask (Hi b n))) := by kernel_rfl)
   (h2 : ((vX (via P b n m w x (Sx.ask (Hi b n)))).u, (vX (via P b n m w x (Sx.ask (Hi b n)))).t) = ([.map (some bt), .int .i64 (q : Int)], [t, t']) := by kernel_rfl)
   (ht : ki P t = some (kt, et) := by kernel_rfl) (lE : P.underlying kt = some (.int .i64) := by kernel_rfl) : Goal P B b n d x w := by
 obtain ⟨l, hl, H'⟩ := rp H i hi;have hlen := (List.getElem?_eq_some_iff.1 hi).1;have hnd : l.Nodup := by obtain ⟨⟨es, ck, _, hm⟩, _, _⟩ := H'.at i (List.getElem?_set_self hlen); exact Mi hm
 refine de m i H' (q : Int) (List.getElem?_set_self hlen) za A_ (fun w' H2 => ?_) h h2 ht lE;rw [Rr hnd, List.set_set] at H2;have H3 := zV H2 i (List.getElem?_set_self hlen) (s := s.filter fun n => n != q) (fun n => by rw [List.mem_filter, List.mem_filter, hl n]);rw [List.set_set] at H3;exact k w' H3
abbrev Ud (bt r : Nat) (l left : List Nat) (cur : Option Nat) : Sx.Item := YM (.int .i64) kj bt r (uj l) (uj left) (cur.map fun n : Nat => ((n : Int), .bool true))
theorem rgb (m i bt : Nat) (s : List Nat) (H : Hs w0 L0 w L) {t kt et : Nat} (hi : L[i]? = some (cS bt s))
   (k : ∀ l r w', kq l s → Hs w0 L0 w' (L.set i (Ud bt r l l none)) → Goal P B b n d (Sx.nx (vX (via P b n m w x (Sx.ask (Hz b n)))).y (vX (via P b n m w x (Sx.ask (Hz b n)))).q (.pointer (some ⟨r, 0, none⟩))) w')
   (h : vA (via P b n m w x (Sx.ask (Hz b n))) = vB w (via P b n m w x (Sx.ask (Hz b n))) := by kernel_rfl)
   (h2 : ((vX (via P b n m w x (Sx.ask (Hz b n)))).u, (vX (via P b n m w x (Sx.ask (Hz b n)))).t) = ([.map (some bt)], [t]) := by kernel_rfl)
   (ht : ki P t = some (kt, et) := by kernel_rfl) : Goal P B b n d x w := by
 obtain ⟨l, hl, H'⟩ := rp H i hi;have hlen := (List.getElem?_eq_some_iff.1 hi).1;refine rg m i H' (List.getElem?_set_self hlen) (fun r w' H2 => ?_) h h2 ht;rw [List.set_set] at H2;exact k l r w' hl H2
theorem ntb (m i : Nat) {bt r : Nat} {l left : List Nat} {cur : Option Nat} (H : Hs w0 L0 w L) (hi : L[i]? = some (Ud bt r l left cur))
   (k0 : left = [] → Goal P B b n d (Sx.nx (vX (via P b n m w x (Sx.ask (EC b n)))).y (vX (via P b n m w x (Sx.ask (EC b n)))).q (.tuple #[.bool false])) w)
   (k1 : ∀ q nU w', left.Perm (q :: nU) → Hs w0 L0 w' (L.set i (Ud bt r l nU (some q))) → Goal P B b n d (Sx.nx (vX (via P b n m w x (Sx.ask (EC b n)))).y (vX (via P b n m w x (Sx.ask (EC b n)))).q (.tuple #[.bool true, .int .i64 (q : Int), .bool true])) w')
   (h : vA (via P b n m w x (Sx.ask (EC b n))) = vB w (via P b n m w x (Sx.ask (EC b n))) := by kernel_rfl)
   (h2 : (vX (via P b n m w x (Sx.ask (EC b n)))).u = [.pointer (some ⟨r, 0, none⟩)] := by kernel_rfl) : Goal P B b n d x w := by
 refine nt m i H hi (fun e => k0 (by cases left with | nil => rfl | cons _ _ => simp [uj] at e)) (fun p nU w' hp H2 => ?_) h h2;have I3 : ∀ z ∈ p :: nU, ∃ n : Nat, z = ((n : Int), Value.bool true) := by
   intro z hz;have := hp.symm.subset hz;obtain ⟨n, _, rfl⟩ := List.mem_map.1 this;exact ⟨n, rfl⟩
 obtain ⟨q, rfl⟩ := I3 p (.head _);have hl' : nU = uj (nU.map fun z => z.1.toNat) := by
   unfold uj;rw [List.map_map];conv => lhs; rw [← List.map_id nU]
   refine List.map_congr_left fun z hz => ?_;obtain ⟨n, rfl⟩ := I3 z (.tail _ hz);simp
 have hpp : left.Perm (q :: nU.map fun z => z.1.toNat) := by
   have := hp.map fun z => z.1.toNat
   simpa [uj, Function.comp_def] using this
 rw [hl'] at H2;exact k1 q _ w' hpp H2
theorem Rt (m i : Nat) {bt r q : Nat} {l left : List Nat} (H : Hs w0 L0 w L) (hi : L[i]? = some (Ud bt r l left (some q)))
   (k : Goal P B b n d (Sx.nx (vX (via P b n m w x (Sx.ask (KM b n)))).y (vX (via P b n m w x (Sx.ask (KM b n)))).q (.tuple #[.int .i64 (q : Int), .bool true])) w)
   (h : vA (via P b n m w x (Sx.ask (KM b n))) = vB w (via P b n m w x (Sx.ask (KM b n))) := by kernel_rfl)
   (h2 : (vX (via P b n m w x (Sx.ask (KM b n)))).u = [.pointer (some ⟨r, 0, none⟩)] := by kernel_rfl) : Goal P B b n d x w :=
 ent m i (p := ((q : Int), .bool true)) H hi k h h2
def Ba (w : World) (S : Nat → Prop) (o : Option Nat) (s : List Nat) : Prop := match o with
 | none => s = []
 | some k => S k ∧ zc w k s
theorem Ba.hO {w w' : World} {S : Nat → Prop} {o : Option Nat} {s : List Nat} (h : Ba w S o s) (k : ∀ c, S c → w'.heap[c]? = w.heap[c]?) : Ba w' S o s := by
 cases o with
 | none => exact h
 | some b => exact ⟨h.1, h.2.hO (k b h.1)⟩
theorem Ba.mono {w : World} {S S' : Nat → Prop} {o : Option Nat} {s : List Nat} (h : Ba w S o s) (k : ∀ c, S c → S' c) : Ba w S' o s := by
 cases o with
 | none => exact h
 | some b => exact ⟨k _ h.1, h.2⟩
theorem lkr (m : Nat) {S : Nat → Prop} {o : Option Nat} (q : Nat) (s : List Nat) (hs : Ba w S o s) {t kt et : Nat}
   (k : Goal P B b n d (Sx.nx (vX (via P b n m w x (Sx.ask (lU b n)))).y (vX (via P b n m w x (Sx.ask (lU b n)))).q (.bool (s.contains q))) w)
   (h : vA (via P b n m w x (Sx.ask (lU b n))) = vB w (via P b n m w x (Sx.ask (lU b n))) := by kernel_rfl)
   (h2 : ((vX (via P b n m w x (Sx.ask (lU b n)))).u, (vX (via P b n m w x (Sx.ask (lU b n)))).t) = ([.map o, .int .i64 (q : Int)], [t, 0]) := by kernel_rfl)
   (ht : ki P t = some (kt, et) := by kernel_rfl) (lE : P.underlying kt = some (.int .i64) := by kernel_rfl) (hz : (P.info? et).bind (·.zero) = some (.bool false) := by kernel_rfl) : Goal P B b n d x w := by
 cases o with
 | some bt =>
   obtain ⟨_, l, hl, es, ck, h3, h4⟩ := hs;have H : Hs w [smap bt l] w [smap bt l] := Hs.refl ⟨fun it hi => by rw [List.mem_singleton.1 hi]; exact jN h3 h4, List.pairwise_singleton _ _⟩;refine lk (r := 0) m 0 H (q : Int) (.bool false) rfl za A_ ?_ h h2 ht lE hz;rw [show (Sx.look (q : Int) (uj l)).getD (.bool false) = .bool (s.contains q) by rw [HB, pJ hl]; cases s.contains q <;> rfl];exact k
 | none =>
   have hs : s = [] := hs;subst hs;obtain ⟨y, hr, hf⟩ := cG h;refine az hr ?_;generalize vX (via P b n m w x (Sx.ask (lU b n))) = zz at *;unfold lU at hf;split at hf <;> try contradiction
   rename_i q' hq;split at hf <;> try contradiction
   rename_i t' mo ix ok hop;simp only [Option.some.injEq] at hf;subst hf;simp only [Prod.mk.injEq, List.cons.injEq, and_true] at h2;obtain ⟨⟨h3, h4⟩, rfl, h5⟩ := h2;have C7 := mf ht;have LS : (zeroValue et).run P w = .ok (.bool false) w := by
     cases eE : P.info? et with
     | none => simp [eE] at hz
     | some inf => rw [eE] at hz; simp only [Option.bind_some] at hz; simp [zeroValue, typeInfo, eE, hz]
   have Jm : (Instr.checkKey true 10000 kt (kj (q : Int))).run P w = .ok () w := run_checkKey lE (za _) _ 9999;have uW : (Instr.findKey kt (.int .i64 (q : Int)) []).run P w = .ok none w := run_findKey (P := P) (w := w) lE rfl;refine cF hq (v := .bool false) ?_ k;unfold execOp;cases ok <;> simp only at h5 <;> try contradiction
   simp [hop, h3, h4, Instr.lookup, run_underlying C7, Sem.run_bind, Jm, LS, uW, Result.andThen]
end
end Go.aS
namespace Go.aS
open Go.RowKit Go.Sx Go.Gx Go.fO
def dI (Q : Nat → Prop) (a : Addr) (n : Nat) (cs : List Value) : Sx.Item := .ro Q (fun w => Q a.block ∧ w.cells? 0 a n = some cs)
theorem lI (Q : Nat → Prop) (a : Addr) (n : Nat) (cs : List Value) : Sx.Loc Q (fun w => Q a.block ∧ w.cells? 0 a n = some cs) := fun _ _ _ hk h => ⟨h.1, eZ h.2 (hk _ h.1)⟩
theorem aa {w : World} {a : Addr} {n i m : Nat} {cs : List Value} (h : w.cells? 0 a n = some cs) (hi : i + m ≤ n) : w.cells? 0 (a.add i) m = some ((cs.drop i).take m) := by
 have q := World.cells?_some h;have hl : ((cs.drop i).take m).length = m := by rw [List.length_take, List.length_drop, q.2.1]; omega
 have hc : ∀ j, j < m → w.cell? ((a.add i).add j) = ((cs.drop i).take m)[j]? := fun j hj => by
   rw [add_add, q.2.2 (i + j) (by omega), List.getElem?_take, if_pos hj, List.getElem?_drop]
 cases m with
 | zero =>
   have : (cs.drop i).take 0 = [] := by simp
   rw [this]; unfold World.cells?; simp
 | succ m =>
   have h0 := hc 0 (by omega);generalize a.add i = a' at *;have e0 : a'.add 0 = a' := by unfold Addr.add; simp
   rw [e0] at h0;have hs : a'.spot = none := by
     have hx : ((cs.drop i).take (m + 1))[0]? ≠ none := by rw [List.getElem?_eq_getElem (by omega)]; simp
     rw [← h0] at hx;unfold World.cell? at hx;cases hsp : a'.spot with
     | none => rfl
     | some z => exfalso; apply hx; rw [hsp]; split <;> rfl
   obtain ⟨ab, ao, as⟩ := a';simp only at hs;subst hs;refine ChangeShapes.cells?_of (Nat.zero_le _) hl (fun j hj => ?_);rw [← hc j hj];unfold Addr.add;split
   · rename_i e; subst e; rfl
   · rfl
end Go.aS
namespace Go.Sx
open Go.RowKit Go.Gx
section
variable {P : Program} {fn : Func} {R : Ending → World → Prop} {b : Nat → Value} {n : Nat} {d : List Deferred} {w0 w : World} {x : St} {L0 L : List Sx.Item}
def faO (b : Nat → Value) (n : Nat) (z : Tz) : Option (List Value × List Nat) := match z.o.op with
 | .fieldAddr t s f => some ([ev b n z.l s], [t, f])
 | _ => none
theorem tvf (i : Nat) (C : List Nat) (a : Addr) (off : Nat) (hS : mW x = true → Sp w (jy x))
   (k : Goal P (bodyPost P fn R) b n d ((vX (via P b n 0 w x (gC b n i C))).k (.pointer (some (a.add off)))) w)
   (h : vA (via P b n 0 w x (gC b n i C)) = vB w (via P b n 0 w x (gC b n i C)) := by kernel_rfl)
   (h2 : (faO b n (vX (via P b n 0 w x (gC b n i C)))).map (·.1) = some [.pointer (some a)] := by kernel_rfl)
   (h3 : (match faO b n (vX (via P b n 0 w x (gC b n i C))) with | some q => G_ P (q.2.getD 0 0) (q.2.getD 1 0) off | none => false) = true := by kernel_rfl) : Goal P (bodyPost P fn R) b n d x w := by
 refine tv i C _ hS (fun w' hs => ?_) k h;generalize vX (via P b n 0 w x (gC b n i C)) = z at *;unfold faO at h2 h3;split at h2 <;> try contradiction
 rename_i t s f hop;rw [hop] at h3;simp only [Option.map_some, Option.some.injEq, List.cons.injEq, and_true] at h2;exact nK hop a h2 off h3
end
end Go.Sx
namespace Go.aS
open Go.RowKit Go.Sx Go.Gx Go.fO
section
variable {w0 w : World} {L0 L : List Sx.Item}
theorem aD (H : Hs w0 L0 w L) (j : Nat) {Q : Nat → Prop} {a : Addr} {n : Nat} {cs : List Value} (hi : L[j]? = some (dI Q a n cs)) : w.cells? 0 a n = some cs := (H.at j hi).1.2
theorem fZ {LJ : List Sx.Item} (H : Sp w LJ) (j : Nat) {Q : Nat → Prop} {a : Addr} {n : Nat} {cs : List Value} (hi : LJ[j]? = some (dI Q a n cs)) : w.cells? 0 a n = some cs := (H.all _ (List.mem_of_getElem? hi)).1.2
theorem aJ (H : Hs w0 L0 w L) (j : Nat) {Q : Nat → Prop} {ks : List Nd} {A : Option Addr} {c i : Nat} {d : Nd} (hi : L[j]? = some (eK Q ks A c)) (hd : ks[i]? = some d) :
   ∃ (B : Option Addr) (cb : Nat) (a : Addr), A = some a ∧ Hs w0 L0 w (L ++ [dI Q (a.add (i * 5)) 5 (vN d B cb)] ++ [eK Q d.ks B cb]) := by
 have k := (H.at j hi).1;obtain ⟨B, cb, a, ha, hc, hk⟩ := V2 k hd;refine ⟨B, cb, a, ha, ?_⟩;have hq : Q a.block := by
   cases k with
   | mk As cs _ _ hA _ _ =>
     obtain ⟨a', h1, h2⟩ := hA i (List.getElem?_eq_some_iff.1 hd).1;rw [ha] at h1; cases h1; exact h2
 have H1 := H.ro j (S := Q) (A := fun w => KV Q w ks A c) (B := fun w => Q (a.add (i * 5)).block ∧ w.cells? 0 (a.add (i * 5)) 5 = some (vN d B cb)) hi ⟨by rw [gh]; exact hq, hc⟩ (lI _ _ _ _);have oN : (L ++ [dI Q (a.add (i * 5)) 5 (vN d B cb)])[j]? = some (eK Q ks A c) := by
   rw [List.getElem?_append_left (List.getElem?_eq_some_iff.1 hi).1]; exact hi
 exact H1.ro j (S := Q) (A := fun w => KV Q w ks A c) (B := fun w => KV Q w d.ks B cb) oN hk (uX _ _ _ _)
end
end Go.aS
namespace Go.aS
open Go.RowKit Go.Sx Go.Gx Go.fO
theorem Jw {ks : List Nd} {i : Nat} {acc : List Nm} {kd na : Nat} {nm : Nm} {nn : Int} {k2 : List Nd} (h : ks[i]? = some (.mk kd na nm nn k2)) : (ks.drop i).foldl Fm acc = (ks.drop (i + 1)).foldl Fm (iY acc nm) := by
 obtain ⟨hi, e⟩ := List.getElem?_eq_some_iff.1 h;rw [List.drop_eq_getElem_cons hi, List.foldl_cons, e];rfl
end Go.aS
namespace Go.Mn
open Go.RowKit Go.Sx Go.aS Go.Gx
inductive PK (w : World) (S : Nat → Prop) : PN → Prop
 | mk {k a : Nat} {nm : Nm} {n : Int} {A : Option Addr} {c : Nat} {ks : List PN} (hc : ks.length ≤ c ∧ ks.length < 1000000000) (hr : ∀ (i : Nat) (d : PN), ks[i]? = some d → ∃ g, A = some g ∧ S g.block ∧ w.cells? 0 (g.add (i * 5)) 5 = some d.cells)
     (h : ∀ (i : Nat) (d : PN), ks[i]? = some d → PK w S d) : PK w S (.mk k a nm n A c ks)
theorem PK.hO {w w' : World} {S : Nat → Prop} {d : PN} (h : PK w S d) (k : ∀ c, S c → w'.heap[c]? = w.heap[c]?) : PK w' S d := by
 induction h with
 | mk hc hr _ ih => exact .mk hc (fun i d hi => by obtain ⟨g, e, hS, pq⟩ := hr i d hi; exact ⟨g, e, hS, eZ pq (by rw [gh]; exact k _ hS)⟩) ih
theorem PK.mono {w : World} {S S' : Nat → Prop} {d : PN} (h : PK w S d) (k : ∀ c, S c → S' c) : PK w S' d := by
 induction h with
 | mk hc hr _ ih => exact .mk hc (fun i d hi => by obtain ⟨g, e, hS, pq⟩ := hr i d hi; exact ⟨g, e, k _ hS, pq⟩) ih
theorem PK.nB {w : World} {S : Nat → Prop} {d d' : PN} {i : Nat} (h : PK w S d) (hi : d.ks[i]? = some d') : PK w S d' := by
 cases h with
 | mk _ _ h => exact h i d' hi
def pO (o : Option Nat) : Value := .pointer (o.map fun b => ⟨b, 0, none⟩)
def mZ (k : Nat) (n : Int) (a b : Option Nat) (fn : PN) (e : Option Nat) : List Value := [.int .i64 (k : Int), .int .i64 n, pO a, pO b] ++ fn.cells ++ [pO e, .slice none 0 0, .string ⟨#[]⟩, .bool false, .bool false]
def Mj (A : Option Addr) (n c : Nat) (op : Nm) (once used : Bool) : List Value := [.int .i64 7, .int .i64 0, pO none, pO none] ++ pz.cells ++ [pO none, .slice A n c, .string op, .bool once, .bool used]
structure RR where
 b : Nat
 A : Option Addr
 n : Nat
 c : Nat
 op : Nm
 once : Bool
structure FP where
 f : Fr
 e : Option Nat
 v : Option Nat
def Fp (f : FP) : List Value := match f.f with
 | .mk nd at_ _ _ => nd.cells ++ [.int .i64 (at_ : Int), pO f.e, pO f.v]
def bh (l : List FP) : List Value := l.flatMap Fp
section
variable (w : World) (S : Nat → Prop) (T : List RR)
mutual
inductive dm : Nat → Vl → Prop
 | int {b n} (hS : S b) (h : w.cells? 0 ⟨b, 0, none⟩ 14 = some (mZ 0 n none none pz none)) : dm b (.int n)
 | bool {b x} (hS : S b) (h : w.cells? 0 ⟨b, 0, none⟩ 14 = some (mZ 1 (if x then 1 else 0) none none pz none)) : dm b (.bool x)
 | unit {b} (hS : S b) (h : w.cells? 0 ⟨b, 0, none⟩ 14 = some (mZ 2 0 none none pz none)) : dm b .unit
 | nil {b} (hS : S b) (h : w.cells? 0 ⟨b, 0, none⟩ 14 = some (mZ 3 0 none none pz none)) : dm b .nil
 | cons {b c d x y} (hS : S b) (h : w.cells? 0 ⟨b, 0, none⟩ 14 = some (mZ 4 0 (some c) (some d) pz none)) (hx : dm c x) (hy : dm d y) : dm b (.cons x y)
 | pair {b c d x y} (hS : S b) (h : w.cells? 0 ⟨b, 0, none⟩ 14 = some (mZ 5 0 (some c) (some d) pz none)) (hx : dm c x) (hy : dm d y) : dm b (.pair x y)
 | fn {b nd e o} (hS : S b) (h : w.cells? 0 ⟨b, 0, none⟩ 14 = some (mZ 6 0 none none nd o)) (he : v7 o e) (hk : PK w S nd) : dm b (.fn nd e)
 | res {b i A c op once fr} (fp : List FP) (hi : T[i]? = some ⟨b, A, fr.length, c, op, once⟩) (hf : fp.map (·.f) = fr) (hl : fr.length ≤ c) (hr : ∀ (j : Nat) (f : FP), fp[j]? = some f → ∃ g, A = some g ∧ S g.block ∧ w.cells? 0 (g.add (j * 8)) 8 = some (Fp f)) (h : ∀ (j : Nat) (f : FP), fp[j]? = some f → tJ f.e f.v f.f) : dm b (.res i fr op once)
inductive v7 : Option Nat → En → Prop
 | nil : v7 none .nil
 | put {b vb uo nm v up} (hS : S b) (h : w.cells? 0 ⟨b, 0, none⟩ 3 = some [.string nm, pO (some vb), pO uo]) (hv : dm vb v) (hu : v7 uo up) : v7 (some b) (.put nm v up)
 | rc {b wb uo nm nd up} (hS : S b ∧ S wb) (h : w.cells? 0 ⟨b, 0, none⟩ 3 = some [.string nm, pO (some wb), pO uo]) (hw : w.cells? 0 ⟨wb, 0, none⟩ 14 = some (mZ 6 0 none none nd (some b))) (hk : PK w S nd) (hu : v7 uo up) : v7 (some b) (.rc nm nd up)
inductive tJ : Option Nat → Option Nat → Fr → Prop
 | no {o nd at_ e} (he : v7 o e) (hk : PK w S nd) : tJ o none (.mk nd at_ e none)
 | so {o vb nd at_ e v} (he : v7 o e) (hv : dm vb v) (hk : PK w S nd) : tJ o (some vb) (.mk nd at_ e (some v))
end
end
structure Up (w w' : World) (S S' : Nat → Prop) (T T' : List RR) : Prop where
 k : ∀ c, S c → w'.heap[c]? = w.heap[c]?
 s : ∀ c, S c → S' c
 t : ∀ (i : Nat) (r : RR), T[i]? = some r → T'[i]? = some r
section
variable {w w' : World} {S S' : Nat → Prop} {T T' : List RR}
theorem Up.c {b n : Nat} {cs : List Value} (u : Up w w' S S' T T') (hS : S b) (h : w.cells? 0 ⟨b, 0, none⟩ n = some cs) : w'.cells? 0 ⟨b, 0, none⟩ n = some cs := eZ h (u.k _ hS)
theorem Up.pk {d : PN} (u : Up w w' S S' T T') (h : PK w S d) : PK w' S' d := (h.hO u.k).mono u.s
mutual
theorem dm.up (u : Up w w' S S' T T') : ∀ {b : Nat} {v : Vl}, dm w S T b v → dm w' S' T' b v
 | _, _, .int hS h => .int (u.s _ hS) (u.c hS h)
 | _, _, .bool hS h => .bool (u.s _ hS) (u.c hS h)
 | _, _, .unit hS h => .unit (u.s _ hS) (u.c hS h)
 | _, _, .nil hS h => .nil (u.s _ hS) (u.c hS h)
 | _, _, .cons hS h hx hy => .cons (u.s _ hS) (u.c hS h) (dm.up u hx) (dm.up u hy)
 | _, _, .pair hS h hx hy => .pair (u.s _ hS) (u.c hS h) (dm.up u hx) (dm.up u hy)
 | _, _, .fn hS h he hk => .fn (u.s _ hS) (u.c hS h) (v7.up u he) (u.pk hk)
 | _, _, .res fp hi hf hl hr h => .res fp (u.t _ _ hi) hf hl (fun j f hj => by obtain ⟨g, e, hS, hc⟩ := hr j f hj; exact ⟨g, e, u.s _ hS, eZ hc (by rw [gh]; exact u.k _ hS)⟩) (fun j f hj => tJ.up u (h j f hj))
theorem v7.up (u : Up w w' S S' T T') : ∀ {o : Option Nat} {e : En}, v7 w S T o e → v7 w' S' T' o e
 | _, _, .nil => .nil
 | _, _, .put hS h hv hu => .put (u.s _ hS) (u.c hS h) (dm.up u hv) (v7.up u hu)
 | _, _, .rc hS h hw hk hu => .rc ⟨u.s _ hS.1, u.s _ hS.2⟩ (u.c hS.1 h) (u.c hS.2 hw) (u.pk hk) (v7.up u hu)
theorem tJ.up (u : Up w w' S S' T T') : ∀ {o v : Option Nat} {f : Fr}, tJ w S T o v f → tJ w' S' T' o v f
 | _, _, _, .no he hk => .no (v7.up u he) (u.pk hk)
 | _, _, _, .so he hv hk => .so (v7.up u he) (dm.up u hv) (u.pk hk)
end
end
end Go.Mn
namespace Go.Sx
open Go.RowKit Go.Gx
theorem Ru {w : World} {e sz n k : Nat} {v : Value} {xs : List Value} {A : Option Addr} {cap : Nat} (hv : v = .slice A n cap) (h : w.ownsRow 0 e sz v n xs) (hk : k ≤ n) : w.ownsRow 0 e sz (.slice A k cap) k (xs.take (k * sz)) := by
 subst hv;refine ⟨?_, ?_⟩
 · rw [List.length_take, h.1]; exact Nat.min_eq_left (Nat.mul_le_mul_right _ hk)
 · rcases h.2 with ⟨h1, h2⟩ | ⟨g, cM, cur, h1, h2, h3, h4, h5, h6, h7⟩
   · injection h1 with e1 e2 e3;subst e1 e3;have : k = 0 := by omega
     subst this;exact .inl ⟨rfl, rfl⟩
   · injection h1 with e1 e2 e3;subst e1 e3;refine .inr ⟨g, cap, cur, rfl, h2, h3, by omega, h5, h6, ?_⟩;rw [← h7, List.take_take, Nat.min_eq_left (Nat.mul_le_mul_right _ hk)]
section
variable [Rd] {P : Program} {B : Exit → Act → World → Prop} {b : Nat → Value} {n : Nat} {d : List Deferred} {w0 w : World} {x : St} {L0 L : List Item}
def HC (P : Program) (b : Nat → Value) (n : Nat) (x : St) : Option Ask :=
 match hd b n x with
 | some q => match q.2.2.op with
   | .slice t s lo hi mx => match lo, hi, mx with
     | none, some k, none => match P.underlying t with
       | some (.slice e) => match P.info? e with
         | some inf => some ⟨[ev b n x.l s, ev b n x.l k], [inf.size], x, q⟩
         | none => none
       | _ => none
     | _, _, _ => none
   | _ => none
 | none => none
theorem slp (m i k : Nat) (H : Hs w0 L0 w L) {e sz cap len : Nat} {A : Option Addr} {xs : List Value} (hi : L[i]? = some (.own e sz A cap len xs)) (hk : k ≤ len) {y_ : List Value} (hx : xs.take (k * sz) = y_)
   (g : Hs w0 L0 w (L.set i (.own e sz A cap k y_)) → Goal P B b n d (nx (vX (via P b n m w x (ask (HC P b n)))).y (vX (via P b n m w x (ask (HC P b n)))).q (.slice A k cap)) w)
   (h : vA (via P b n m w x (ask (HC P b n))) = vB w (via P b n m w x (ask (HC P b n))) := by kernel_rfl)
   (h2 : (vX (via P b n m w x (ask (HC P b n)))).u = [.slice A len cap, .int .i64 (k : Int)] := by kernel_rfl) : Goal P B b n d x w := by
 obtain ⟨y, hr, hf⟩ := cG h;refine az hr ?_;generalize vX (via P b n m w x (ask (HC P b n))) = z at *;unfold HC at hf;split at hf <;> try contradiction
 rename_i q hq;split at hf <;> try contradiction
 rename_i t s lo oN mx hop;split at hf <;> try contradiction
 rename_i ko;split at hf <;> try contradiction
 rename_i e' hu;split at hf <;> try contradiction
 rename_i inf eE;simp only [Option.some.injEq] at hf;subst hf;simp only [List.cons.injEq, and_true] at h2;obtain ⟨h3, h4⟩ := h2;have Dh : len ≤ cap := kD (H.at i hi);have hA : (if cap = 0 then A else A.map (·.add (0 * inf.size))) = A := by
   split
   · rfl
   · cases A with
     | none => rfl
     | some a => simp [Addr.add]
 refine cF hq (v := .slice A k cap) ?_ (g (H.as i _ hi rfl (by have := Ru rfl (H.at i hi) hk; rw [hx] at this; exact this) (fun c hc => ?_)))
 · unfold execOp;have hl : ((k : Int) ≤ (cap : Int)) := by omega
   simp [hop, h3, h4, Instr.sliceAt, Instr.slice, run_underlying hu, Sem.run_bind, Instr.sliceBounds, Instr.sliceBound, asIntOf, go_sem, hl, sizeOf, typeInfo, eE];intro dO; omega
 · cases A with
   | none => simp [Item.fp, Value.ownBlock] at hc
   | some a => simpa [Item.fp, Value.ownBlock] using hc
end
def cat : List Nat → Code → Code
 | [], c => c
 | i :: r, c => match c with
   | .seq a b => match i with
     | 0 => cat r a
     | _ + 1 => cat r b
   | .cond _ a b => match i with
     | 0 => cat r a
     | _ + 1 => cat r b
   | .block _ c => cat r c
   | .loop c => cat r c
   | .scope c => cat r c
   | c => c
section
variable [Rd] {P : Program} {B : Exit → Act → World → Prop} {b : Nat → Value} {n : Nat} {d : List Deferred} {w : World} {x : St}
theorem nz (m : Nat) (f' : Fo) (k' : List Kt) (l' : List (Nat × Value)) (k : ∀ b' : Nat → Value, Goal P B b' n d ⟨f', k', l'⟩ w)
   (h : vA (via P b n m w x fun y => some (0, 0, y)) = vB w (via P b n m w x fun y => some (0, 0, y)) := by kernel_rfl)
   (h1 : (vX (via P b n m w x fun y => some (0, 0, y))).f = f' := by kernel_rfl)
   (h3 : (vX (via P b n m w x fun y => some (0, 0, y))).k = k' := by kernel_rfl)
   (h2 : l'.map (fun p => get b (vX (via P b n m w x fun y => some (0, 0, y))).l p.1) = l'.map (fun p => p.2) := by kernel_rfl) : Goal P B b n d x w :=
 fg m l' (fun b' => by rw [h1, h3]; exact k b') h h2
end
end Go.Sx
namespace Go
abbrev Value.n (x : Nat) : Value := .int .i64 (x : Int)
abbrev Value.p (b : Nat) : Value := .pointer (some ⟨b, 0, none⟩)
namespace Sx
abbrev x0 := @Sx.c
abbrev xb := @Sx.l
abbrev xd := @Sx.s
abbrev xe := @Sx.bk
abbrev xf := @Sx.nw
abbrev xg := @Sx.nmx
abbrev xh := @Sx.rt
abbrev xi := @Sx.on
abbrev xj := @Sx.to
abbrev xl := @Sx.br
abbrev xm := @Sx.tk
abbrev xp := @Sx.v
abbrev xq := @Sx.nz
abbrev xr := @Sx.lo
abbrev xt := @Sx.dn
abbrev xu := @Sx.en
abbrev xv := @Sx.ia
abbrev xw := @Sx.dr
abbrev xy := @Sx.fa
abbrev xz := @Sx.lp
abbrev y0 := @Sx.lr
abbrev yd := @Sx.cut
abbrev ye := @Sx.sp
abbrev yf := @Sx.ir
abbrev yg := @Sx.tvo
abbrev yh := @Sx.ap
abbrev yi := @Sx.tvi
abbrev yj := @Sx.tvg
abbrev ym := @Sx.tvf
abbrev yp := @Sx.on2
abbrev yq := @Sx.tvl
abbrev yr := @Sx.sl
open Go.fO
theorem bX {w : World} {L : List Item} (H0 : Sp w L) : ∃ L0, L0 = L ∧ Hs w L0 w L := ⟨_, rfl, Hs.refl H0⟩
section
variable {w0 w : World} {L0 L : List Item}
theorem Hs.pk (H : Hs w0 L0 w L) (I : List Nat) {a : List Item} (h : bp I L = some a := by kernel_rfl) : Hs w0 L0 w a := H.pick I h
theorem Hs.sb (H : Hs w0 L0 w L) (I : List Nat) {a : List Item} {b : Prop} (h : bp I L = some a := by kernel_rfl) : b → Sp w a := fun _ => H.sub I h
theorem np {b : Bool} {p : Prop} (h0 : b = false := by kernel_rfl) : b = true → p := fun h => afO h h0
theorem sn {w : World} {LJ : List Item} {b : Prop} (h : LJ = [] := by kernel_rfl) : b → Sp w LJ := fun _ => spN h
end
def bits : Nat → Nat → List Nat → List Nat
 | 0, _, r => r
 | k + 1, n, r => bif Nat.ble n 1 then r else bits k (n / 2) (n % 2 :: r)
abbrev ct (n : Nat) (f : Func) : Code := cat (bits 70 n []) (AV f)
abbrev nC {α : Type} (k a : Nat) (x : ByteArray) (n : Int) (A : Option Addr) (l : List α) (c : Nat) : List Value := [.n k, .n a, .string x, .int .i64 n, .slice A l.length c]
abbrev nA {α : Type} (k a : Nat) (x : ByteArray) (n : Int) (A : Option Addr) (l : List α) (c : Nat) : Value := .agg #[.n k, .n a, .string x, .int .i64 n, .slice A l.length c]
abbrev cB (b g : Nat) (A : Option Addr) (n c : Nat) (B : Option Addr) (m d k : Nat) (a : Int) : Item := .al b (.cells #[.p g, .slice A n c, .slice B m d, .n k, .int .i64 a] 115)
section
variable [Rd] {P : Program} {B : Exit → Act → World → Prop} {b : Nat → Value} {n : Nat} {d : List Deferred} {w : World} {x : St}
theorem vi (m : Nat) (a c : Int) (e : IntKind.i64.wrap a = c)
   (k : Goal P B b n d (nx (vX (via P b n m w x fun y => (hd b n y).map fun q => (0, 0, y, q))).1 (vX (via P b n m w x fun y => (hd b n y).map fun q => (0, 0, y, q))).2 (.int .i64 c)) w)
   (h : vA (via P b n m w x fun y => (hd b n y).map fun q => (0, 0, y, q)) = vB w (via P b n m w x fun y => (hd b n y).map fun q => (0, 0, y, q)) := by kernel_rfl)
   (h2 : (execOp (Gx.ev b n (vX (via P b n m w x fun y => (hd b n y).map fun q => (0, 0, y, q))).1.l) (vX (via P b n m w x fun y => (hd b n y).map fun q => (0, 0, y, q))).2.2.2).run P w = .ok (.value (.int .i64 (IntKind.i64.wrap a))) w := by kernel_rfl) :
   Goal P B b n d x w := v m _ _ (congrArg (Value.int .i64) e) k h h2
end
end Sx
end Go
namespace Go.Sx
open Go.RowKit Go.Gx
def gv (w : World) (e sz : Nat) (A : Option Addr) (cap n : Nat) (xs : List Value) : Prop := xs.length = n * sz ∧
 ((A = none ∧ n = 0 ∧ cap = 0) ∨ ∃ (g : Nat) (cur : Array Value), A = some ⟨g, 0, none⟩ ∧ Has w g (.cells cur e) ∧ n ≤ cap ∧ cap ≤ maxLen ∧ cap * sz ≤ cur.size ∧ cur.toList.take (n * sz) = xs)
def wI (e sz : Nat) (A : Option Addr) (cap n : Nat) (xs : List Value) : Item := .abs (fun c => (Value.slice A n cap).ownBlock = some c) (fun w => gv w e sz A cap n xs)
section
variable {w w' w0 : World} {e sz cap n k : Nat} {A : Option Addr} {xs : List Value} {L0 L : List Item}
theorem gv.lt (h : gv w e sz A cap n xs) {c : Nat} (k : (Value.slice A n cap).ownBlock = some c) : c < w.heap.size := by
 rcases h.2 with ⟨rfl, _⟩ | ⟨g, cur, rfl, hg, _⟩
 · cases k
 · simp only [Value.ownBlock, Option.some.injEq] at k; subst k; exact hg.lt
theorem gv.loc : Loc (fun c => (Value.slice A n cap).ownBlock = some c) (fun w => gv w e sz A cap n xs) := fun w w' _ k h => by
 refine ⟨h.1, ?_⟩;rcases h.2 with q | ⟨g, cur, rfl, hg, r⟩
 · exact .inl q
 · exact .inr ⟨g, cur, rfl, (k g rfl).trans hg, r⟩
theorem ru (h : gv w e sz A cap n xs) : (wI e sz A cap n xs).holds w := ⟨h, fun _ hc => h.lt hc, gv.loc⟩
theorem gv.of (h : w.ownsRow 0 e sz (.slice A n cap) n xs) : gv w e sz A cap n xs := by
 refine ⟨h.1, ?_⟩;rcases h.2 with ⟨hv, h0⟩ | ⟨g, cM, cur, hv, _, hg, zI, Lz, pq, ht⟩
 · injection hv with h1 h2 h3; exact .inl ⟨h1, h2, h3⟩
 · injection hv with h1 h2 h3; subst h1 h3; exact .inr ⟨g, cur, rfl, hg, zI, Lz, by omega, ht⟩
theorem Hs.wide (H : Hs w0 L0 w L) (i : Nat) (hi : L[i]? = some (.own e sz A cap n xs)) : Hs w0 L0 w (L.set i (wI e sz A cap n xs)) := H.as i _ hi rfl (ru (.of (H.at i hi))) (fun _ h => h)
theorem gv.at (h : gv w e sz A cap n xs) {a : Addr} (ha : A = some a) : ∀ (j : Nat) (u : Value), xs[j]? = some u → w.cell? (a.add j) = some u := fun j u hu => by
 rcases h.2 with ⟨rfl, _⟩ | ⟨g, cur, rfl, hg, zI, Lz, pq, ht⟩
 · cases ha
 · cases ha;rw [Addr.add_lit, cell_of_row w g (0 + j) cur e (0, 0) hg, Nat.zero_add, ← Array.getElem?_toList];subst ht;have := (List.getElem?_eq_some_iff.1 hu).1;rw [List.length_take] at this;rw [List.getElem?_take_of_lt (by omega)] at hu;exact hu
theorem gv.nV (h : gv w e sz A cap n xs) : n ≤ cap := by rcases h.2 with ⟨_, h1, h2⟩ | ⟨_, _, _, _, q, _⟩ <;> omega
theorem gv.nil (h : gv w e sz none cap n xs) : n = 0 ∧ cap = 0 := by
 rcases h.2 with ⟨_, h1, h2⟩ | ⟨_, _, q, _⟩
 · exact ⟨h1, h2⟩
 · cases q
theorem Mk (H : Hs w0 L0 w L) (i : Nat) (hi : L[i]? = some (wI e sz A cap n xs)) (hn : 0 < n) : ∃ g, A = some ⟨g, 0, none⟩ := by
 rcases (H.at i hi).1.2 with ⟨_, h0, _⟩ | ⟨g, cur, hv, _⟩
 · omega
 · exact ⟨g, hv⟩
theorem gv.cells (h : gv w e sz A cap n xs) {g : Nat} (ha : A = some ⟨g, 0, none⟩) {o c : Nat} {cs : List Value} (pq : (xs.drop o).take c = cs) (hl : cs.length = c) : w.cells? 0 ((⟨g, 0, none⟩ : Addr).add o) c = some cs := by
 subst pq;rw [Addr.add_lit, Nat.zero_add];refine ChangeShapes.cells?_of (Nat.zero_le _) hl (fun j hj => ?_);have hx : o + j < xs.length := by have := hj; rw [← hl, List.length_take, List.length_drop] at this; omega
 have := h.at ha (o + j) xs[o + j] (List.getElem?_eq_getElem hx);rw [Addr.add_lit, Nat.zero_add] at this;rw [this];rw [List.getElem?_take_of_lt (by omega), List.getElem?_drop, List.getElem?_eq_getElem hx]
theorem gv.cut (h : gv w e sz A cap n xs) {cM : Nat} (hk : k ≤ n) (h1 : k ≤ cM) (h2 : cM ≤ cap) : gv w e sz A cM k (xs.take (k * sz)) := by
 refine ⟨by rw [List.length_take, h.1]; exact Nat.min_eq_left (Nat.mul_le_mul_right _ hk), ?_⟩;rcases h.2 with ⟨h3, h4, h5⟩ | ⟨g, cur, rfl, hg, zI, Lz, pq, ht⟩
 · exact .inl ⟨h3, by omega, by omega⟩
 · exact .inr ⟨g, cur, rfl, hg, h1, by omega, Nat.le_trans (Nat.mul_le_mul_right _ h2) pq, by rw [← ht, List.take_take, Nat.min_eq_left (Nat.mul_le_mul_right _ hk)]⟩
theorem Fq (H : Hs w0 L0 w L) (i : Nat) {cM : Nat} (hi : L[i]? = some (wI e sz A cap n xs)) (hk : k ≤ n) (h1 : k ≤ cM) (h2 : cM ≤ cap) {y_ : List Value} (hx : xs.take (k * sz) = y_) : Hs w0 L0 w (L.set i (wI e sz A cM k y_)) :=
 H.as i _ hi rfl (ru (by subst hx; exact (H.at i hi).1.cut hk h1 h2)) (fun c hc => by
   cases A with
   | none => cases hc
   | some a => exact hc)
end
theorem Di {P : Program} {w : World} (t ty e : TypeId) (i : TypeInfo) (z : Value) (ht : P.underlying t = some (.slice e)) (hi : P.info? e = some i) (hz : i.zero = some z) (TR : z.cells.size = i.size)
   {A C : Option Addr} {cap n m c : Nat} {xs news : List Value} (h : gv w e i.size A cap n xs) (hC : C = none → m = 0) (ri : ∀ a, C = some a → ∀ j u, news[j]? = some u → w.cell? (a.add j) = some u)
   (hl : news.length = m * i.size) (h1 : ∀ u ∈ news, u.oneCell' = true) (h63 : n + m ≤ maxLen) (hb : (n + m) * i.bytes ≤ 140737488355328) :
   ∃ A' cM w', (Builtin.append_ #[t, t] ty #[.slice A n cap, .slice C m c]).run P w = .ok (.slice A' (n + m) cM) w' ∧ gv w' e i.size A' cM (n + m) (xs ++ news) ∧ w.grownBy w' (Value.slice A n cap).ownBlock ∧
     ((Value.slice A' (n + m) cM).ownBlock = (Value.slice A n cap).ownBlock ∨ (Value.slice A' (n + m) cM).ownBlock = some w.heap.size) := by
 have afW : n + m ≤ 9223372036854775807 := by simp only [maxLen] at h63; omega
 have hlen : (xs ++ news).length = (n + m) * i.size := by rw [List.length_append, h.1, hl, Nat.add_mul]
 by_cases hm : m = 0
 · subst hm;have hn : news = [] := List.eq_nil_of_length_eq_zero (by simpa using hl);subst hn;have hc := h.nV;refine ⟨A, cap, w, ?_, by simpa using h, ⟨rfl, rfl, rfl, Nat.le_refl _, fun _ _ _ => rfl⟩, .inl rfl⟩;cases A <;> cases C <;> simp [Builtin.append_, run_underlying ht, sizeOf, typeInfo, hi, Builtin.lenOf, Builtin.firstCells, hc, storeCells, loadCells, loadCellsFrom, Sem.run_bind, Result.andThen]
 obtain ⟨a, rfl⟩ : ∃ a, C = some a := by
   cases C with
   | none => exact absurd (hC rfl) hm
   | some a => exact ⟨a, rfl⟩
 have grown : ∀ (KE : Nat), KE < n + m → ∀ (row : Option Nat),
     gv (w.drew.alloc (.cells (xs.toArray ++ news.toArray ++ Builtin.zeroCells z.cells (grownCap w (n + m) KE e - (n + m))) e)) e i.size (some ⟨w.heap.size, 0, none⟩) (grownCap w (n + m) KE e) (n + m) (xs ++ news) ∧
     w.grownBy (w.drew.alloc (.cells (xs.toArray ++ news.toArray ++ Builtin.zeroCells z.cells (grownCap w (n + m) KE e - (n + m))) e)) row := by
   intro KE ho row
   have hge := grownCap_ge w (n + m) KE e
   have Lz : grownCap w (n + m) KE e ≤ maxLen := grownCap_le_maxLen w (n + m) KE e h63
   refine ⟨⟨hlen, .inr ⟨w.heap.size, _, rfl, heap_alloc_new w.drew _, hge, Lz, Nat.le_of_eq ?_, ?_⟩⟩, ⟨rfl, rfl, rfl, by simp, fun k hk _ => heap_alloc_old w.drew _ hk⟩⟩
   · simp only [Array.size_append, List.size_toArray, size_zeroCells, TR, h.1, hl, ← Nat.add_mul]
     congr 1
     omega
   · simp only [Array.toList_append, List.append_assoc]
     rw [← List.append_assoc, ← hlen]
     exact List.take_left
 have h2 := h.2;rcases h2 with ⟨rfl, rfl, rfl⟩ | ⟨g, cur, rfl, hg, zI, Lz, pq, Lo⟩
 · have hx : xs = [] := List.eq_nil_of_length_eq_zero (by simpa using h.1);subst hx;have hr := run_append_nil (P := P) w t ty e i z ht hi hz a m c news hl (ri a rfl) (by omega) (by omega) (by have hb := hb; simp only [Nat.zero_add] at hb; omega);have TS := grown 0 (by omega) (Value.ownBlock (.slice none 0 0));simp only [Nat.zero_add, List.nil_append, Array.empty_append] at TS ⊢;exact ⟨_, _, _, hr, TS.1, TS.2, Or.inr rfl⟩
 · by_cases v8 : n + m ≤ cap
   · have Li : n * i.size + news.length ≤ cur.size := by rw [hl, ← Nat.add_mul]; exact Nat.le_trans (Nat.mul_le_mul_right _ v8) pq
     have hr := run_append_room (P := P) w t ty e i ht hi g n cap cur hg a m c news hl (ri a rfl) h1 v8 Li;refine ⟨_, _, _, hr, ⟨hlen, .inr ⟨g, _, rfl, setRow_heap w g cur _ e _ hg, v8, Lz, ?_, ?_⟩⟩, ⟨rfl, rfl, rfl, by simp, fun k _ hk => setRow_other w g k _ (fun e => hk (by simp [Value.ownBlock, e]))⟩, Or.inl rfl⟩
     · simp only [List.size_toArray, List.length_append, List.length_take, List.length_drop, Array.length_toList];omega
     · rw [Lo, ← hlen];exact List.take_left
   · have hr := run_append_grow (P := P) w t ty e i z ht hi hz ⟨g, 0, none⟩ n cap xs h.1 (h.at rfl) a m c news hl (ri a rfl) (by omega) (by omega) (growslice_fits (by omega) hb);have TS := grown cap (by omega) (Value.ownBlock (.slice (some ⟨g, 0, none⟩) n cap));exact ⟨_, _, _, hr, TS.1, TS.2, Or.inr rfl⟩
section
variable [Rd] {P : Program} {B : Exit → Act → World → Prop} {b : Nat → Value} {n : Nat} {d : List Deferred} {w0 w : World} {x : St} {L0 L : List Item}
theorem apw (m i LK k' e sz t c' : Nat) (C A : Option Addr) (cap c : Nat) (xs news : List Value) (H : Hs w0 L0 w L) (hC : C = none → k' = 0) (ri : ∀ a, C = some a → ∀ j u, news[j]? = some u → w.cell? (a.add j) = some u)
   (hl : news.length = k' * sz) (h1 : ∀ u ∈ news, u.oneCell' = true)
   (hb : (c + k') * LK ≤ 140737488355328) (hn : c + k' ≤ 9223372036854775807) {y_ : List Value} (hx : xs ++ news = y_)
   (k : ∀ A' cM w', Hs w0 L0 w' (L.set i (wI e sz A' cM (c + k') y_)) → Goal P B b n d (nx (vX (via P b n m w x (ask (uV P b n)))).y (vX (via P b n m w x (ask (uV P b n)))).q (.slice A' (c + k') cM)) w')
   (h : vA (via P b n m w x (ask (uV P b n))) = vB w (via P b n m w x (ask (uV P b n))) := by kernel_rfl)
   (hi : L[i]? = some (wI e sz A cap c xs) := by kernel_rfl)
   (h2 : ((vX (via P b n m w x (ask (uV P b n)))).u, (vX (via P b n m w x (ask (uV P b n)))).t) = ([.slice A c cap, .slice C k' c'], [t, t, e, sz, LK, sz, 1]) := by kernel_rfl) : Goal P B b n d x w := by
 subst hx;obtain ⟨y, hr, hf⟩ := cG h;refine az hr ?_;generalize vX (via P b n m w x (ask (uV P b n))) = z at *;unfold uV at hf;split at hf <;> try contradiction
 rename_i q hq;split at hf <;> try contradiction
 rename_i cl hop;split at hf <;> try contradiction
 rename_i q_;split at hf <;> try contradiction
 rename_i s yv t1 t2 fY jM;split at hf <;> try contradiction
 rename_i e1 hu;split at hf <;> try contradiction
 rename_i inf eE;simp only [Option.some.injEq] at hf;subst hf;simp only [Prod.mk.injEq, List.cons.injEq, and_true] at h2;obtain ⟨⟨h3, h4⟩, rfl, rfl, rfl, rfl, rfl, h5, h6⟩ := h2;have Z1 : inf.zero.map (·.cells.size) = some inf.size := by
   cases T4 : inf.zero with
   | none => simp [T4] at h6
   | some zv => simp only [T4, Option.map_some, Option.getD_some] at h5; simp [h5]
 have tD : cl = { callee := .builtin .append, args := #[s, yv], argTypes := #[t2, t2] } := by
   obtain ⟨ce, ca, ct⟩ := cl;simp only at q_ fY jM;subst q_;congr 1
   · exact Array.toList_inj.1 fY
   · exact Array.toList_inj.1 jM
 obtain ⟨zv, LS, TR⟩ := Option.map_eq_some_iff.1 Z1;obtain ⟨A', cM, w', nL, zK, hG, LL⟩ := Di (P := P) t2 q.2.2.type e1 inf zv hu eE LS TR (H.at i hi).1 (c := c') hC ri hl h1 (by unfold maxLen; omega) hb;refine cF hq ?_ ?_ (v := .slice A' (c + k') cM) (w' := w')
 · unfold execOp;rw [hop, tD];simp [h3, h4, resolve, invoke, builtin, Sem.run_bind, nL]
 · refine k A' cM w' (H.put i hi rfl (Kp.C2 hG) (ru zK) (fun cc hc => ?_));rcases LL with q | q
   · exact .inl (q.symm.trans hc)
   · exact .inr (Nat.le_of_eq (Option.some.inj (q.symm.trans hc)))
theorem sw (m k : Nat) {cap len : Nat} {A : Option Addr} (hk : k ≤ len) (Dh : len ≤ cap)
   (g : Goal P B b n d (nx (vX (via P b n m w x (ask (HC P b n)))).y (vX (via P b n m w x (ask (HC P b n)))).q (.slice A k cap)) w)
   (h : vA (via P b n m w x (ask (HC P b n))) = vB w (via P b n m w x (ask (HC P b n))) := by kernel_rfl)
   (h2 : (vX (via P b n m w x (ask (HC P b n)))).u = [.slice A len cap, .int .i64 (k : Int)] := by kernel_rfl) : Goal P B b n d x w := by
 obtain ⟨y, hr, hf⟩ := cG h;refine az hr ?_;generalize vX (via P b n m w x (ask (HC P b n))) = z at *;unfold HC at hf;split at hf <;> try contradiction
 rename_i q hq;split at hf <;> try contradiction
 rename_i t s lo oN mx hop;split at hf <;> try contradiction
 rename_i ko;split at hf <;> try contradiction
 rename_i e' hu;split at hf <;> try contradiction
 rename_i inf eE;simp only [Option.some.injEq] at hf;subst hf;simp only [List.cons.injEq, and_true] at h2;obtain ⟨h3, h4⟩ := h2;refine cF hq (v := .slice A k cap) ?_ g;unfold execOp;have hl : ((k : Int) ≤ (cap : Int)) := by omega
 simp [hop, h3, h4, Instr.sliceAt, Instr.slice, run_underlying hu, Sem.run_bind, Instr.sliceBounds, Instr.sliceBound, asIntOf, go_sem, hl, sizeOf, typeInfo, eE];intro dO;omega
def V5 (P : Program) (b : Nat → Value) (n : Nat) (x : St) : Option Ask :=
 match hd b n x with
 | some q => match q.2.2.op with
   | .slice t s lo hi mx => match lo, hi, mx with
     | none, some k, some j => match P.underlying t with
       | some (.slice e) => match P.info? e with
         | some inf => some ⟨[ev b n x.l s, ev b n x.l k, ev b n x.l j], [inf.size], x, q⟩
         | none => none
       | _ => none
     | _, _, _ => none
   | _ => none
 | none => none
theorem s3 (m k : Nat) {cap len : Nat} {A : Option Addr} (hk : k ≤ len) (Dh : len ≤ cap)
   (g : Goal P B b n d (nx (vX (via P b n m w x (ask (V5 P b n)))).y (vX (via P b n m w x (ask (V5 P b n)))).q (.slice A k k)) w)
   (h : vA (via P b n m w x (ask (V5 P b n))) = vB w (via P b n m w x (ask (V5 P b n))) := by kernel_rfl)
   (h2 : (vX (via P b n m w x (ask (V5 P b n)))).u = [.slice A len cap, .int .i64 (k : Int), .int .i64 (k : Int)] := by kernel_rfl) : Goal P B b n d x w := by
 obtain ⟨y, hr, hf⟩ := cG h;refine az hr ?_;generalize vX (via P b n m w x (ask (V5 P b n))) = z at *;unfold V5 at hf;split at hf <;> try contradiction
 rename_i q hq;split at hf <;> try contradiction
 rename_i t s lo oN mx hop;split at hf <;> try contradiction
 rename_i ko jo;split at hf <;> try contradiction
 rename_i e' hu;split at hf <;> try contradiction
 rename_i inf eE;simp only [Option.some.injEq] at hf;subst hf;simp only [List.cons.injEq, and_true] at h2;obtain ⟨h3, h4, h5⟩ := h2;refine cF hq (v := .slice A k k) ?_ g;unfold execOp;have hl : ((k : Int) ≤ (cap : Int)) := by omega
 simp [hop, h3, h4, h5, Instr.sliceAt, Instr.slice, run_underlying hu, Sem.run_bind, Instr.sliceBounds, Instr.sliceBound, asIntOf, go_sem, hl, sizeOf, typeInfo, eE];intro dO;omega
end
end Go.Sx
namespace Go.Mn
open Go.RowKit Go.Sx Go.aS Go.Gx
inductive MF
 | val (b : Nat) (v : Vl)
 | env (o : Option Nat) (e : En)
 | aG (d : PN)
 | vo (o : Option Nat) (v : Option Vl)
def MF.ok (w : World) (S : Nat → Prop) (T : List RR) : MF → Prop
 | .val b v => dm w S T b v
 | .env o e => v7 w S T o e
 | .aG d => PK w S d
 | .vo o v => match o, v with
   | none, none => True
   | some b, some v => dm w S T b v
   | _, _ => False
def aL (w : World) (S : Nat → Prop) (T : List RR) (sp : List FP) (l : List MF) : Prop := (∀ f ∈ sp, tJ w S T f.e f.v f.f) ∧ ∀ x ∈ l, x.ok w S T
theorem MF.up {w w' : World} {S S' : Nat → Prop} {T T' : List RR} {x : MF} (u : Up w w' S S' T T') (h : x.ok w S T) : x.ok w' S' T' := by
 cases x with
 | val b v => exact dm.up u h
 | env o e => exact v7.up u h
 | aG d => exact u.pk h
 | vo o v =>
   cases o with
   | none => cases v with
     | none => exact h
     | some v => exact h
   | some b => cases v with
     | none => exact h
     | some v => exact dm.up u h
theorem aL.up {w w' : World} {S S' : Nat → Prop} {T T' : List RR} {sp : List FP} {l : List MF} (u : Up w w' S S' T T') (h : aL w S T sp l) : aL w' S' T' sp l := ⟨fun f hf => tJ.up u (h.1 f hf), fun x hx => MF.up u (h.2 x hx)⟩
def mI (S : Nat → Prop) (T : List RR) (sp : List FP) (l : List MF) : Sx.Item := .ro S (fun w => aL w S T sp l)
theorem qt (S : Nat → Prop) (T : List RR) (sp : List FP) (l : List MF) : Sx.Loc S (fun w => aL w S T sp l) := fun _ _ _ hk h => h.up ⟨hk, fun _ h => h, fun _ _ h => h⟩
section
variable {w0 w : World} {L0 L : List Sx.Item} {S : Nat → Prop} {T : List RR} {sp jr : List FP} {l l' : List MF}
theorem ay (H : Hs w0 L0 w L) (j : Nat) (hi : L[j]? = some (mI S T sp l)) : aL w S T sp l := (H.at j hi).1
theorem afX (H : Hs w0 L0 w L) (j : Nat) (hi : L[j]? = some (mI S T sp l)) (h : aL w S T jr l') : Hs w0 L0 w (L ++ [mI S T jr l']) := H.ro j hi h (qt _ _ _ _)
theorem aae (H : Hs w0 L0 w L) (I : List Nat) {b ty : Nat} {cs : Array Value} (hp : bp I L = some [mI S T sp l, .al b (.cells cs ty)]) (h : ∀ S' : Nat → Prop, aL w S' T sp l → S' b → w.cells? 0 ⟨b, 0, none⟩ cs.size = some cs.toList → aL w S' T jr l') :
   ∃ S', Hs w0 L0 w (mI S' T jr l' :: rest I L) := by
 refine ⟨_, H.fz I hp (fun s => ?_) (qt _ _ _ _)⟩;have h0 : aL w S T sp l := (s.all _ (.head _)).1;have h1 : Has w b (.cells cs ty) := s.all _ (.tail _ (.head _));refine h _ (h0.up ⟨fun _ _ => rfl, fun c hc => ⟨_, .head _, hc⟩, fun _ _ h => h⟩) ⟨_, .tail _ (.head _), rfl⟩ ?_;refine ChangeShapes.cells?_of (Nat.zero_le _) (by simp) (fun j hj => ?_);rw [cell_of_row w b _ cs ty (0, 0) h1, Nat.zero_add];simp
theorem dy (z : aL w S T sp l) (H : Hs w0 L0 w L) (j : Nat) (hi : L[j]? = some (mI S T sp l)) (jr : List FP) (l' : List MF) (h : aL w S T jr l') : Hs w0 L0 w (L ++ [mI S T jr l']) := afX H j hi h
theorem m0 (_ : aL w S T sp l) (H : Hs w0 L0 w L) (I : List Nat) (jr : List FP) (l' : List MF) (b ty : Nat) (cs : Array Value) (hp : bp I L = some [mI S T sp l, .al b (.cells cs ty)]) (h : ∀ S' : Nat → Prop, aL w S' T sp l → S' b → w.cells? 0 ⟨b, 0, none⟩ cs.size = some cs.toList → aL w S' T jr l') :
   ∃ S', Hs w0 L0 w (mI S' T jr l' :: rest I L) := aae H I hp h
theorem j0 {a : MF} {l : List MF} : a ∈ a :: l := .head _
theorem j1 {a b : MF} {l : List MF} : b ∈ a :: b :: l := .tail _ (.head _)
theorem j2 {a b c : MF} {l : List MF} : c ∈ a :: b :: c :: l := .tail _ (.tail _ (.head _))
theorem j3 {a b c d : MF} {l : List MF} : d ∈ a :: b :: c :: d :: l := .tail _ (.tail _ (.tail _ (.head _)))
theorem Ml {T : List RR} : (mI (fun _ => False) T [] []).holds w := ⟨⟨fun _ h => (by cases h), fun _ h => (by cases h)⟩, fun _ h => h.elim, qt _ _ _ _⟩
theorem Mm (H : Hs w0 L0 w L) (I : List Nat) {S2 : Nat → Prop} {sp2 : List FP} {l2 : List MF} (hp : bp I L = some [mI S T sp l, mI S2 T sp2 l2]) (h : ∀ S' : Nat → Prop, aL w S' T sp l → aL w S' T sp2 l2 → aL w S' T jr l') : ∃ S', Hs w0 L0 w (mI S' T jr l' :: rest I L) := by
 refine ⟨_, H.fz I hp (fun s => ?_) (qt _ _ _ _)⟩;have h0 : aL w S T sp l := (s.all _ (.head _)).1;have h1 : aL w S2 T sp2 l2 := (s.all _ (.tail _ (.head _))).1;exact h _ (h0.up ⟨fun _ _ => rfl, fun c hc => ⟨_, .head _, hc⟩, fun _ _ h => h⟩) (h1.up ⟨fun _ _ => rfl, fun c hc => ⟨_, .tail _ (.head _), hc⟩, fun _ _ h => h⟩)
end
theorem V6 {w0 w : World} {L0 L : List Sx.Item} (H : Hs w0 L0 w L) (j : Nat) {b ty : Nat} {cs : Array Value} (hj : L[j]? = some (.al b (.cells cs ty))) : ∀ a, some (⟨b, 0, none⟩ : Addr) = some a → ∀ (i : Nat) (u : Value), cs.toList[i]? = some u → w.cell? (a.add i) = some u := fun a ha i u hu => by
 cases ha;rw [Addr.add_lit, cell_of_row w b (0 + i) cs ty (0, 0) (H.at j hj), Nat.zero_add, ← Array.getElem?_toList];exact hu
theorem Rv (l : List FP) (f : FP) : bh l ++ Fp f = bh (l ++ [f]) := by simp [bh]
theorem PK.at {w : World} {S : Nat → Prop} {k a : Nat} {nm : Nm} {n : Int} {A : Option Addr} {c : Nat} {ks : List PN} (h : PK w S (.mk k a nm n A c ks)) {i : Nat} {d : PN} (hi : ks[i]? = some d) : (ks.length ≤ c ∧ ks.length < 1000000000) ∧ (∃ g, A = some g ∧ S g.block ∧ w.cells? 0 (g.add (i * 5)) 5 = some d.cells) ∧ PK w S d := by
 cases h with
 | mk hc hr h => exact ⟨hc, hr i d hi, h i d hi⟩
theorem kJ {a b : Nm} : ee a b = true ↔ a = b := by
 unfold ee;rw [beq_iff_eq];exact ⟨fun h => ByteArray.ext (Array.toList_inj.1 h), fun h => by rw [h]⟩
def _root_.Go.Mn.En.dep : En → Nat
 | .nil => 0
 | .put _ _ up => up.dep + 1
 | .rc _ _ up => up.dep + 1
theorem Rw {w : World} {S : Nat → Prop} {T : List RR} {o : Option Nat} {e : En} {x : Nm} {v : Vl} (h : v7 w S T o e) (hf : find e x = some v) :
   ∃ (b vb : Nat) (nm : Nm) (uo : Option Nat) (up : En), o = some b ∧ (S b ∧ w.cells? 0 ⟨b, 0, none⟩ 3 = some [.string nm, .pointer (some ⟨vb, 0, none⟩), pO uo]) ∧ v7 w S T uo up ∧ up.dep < e.dep ∧ ((nm = x ∧ dm w S T vb v) ∨ (nm ≠ x ∧ find up x = some v)) := by
 cases h with
 | nil => cases hf
 | @put b vb uo nm vv up hS h hv hu =>
   refine ⟨b, vb, nm, uo, up, rfl, ⟨hS, h⟩, hu, Nat.lt_succ_self _, ?_⟩;unfold find at hf;split at hf
   · rename_i q; cases hf; exact .inl ⟨kJ.1 q, hv⟩
   · rename_i q; exact .inr ⟨fun e => q (kJ.2 e), hf⟩
 | @rc b wb uo nm nd up hS h hw hk hu =>
   refine ⟨b, wb, nm, uo, up, rfl, ⟨hS.1, h⟩, hu, Nat.lt_succ_self _, ?_⟩;unfold find at hf;split at hf
   · rename_i q; cases hf; exact .inl ⟨kJ.1 q, .fn hS.2 hw (.rc hS h hw hk hu) hk⟩
   · rename_i q; exact .inr ⟨fun e => q (kJ.2 e), hf⟩
theorem dT {p : Prop} [Decidable p] (h : p) : Value.bool (decide p) = .bool true := by rw [decide_eq_true h]
theorem dF {p : Prop} [Decidable p] (h : ¬ p) : Value.bool (decide p) = .bool false := by rw [decide_eq_false h]
theorem eT {a b : Int} (h : a = b) : Value.bool (a == b) = .bool true := by rw [h]; simp
theorem eF {a b : Int} (h : ¬ a = b) : Value.bool (a == b) = .bool false := by simp [h]
theorem nT {a b : Int} (h : ¬ a = b) : Value.bool (a != b) = .bool true := by simp [h]
theorem nF {a b : Int} (h : a = b) : Value.bool (a != b) = .bool false := by rw [h]; simp
theorem afY (s : Nm) : Value.bool (s.toList == s.toList) = .bool true := by simp
theorem V7 {r s : Nm} (h : r ≠ s) : Value.bool (r.toList == s.toList) = .bool false := by
 congr 1;cases q : r.toList == s.toList with
 | false => rfl
 | true =>
   have e : r.toList = s.toList := by simpa using q
   rw [ByteArray.toList_eq, ByteArray.toList_eq] at e;exact absurd (ByteArray.ext (Array.toList_inj.1 e)) h
theorem aL.snoc {w : World} {S : Nat → Prop} {T : List RR} {sp : List FP} {l : List MF} {x : MF} (h : aL w S T sp l) (k : x.ok w S T) : aL w S T sp (l ++ [x]) := ⟨h.1, fun y hy => by
 rcases List.mem_append.1 hy with q | q
 · exact h.2 y q
 · rw [List.mem_singleton.1 q]; exact k⟩
theorem aL.val {w : World} {S : Nat → Prop} {T : List RR} {b : Nat} {v : Vl} (h : aL w S T [] [.val b v]) : dm w S T b v := h.2 (.val b v) (.head _)
theorem aL.l3 {w : World} {S : Nat → Prop} {T : List RR} {sp : List FP} {a b c : MF} (h : ∀ f ∈ sp, tJ w S T f.e f.v f.f) (ha : a.ok w S T) (hb : b.ok w S T) (hc : c.ok w S T) : aL w S T sp [a, b, c] := ⟨h, fun y hy => by
 rcases List.mem_cons.1 hy with rfl | hy
 · exact ha
 · rcases List.mem_cons.1 hy with rfl | hy
   · exact hb
   · rw [List.mem_singleton.1 hy]; exact hc⟩
theorem qu {w : World} {S : Nat → Prop} {T : List RR} {sp : List FP} {f : FP} (h : ∀ f ∈ sp, tJ w S T f.e f.v f.f) (k : tJ w S T f.e f.v f.f) : ∀ g ∈ sp ++ [f], tJ w S T g.e g.v g.f := fun g hg => by
 rcases List.mem_append.1 hg with q | q
 · exact h g q
 · rw [List.mem_singleton.1 q]; exact k
theorem Rx {st : List Fr} {k ta : Nat} {nm : Nm} {nn : Int} {nA : Option Addr} {nc : Nat} {ks : List PN} {e : En} {us : List Bool} {r' : Rn} (h : CZ ⟨st, .mk k ta nm nn nA nc ks, e, none, us⟩ = some r') :
   (k = 3 ∧ r' = ⟨st, .mk k ta nm nn nA nc ks, e, some (.int nn), us⟩) ∨ (k = 4 ∧ r' = ⟨st, .mk k ta nm nn nA nc ks, e, some (.bool (nn == 1)), us⟩) ∨ (k = 5 ∧ r' = ⟨st, .mk k ta nm nn nA nc ks, e, some .unit, us⟩) ∨ (k = 15 ∧ r' = ⟨st, .mk k ta nm nn nA nc ks, e, some .nil, us⟩) ∨
   (k = 6 ∧ ∃ v, find e nm = some v ∧ r' = ⟨st, .mk k ta nm nn nA nc ks, e, some v, us⟩) ∨ (k = 7 ∧ r' = ⟨st, .mk k ta nm nn nA nc ks, e, some (.fn (.mk k ta nm nn nA nc ks) e), us⟩) ∨
   ((k ≠ 3 ∧ k ≠ 4 ∧ k ≠ 5 ∧ k ≠ 15 ∧ k ≠ 6 ∧ k ≠ 7) ∧ ∃ d, ks[0]? = some d ∧ r' = ⟨st ++ [.mk (.mk k ta nm nn nA nc ks) 0 e none], d, e, none, us⟩) := by
 unfold CZ at h;simp only [PN.k] at h;split at h
 · cases h; exact .inl ⟨rfl, rfl⟩
 · cases h; exact .inr (.inl ⟨rfl, rfl⟩)
 · cases h; exact .inr (.inr (.inl ⟨rfl, rfl⟩))
 · cases h; exact .inr (.inr (.inr (.inl ⟨rfl, rfl⟩)))
 · split at h
   · rename_i v hv;cases h;exact .inr (.inr (.inr (.inr (.inl ⟨rfl, v, hv, rfl⟩))))
   · cases h
 · cases h; exact .inr (.inr (.inr (.inr (.inr (.inl ⟨rfl, rfl⟩)))))
 · unfold E6 at h;split at h
   · rename_i d hd;cases h;exact .inr (.inr (.inr (.inr (.inr (.inr ⟨⟨by omega, by omega, by omega, by omega, by omega, by omega⟩, d, hd, rfl⟩)))))
   · cases h
end Go.Mn
namespace Go.Mn
open Go.Sx
abbrev eB : ByteArray := ⟨#[]⟩
abbrev bR (b : Nat) (A : Option Addr) (n c : Nat) (k a : Value) (x : ByteArray) (m : Value) (B : Option Addr) (l d : Nat) (e v : Value) (o : Nat) (kd : Value) (t : ByteArray) (st : Value) : Sx.Item := Sx.Item.al b (.cells #[.slice A n c, k, a, .string x, m, .slice B l d, e, v, .map (some o), kd, .string eB, .string t, st, .nilFunc] 75)
abbrev vE (k : Int) (n a b e : Value) : List Value := [.int .i64 k, n, a, b, .int .i64 0, .int .i64 0, .string eB, .int .i64 0, .slice none 0 0, e, .slice none 0 0, .string eB, .bool false, .bool false]
abbrev vA (k : Int) (n a b e : Value) : Array Value := #[.int .i64 k, n, a, b, .int .i64 0, .int .i64 0, .string eB, .int .i64 0, .slice none 0 0, e, .slice none 0 0, .string eB, .bool false, .bool false]
end Go.Mn
namespace Go.Proofs.YtdmdecgoebnamaaGreat
open Go.RowKit Go.Sx Go.aS Go.Mn
attribute [local irreducible] Go.wpOps Go.Code.wp Go.wpOp Go.wpAnyH Go.Calls Go.Sx.Goal
set_option maxRecDepth 20000
namespace Mr
theorem V8 (S : Nat → Prop) (T : List RR) (e : En) (v : Vl) (o : Option Nat) (x : Nm) (w : World) (K : Ending → World → Prop) (H0 : Sp w [mI S T ([]) [.env o e]]) (hf : find e x = some v) (hK : ∀ (vb : Nat) w', Hs w [mI S T ([]) [.env o e]] w' [mI S T [] [.env o e], mI S T [] [.val vb v]] → K (.returned (.pointer (some (⟨vb, 0, none⟩)))) w') :
   Calls Tryz.prog 71 #[pO o, .string x] w K := by
 obtain ⟨L0, ak, H⟩ := Sx.bX H0;refine xu (vs := [pO o, .string x]) 21 Tryz.func71 ?_;have m1 : aL w S T ([]) [.env o e] := ay H 0 (by kernel_rfl);have H1 := dy m1 H 0 (by kernel_rfl) ([]) [.env o e] (m1);refine xz 7 (fun z l' w' => ∃ (oi : Option Nat) (ei : En), l' = [(0, pO oi), (1, .string x)] ∧ z = ei.dep ∧ Hs w L0 w' [mI S T ([]) [.env o e], mI S T ([]) [.env oi ei]] ∧ (find ei x = some v)) _ _ ⟨o, e, rfl, rfl, H1.pk [0, 0], hf⟩ (fun b1 z1 l1 w1 bQ K1 aN => ?_);obtain ⟨oi, ei, rfl, rfl, H3, YN⟩ := bQ;have au := Rw ((ay (S := S) (T := T) (sp := []) (l := [.env oi ei]) H3 1 (by kernel_rfl)).2 _ (.head _)) YN;obtain ⟨b, vb, nm, uo, up, ho, tD, hup, hdp, pq⟩ := au;subst ho;rcases pq with ⟨Mo, hvv⟩ | ⟨Mo, hfu⟩
 · subst Mo;refine xy 16 (⟨b, 0, none⟩) 0 <| xr (c := 1) (t := 9) 0 [.string nm] (.string nm) (aa tD.2 (by decide : 0 + 1 ≤ 3)) <| xp 1 (.bool (nm.toList == nm.toList)) (.bool true) (afY _) <| xy 7 (⟨b, 0, none⟩) 1 <| xr (c := 1) (t := 71) 0 [.pointer (some (⟨vb, 0, none⟩))] (.pointer (some (⟨vb, 0, none⟩))) (aa tD.2 (by decide : 1 + 1 ≤ 3)) <| xh 9 [] H3 (.pointer (some (⟨vb, 0, none⟩))) ?_;have m2 : aL w1 S T ([]) [.env (some b) ei] := ay H3 1 (by kernel_rfl);have H4 := dy m2 H3 1 (by kernel_rfl) ([]) [.val vb v] (⟨fun _ h => (by cases h), fun _ h => (by rw [List.mem_singleton.1 h]; exact hvv)⟩);subst ak;exact hK vb _ (H4.pick [0, 1] (by kernel_rfl))
 have m3 : aL w1 S T ([]) [.env (some b) ei] := ay H3 1 (by kernel_rfl);have H5 := dy m3 H3 1 (by kernel_rfl) ([]) [.env uo up] (⟨fun _ h => (by cases h), fun _ h => (by rw [List.mem_singleton.1 h]; exact hup)⟩);refine xy 16 (⟨b, 0, none⟩) 0 <| xr (c := 1) (t := 9) 0 [.string nm] (.string nm) (aa tD.2 (by decide : 0 + 1 ≤ 3)) <| xp 1 (.bool (nm.toList == x.toList)) (.bool false) (V7 Mo) <| xy 8 (⟨b, 0, none⟩) 2 <| xr (c := 1) (t := 70) 0 [pO uo] (pO uo) (aa tD.2 (by decide : 2 + 1 ≤ 3)) ?_;exact xj 3 _ (aN _ _ _ _ hdp ⟨uo, up, rfl, rfl, H5.pk [0, 1], hfu⟩)
theorem Ry (T : List RR) (w : World) (K : Ending → World → Prop) (H0 : Sp w []) (hK : ∀ (b : Nat) (S : Nat → Prop) w', Hs w [] w' [mI S T [] [.val b (.bool true)]] → K (.returned (.pointer (some (⟨b, 0, none⟩)))) w') :
   Calls Tryz.prog 70 #[.bool true] w K := by
 obtain ⟨L0, ak, H⟩ := Sx.bX H0;refine xu (vs := [.bool true]) 8 Tryz.func70 <| xf 15 H fun k1 w1 H1 => xh 5 [] H1 (.p k1) ?_;have H2 := H1.add (Gx.Ext.refl _) (it := mI (fun _ => False) T [] []) Ml (fun _ h => h.elim);have m1 : aL w1 (fun _ => False) T ([]) [] := ay H2 1 (by kernel_rfl);have au := m0 m1 H2 [1, 0] ([]) [.val k1 (.bool true)] k1 137 (vA 1 (.int .i64 1) (.pointer none) (.pointer none) (.pointer none)) (by kernel_rfl) (fun S' h hb hc => ⟨fun _ h => (by cases h), fun _ h => (by rw [List.mem_singleton.1 h]; exact .bool hb hc)⟩);obtain ⟨S1, H3⟩ := au;subst ak;exact hK k1 S1 _ (H3.pick [0] (by kernel_rfl))
theorem Rz (T : List RR) (w : World) (K : Ending → World → Prop) (H0 : Sp w []) (hK : ∀ (b : Nat) (S : Nat → Prop) w', Hs w [] w' [mI S T [] [.val b (.bool false)]] → K (.returned (.pointer (some (⟨b, 0, none⟩)))) w') :
   Calls Tryz.prog 70 #[.bool false] w K := by
 obtain ⟨L0, ak, H⟩ := Sx.bX H0;refine xu (vs := [.bool false]) 8 Tryz.func70 <| xf 17 H fun k1 w1 H1 => xh 4 [] H1 (.p k1) ?_;have H2 := H1.add (Gx.Ext.refl _) (it := mI (fun _ => False) T [] []) Ml (fun _ h => h.elim);have m1 : aL w1 (fun _ => False) T ([]) [] := ay H2 1 (by kernel_rfl);have au := m0 m1 H2 [1, 0] ([]) [.val k1 (.bool false)] k1 137 (vA 1 (.int .i64 0) (.pointer none) (.pointer none) (.pointer none)) (by kernel_rfl) (fun S' h hb hc => ⟨fun _ h => (by cases h), fun _ h => (by rw [List.mem_singleton.1 h]; exact .bool hb hc)⟩);obtain ⟨S1, H3⟩ := au;subst ak;exact hK k1 S1 _ (H3.pick [0] (by kernel_rfl))
theorem Bb (T : List RR) (x : Bool) (w : World) (K : Ending → World → Prop) (H0 : Sp w []) (hK : ∀ (b : Nat) (S : Nat → Prop) w', Hs w [] w' [mI S T [] [.val b (.bool x)]] → K (.returned (.p b)) w') : Calls Tryz.prog 70 #[.bool x] w K := by
 cases x with
 | true => exact Ry T w K H0 hK
 | false => exact Rz T w K H0 hK
theorem Mp (br : Nat) (As : Option Addr) (ns cs : Nat) (sp : List FP) (k ta : Nat) (nm : Nm) (nn : Int) (nA : Option Addr) (nc : Nat) (ks : List PN) (eo vo : Option Nat) (bo : Nat) (steps : Int) (at_ : Nat) (wo : Option Nat) (e : En) (u : Option Vl) (w : World) (K : Ending → World → Prop) (H0 : Sp w [bR br As ns cs (.n k) (.n ta) nm (.int .i64 nn) nA ks.length nc (pO eo) (pO vo) bo (.int .i64 0) eB (.int .i64 steps), wI 135 8 As cs ns (bh sp)]) (nW : ns < 1000000000) (hK : ∀ (A' : Option Addr) (c' : Nat) w', Hs w [bR br As ns cs (.n k) (.n ta) nm (.int .i64 nn) nA ks.length nc (pO eo) (pO vo) bo (.int .i64 0) eB (.int .i64 steps), wI 135 8 As cs ns (bh sp)] w' [bR br A' (ns + 1) c' (.n k) (.n ta) nm (.int .i64 nn) nA ks.length nc (pO eo) (pO vo) bo (.int .i64 0) eB (.int .i64 steps), wI 135 8 A' c' (ns + 1) (bh (sp ++ [⟨.mk (PN.mk k ta nm nn nA nc ks) at_ e u, eo, wo⟩]))] → K (.returned (.tuple #[])) w') :
   Calls Tryz.prog 39 #[.p br, .n at_, pO wo] w K := by
 obtain ⟨L0, ak, H⟩ := Sx.bX H0;refine xu (vs := [.p br, .n at_, pO wo]) 26 Tryz.func39 <| xw 0 H [0] [20] (LJ := [bR br As ns cs (.n k) (.n ta) nm (.int .i64 nn) nA ks.length nc (pO eo) (pO vo) bo (.int .i64 0) eB (.int .i64 steps)]) (by kernel_rfl) fun w1 H1 => xm [(0, none), (1, none), (2, none), (3, none), (4, some (0, [17, 18, 19, 20])), (5, none), (6, none), (7, none), (8, some (0, [15, 16, 17, 18, 19, 20])), (9, none), (10, none), (11, none), (12, none), (13, some (0, [15, 16, 17, 18, 19, 20])), (14, none), (15, none)] (H1.sb [0]) <| xg ?_;intro gy;refine xi 16 <| xf 0 H1 fun k1 w2 H2 => xe (x := gy) 16 (H2.sb [0]) <| xg ?_;intro im;refine xi 17 <| Sx.apw 0 1 88 1 135 8 69 1 (some ⟨k1, 0, none⟩) As cs ns (bh sp) [.n k, .n ta, .string nm, .int .i64 nn, .slice nA ks.length nc, .n at_, pO eo, pO wo] H2 (fun h => (by cases h)) (V6 (b := k1) (ty := 135) (cs := #[.n k, .n ta, .string nm, .int .i64 nn, .slice nA ks.length nc, .n at_, pO eo, pO wo]) H2 2 (by kernel_rfl)) rfl (List.all_eq_true.1 (by kernel_rfl)) (by omega) (by omega) (Rv sp ⟨.mk (PN.mk k ta nm nn nA nc ks) at_ e u, eo, wo⟩) fun A1 bG w3 H3 => xe (x := im) 17 (H3.sb [0]) <| xm [(18, none), (19, none)] (H3.sb [0]) <| xg ?_;intro kc;refine xi 20 <| xd 0 0 H3 fun w4 H4 => xe (x := kc) 20 Sx.np <| xt <| xh 0 [] H4 (.tuple #[]) ?_;subst ak;exact hK A1 bG _ (H4.pk [0, 0])
theorem Ue (S : Nat → Prop) (T : List RR) (dk da : Nat) (bJ : Nm) (dn : Int) (dA : Option Addr) (dc : Nat) (cH : List PN) (br : Nat) (As : Option Addr) (ns cs : Nat) (sp : List FP) (k ta : Nat) (nm : Nm) (nn : Int) (nA : Option Addr) (nc : Nat) (ks : List PN) (eo vo : Option Nat) (bo : Nat) (steps : Int) (at_ : Nat) (wo : Option Nat) (e : En) (u : Option Vl) (w : World) (K : Ending → World → Prop) (H0 : Sp w [bR br As ns cs (.n k) (.n ta) nm (.int .i64 nn) nA ks.length nc (pO eo) (pO vo) bo (.int .i64 0) eB (.int .i64 steps), wI 135 8 As cs ns (bh sp), mI S T ([]) [.aG (PN.mk k ta nm nn nA nc ks)]]) (nW : ns < 1000000000) (hd : ks[at_]? = some (PN.mk dk da bJ dn dA dc cH)) (hK : ∀ (A' : Option Addr) (c' : Nat) w', Hs w [bR br As ns cs (.n k) (.n ta) nm (.int .i64 nn) nA ks.length nc (pO eo) (pO vo) bo (.int .i64 0) eB (.int .i64 steps), wI 135 8 As cs ns (bh sp), mI S T ([]) [.aG (PN.mk k ta nm nn nA nc ks)]] w' [bR br A' (ns + 1) c' (.n dk) (.n da) bJ (.int .i64 dn) dA cH.length dc (pO eo) (pO vo) bo (.int .i64 0) eB (.int .i64 steps), wI 135 8 A' c' (ns + 1) (bh (sp ++ [⟨.mk (PN.mk k ta nm nn nA nc ks) at_ e u, eo, wo⟩])), mI S T [] [.aG (PN.mk k ta nm nn nA nc ks)]] → K (.returned (.tuple #[])) w') :
   Calls Tryz.prog 68 #[.p br, .n at_, pO wo] w K := by
 obtain ⟨L0, ak, H⟩ := Sx.bX H0;refine xu (vs := [.p br, .n at_, pO wo]) 21 Tryz.func68 ?_;refine x0 5 [0, 0] H (fun Hp R hZ => Mp br As ns cs sp k ta nm nn nA nc ks eo vo bo steps at_ wo e u w R Hp nW (fun A1 c1 w1 G1 => hZ _ _ _ G1 fun H1 => ?_));have m1 : aL w1 S T ([]) [.aG (PN.mk k ta nm nn nA nc ks)] := ay H1 2 (by kernel_rfl);have au := PK.at (m1.2 _ j0) hd;obtain ⟨Dj, ⟨gk, zd, _, Uf⟩, _⟩ := au;have Ug := (List.getElem?_eq_some_iff.1 hd).1;refine xb 8 0 H1 <| xv 1 gk at_ 5 ks.length nc zd (by omega) <| xr (c := 5) (t := 62) 0 (Sx.nC dk da bJ dn dA cH dc) (Sx.nA dk da bJ dn dA cH dc) Uf <| xd 2 0 H1 fun w2 H2 => xh 1 [] H2 (.tuple #[]) ?_;subst ak;exact hK A1 c1 _ (H2.pk [0, 0, 0])
end Mr
end Go.Proofs.YtdmdecgoebnamaaGreat
