/- What the document's reader of texts does, as plain functions. No program in sight. -/
import Derived.Test.YtinilkomfggjiaaDoorZk
import Derived.Test.YtinilkomfggjiaaDoorLexPlain
import Derived.Test.YtinilkomfggjiaaDoorGv
set_option linter.unusedVariables false
set_option linter.unusedSimpArgs false
namespace Go.Syn
open Go.Lex
inductive Nd where
  | mk (k a : Nat) (nm : ByteArray) (n : Int) (ks : List Nd)
def Nd.k : Nd → Nat | .mk k _ _ _ _ => k
def Nd.a : Nd → Nat | .mk _ a _ _ _ => a
def Nd.nm : Nd → ByteArray | .mk _ _ x _ _ => x
def Nd.n : Nd → Int | .mk _ _ _ n _ => n
def Nd.ks : Nd → List Nd | .mk _ _ _ _ l => l
def nd0 : Nd := .mk 0 0 Z.E 0 []
def two (x : ByteArray) (a b : Nd) : Nd := .mk 18 a.a x 0 [a, b]
structure Rs where
  k : Nat
  a : Nat
  t : ByteArray
  n : Nat
  e : Nat
  fk : Nat
  fa : Nat
  x : Nat
  y : Nat
def okB (q : Rs) : Bool := ((q.fk : Nat) : Int) == (0 : Int)
def isB (q : Rs) (s : ByteArray) : Bool := okB q && ((((q.k : Nat) : Int) == (3 : Int)) || (((q.k : Nat) : Int) == (4 : Int))) && (q.t.toList == s.toList)
def isNameB (q : Rs) : Bool := okB q && (((q.k : Nat) : Int) == (2 : Int))
def begB (q : Rs) : Bool := okB q && ((((q.k : Nat) : Int) == (2 : Int)) || (((q.k : Nat) : Int) == (1 : Int)) || isB q Z.k29 || isB q Z.k13 || isB q Z.k14 || isB q Z.k4 || isB q Z.k18)
def nextR (S : ByteArray) (q : Rs) : Rs := if okB q = true then ⟨(next S q.e).kind, (next S q.e).at_, (next S q.e).text, (next S q.e).n, (next S q.e).nx, (next S q.e).fk, (next S q.e).fa, q.x, q.y⟩ else q
def noR (q : Rs) : Rs := if okB q = true then { q with fk := 4, fa := q.a } else q
def hasR (S : ByteArray) (q : Rs) (s : ByteArray) : Rs := if isB q s = true then nextR S q else q
def mustR (S : ByteArray) (q : Rs) (s : ByteArray) : Rs := if isB q s = true then nextR S q else noR q
def nameR (S : ByteArray) (q : Rs) : (ByteArray × Nat) × Rs := if isNameB q = true then ((q.t, q.a), nextR S q) else ((Z.E, 0), noR q)
inductive NT where
  | typ | pair | some | listL (a : Nd) | namesL (l : List Nd) | expr | any | params (sign : ByteArray) (first : Bool) | letN (at_ : Nat) | cases (at_ : Nat) | handle (at_ : Nat) | handL (l : List Nd)
  | comp | cons | sum | sumL (a : Nd) | mul | mulL (a : Nd) | app | appL (a : Nd) | atom | round (at_ : Nat) | square (at_ : Nat) | squareL (l : List Nd) | prog | opsL (l : List Nd) | defsL (n : Nat) (l : List Nd)
section
variable (S : ByteArray) (R : NT → Rs → Nd × Rs)
def fnS (a : Nd) (q1 : Rs) : Nd × Rs :=
  let q2 := hasR S q1 Z.k15
  if isB q1 Z.k15 = true then
    let r := R .typ q2
    (.mk 29 a.a Z.E 0 [a, r.1], r.2)
  else
    let q3 := hasR S q2 Z.k5
    if isB q2 Z.k5 = true then
      let q4 := mustR S q3 Z.k20
      let r4 := R (.namesL []) q4
      let q5 := mustR S r4.2 Z.k11
      let q6 := mustR S q5 Z.k15
      let r6 := R .typ q6
      (.mk 29 a.a Z.E 0 ([a, r6.1] ++ r4.1.ks), r6.2)
    else (a, q3)
def typS (q : Rs) : Nd × Rs :=
  if okB q = true then
    if decide (((q.y : Nat) : Int) ≥ (200 : Int)) = true then (nd0, { q with fk := 5, fa := q.a })
    else
      let r1 := R .pair { q with y := q.y + 1 }
      let r := fnS S R r1.1 r1.2
      (r.1, { r.2 with y := r.2.y - 1 })
  else (nd0, q)
def namesLS (l : List Nd) (q : Rs) : Nd × Rs :=
  let r := nameR S q
  let q1 := hasR S r.2 Z.k16
  if isB r.2 Z.k16 = true then R (.namesL (l ++ [.mk 23 r.1.2 r.1.1 0 []])) q1 else (.mk 0 0 Z.E 0 (l ++ [.mk 23 r.1.2 r.1.1 0 []]), q1)
def pairS (q : Rs) : Nd × Rs :=
  let r1 := R .some q
  let q2 := hasR S r1.2 Z.k6
  if isB r1.2 Z.k6 = true then
    let r2 := R .pair q2
    (.mk 28 r1.1.a Z.E 0 [r1.1, r2.1], r2.2)
  else (r1.1, q2)
def someS (q : Rs) : Nd × Rs :=
  let q1 := hasR S q Z.k23
  if isB q Z.k23 = true then R (.listL (.mk 24 q.a Z.E 0 [])) q1 else
  let q2 := hasR S q1 Z.k26
  if isB q1 Z.k26 = true then R (.listL (.mk 25 q.a Z.E 0 [])) q2 else
  let q3 := hasR S q2 Z.k31
  if isB q2 Z.k31 = true then R (.listL (.mk 26 q.a Z.E 0 [])) q3 else
  let q4 := hasR S q3 Z.k4
  if isB q3 Z.k4 = true then
    let r := R .typ q4
    R (.listL r.1) (mustR S r.2 Z.k2)
  else R (.listL nd0) (noR q4)
def listLS (a : Nd) (q : Rs) : Nd × Rs :=
  let q1 := hasR S q Z.k41
  if isB q Z.k41 = true then R (.listL (.mk 27 a.a Z.E 0 [a])) q1 else (a, q1)
def exprS (q : Rs) : Nd × Rs :=
  if okB q = true then
    if decide (((q.x : Nat) : Int) ≥ (200 : Int)) = true then (nd0, { q with fk := 5, fa := q.a })
    else
      let r1 := R .any { q with x := q.x + 1 }
      (r1.1, { r1.2 with x := r1.2.x - 1 })
  else (nd0, q)
def anyS (q : Rs) : Nd × Rs :=
  let q1 := hasR S q Z.k12
  if isB q Z.k12 = true then R (.letN q.a) q1 else
  let q2 := hasR S q1 Z.k25
  if isB q1 Z.k25 = true then
    let r := R (.params Z.k1 true) q2
    (.mk r.1.k q.a r.1.nm r.1.n r.1.ks, r.2)
  else
  let q3 := hasR S q2 Z.k28
  if isB q2 Z.k28 = true then
    let ra := R .expr q3
    let qa := mustR S ra.2 Z.k45
    let rb := R .expr qa
    let qb := mustR S rb.2 Z.k46
    let rc := R .expr qb
    (.mk 11 q.a Z.E 0 [ra.1, rb.1, rc.1], rc.2)
  else
  let q4 := hasR S q3 Z.k32
  if isB q3 Z.k32 = true then R (.cases q.a) q4 else
  if isB q4 Z.k27 = true then R (.handle q.a) q4 else
  if isB q4 Z.k33 = true then R (.handle q.a) q4 else
  let r := R .comp q4
  let q5 := hasR S r.2 Z.k48
  if isB r.2 Z.k48 = true then
    let r2 := R .expr q5
    (.mk 10 r.1.a Z.E 0 [r.1, r2.1], r2.2)
  else (r.1, q5)
def paramS (sign : ByteArray) (q : Rs) : Nd × Rs :=
  let r := nameR S q
  if okB r.2 = true then
    let r2 := R (.params sign false) r.2
    (.mk 7 r.1.2 r.1.1 0 [r2.1], r2.2)
  else (nd0, r.2)
def paramsS (sign : ByteArray) (first : Bool) (q : Rs) : Nd × Rs :=
  if first = true then paramS S R sign q else if isNameB q = true then paramS S R sign q else R .expr (mustR S q sign)
def letT (at_ : Nat) (n : Int) (f : Bool) (q1 : Rs) : Nd × Rs :=
  let r := nameR S q1
  let r2 := R (.params Z.k7 f) r.2
  let q3 := mustR S r2.2 Z.k21
  let r4 := R .expr q3
  (.mk 9 at_ r.1.1 n [r2.1, r4.1], r4.2)
def letS (at_ : Nat) (q : Rs) : Nd × Rs :=
  let q1 := hasR S q Z.k19
  if isB q Z.k19 = true then letT S R at_ 1 true q1 else letT S R at_ 0 false q1
def casesS (at_ : Nat) (q : Rs) : Nd × Rs :=
  let r := R .expr q
  let q1 := mustR S r.2 Z.k49
  let q2 := mustR S q1 Z.k18
  let q3 := mustR S q2 Z.k22
  let q4 := mustR S q3 Z.k1
  let r5 := R .expr q4
  let q6 := mustR S r5.2 Z.k24
  let r7 := nameR S q6
  let q8 := mustR S r7.2 Z.k9
  let r9 := nameR S q8
  let q10 := mustR S r9.2 Z.k1
  let r11 := R .expr q10
  let q12 := mustR S r11.2 Z.k50
  (.mk 17 at_ Z.E 0 [r.1, r5.1, .mk 23 r7.1.2 r7.1.1 0 [], .mk 23 r9.1.2 r9.1.1 0 [], r11.1], q12)
def handT (at_ : Nat) (n : Int) (q1 : Rs) : Nd × Rs :=
  let r := R .expr q1
  let q2 := mustR S r.2 Z.k34
  let q3 := mustR S q2 Z.k20
  let q4 := mustR S q3 Z.k35
  let r5 := nameR S q4
  let q6 := mustR S r5.2 Z.k1
  let r7 := R .expr q6
  let r8 := R (.handL [r.1, .mk 21 q3.a r5.1.1 0 [r7.1]]) r7.2
  let q9 := mustR S r8.2 Z.k11
  (.mk 20 at_ Z.E n r8.1.ks, q9)
def handleS (at_ : Nat) (q : Rs) : Nd × Rs :=
  let q1 := hasR S q Z.k27
  if isB q Z.k27 = true then handT S R at_ 0 q1 else handT S R at_ 1 (nextR S q1)
def handLS (l : List Nd) (q : Rs) : Nd × Rs :=
  let q1 := hasR S q Z.k24
  if isB q Z.k24 = true then
    let r2 := nameR S q1
    let r3 := nameR S r2.2
    let r4 := nameR S r3.2
    let q5 := mustR S r4.2 Z.k1
    let r6 := R .expr q5
    R (.handL (l ++ [.mk 22 r2.1.2 r2.1.1 0 [.mk 23 r3.1.2 r3.1.1 0 [], .mk 23 r4.1.2 r4.1.1 0 [], r6.1]])) r6.2
  else (.mk 0 0 Z.E 0 l, q1)
def compS (q : Rs) : Nd × Rs :=
  let r := R .cons q
  let q1 := hasR S r.2 Z.k8
  if isB r.2 Z.k8 = true then
    let r2 := R .cons q1
    (two Z.k8 r.1 r2.1, r2.2)
  else
  let q2 := hasR S q1 Z.k17
  if isB q1 Z.k17 = true then
    let r2 := R .cons q2
    (two Z.k17 r.1 r2.1, r2.2)
  else (r.1, q2)
def consS (q : Rs) : Nd × Rs :=
  let r := R .sum q
  let q1 := hasR S r.2 Z.k9
  if isB r.2 Z.k9 = true then
    let r2 := R .cons q1
    (.mk 16 r.1.a Z.E 0 [r.1, r2.1], r2.2)
  else (r.1, q1)
def sumS (q : Rs) : Nd × Rs :=
  let r := R .mul q
  R (.sumL r.1) r.2
def sumLS (a : Nd) (q : Rs) : Nd × Rs :=
  let q1 := hasR S q Z.k10
  if isB q Z.k10 = true then
    let r := R .mul q1
    R (.sumL (two q.t a r.1)) r.2
  else
  let q2 := hasR S q1 Z.k5
  if isB q1 Z.k5 = true then
    let r := R .mul q2
    R (.sumL (two q.t a r.1)) r.2
  else (a, q2)
def mulS (q : Rs) : Nd × Rs :=
  let r := R .app q
  R (.mulL r.1) r.2
def mulLS (a : Nd) (q : Rs) : Nd × Rs :=
  let q1 := hasR S q Z.k6
  if isB q Z.k6 = true then
    let r := R .app q1
    R (.mulL (two Z.k6 a r.1)) r.2
  else (a, q1)
def appS (q : Rs) : Nd × Rs :=
  let q1 := hasR S q Z.k38
  if isB q Z.k38 = true then
    let r := nameR S q1
    let r2 := R .atom r.2
    (.mk 19 q.a r.1.1 0 [r2.1], r2.2)
  else
  let q2 := hasR S q1 Z.k36
  if isB q1 Z.k36 = true then
    let r := R .atom q2
    (.mk 13 q.a Z.E 0 [r.1], r.2)
  else
  let q3 := hasR S q2 Z.k37
  if isB q2 Z.k37 = true then
    let r := R .atom q3
    (.mk 14 q.a Z.E 0 [r.1], r.2)
  else
  let r := R .atom q3
  R (.appL r.1) r.2
def appLS (a : Nd) (q : Rs) : Nd × Rs :=
  if begB q = true then
    let r := R .atom q
    R (.appL (.mk 8 a.a Z.E 0 [a, r.1])) r.2
  else (a, q)
def numS (q : Rs) (q1 : Rs) : Nd × Rs :=
  if okB q1 = true then
    if (((q1.k : Nat) : Int) != (1 : Int)) = true then (.mk 3 q.a Z.E (-((q1.n : Nat) : Int)) [], nextR S (noR q1))
    else (.mk 3 q.a Z.E (-((q1.n : Nat) : Int)) [], nextR S q1)
  else (.mk 3 q.a Z.E (-((q1.n : Nat) : Int)) [], nextR S q1)
def atomS (q : Rs) : Nd × Rs :=
  if okB q = true then
    if (((q.k : Nat) : Int) == (2 : Int)) = true then (.mk 6 q.a q.t 0 [], nextR S q) else
    if (((q.k : Nat) : Int) == (1 : Int)) = true then (.mk 3 q.a Z.E ((q.n : Nat) : Int) [], nextR S q) else
    let q1 := hasR S q Z.k29
    if isB q Z.k29 = true then numS S q q1 else
    let q2 := hasR S q1 Z.k13
    if isB q1 Z.k13 = true then (.mk 4 q.a Z.E 1 [], q2) else
    let q3 := hasR S q2 Z.k14
    if isB q2 Z.k14 = true then (.mk 4 q.a Z.E 0 [], q3) else
    let q4 := hasR S q3 Z.k4
    if isB q3 Z.k4 = true then R (.round q.a) q4 else
    let q5 := hasR S q4 Z.k18
    if isB q4 Z.k18 = true then R (.square q.a) q5 else
    (nd0, noR q5)
  else (nd0, q)
def roundS (at_ : Nat) (q : Rs) : Nd × Rs :=
  let q1 := hasR S q Z.k2
  if isB q Z.k2 = true then (.mk 5 at_ Z.E 0 [], q1) else
  let r := R .expr q1
  let q2 := hasR S r.2 Z.k16
  if isB r.2 Z.k16 = true then
    let r2 := R .expr q2
    let q3 := mustR S r2.2 Z.k2
    (.mk 12 at_ Z.E 0 [r.1, r2.1], q3)
  else (r.1, mustR S q2 Z.k2)
def consF (x e : Nd) : Nd := .mk 16 x.a Z.E 0 [x, e]
def consAll (at_ : Nat) (l : List Nd) : Nd := l.foldr consF (.mk 15 at_ Z.E 0 [])
def squareS (at_ : Nat) (q : Rs) : Nd × Rs :=
  let q1 := hasR S q Z.k22
  if isB q Z.k22 = true then (.mk 15 at_ Z.E 0 [], q1) else
  let r := R (.squareL []) q1
  (consAll at_ r.1.ks, mustR S r.2 Z.k22)
def squareLS (l : List Nd) (q : Rs) : Nd × Rs :=
  let r := R .expr q
  let q1 := hasR S r.2 Z.k16
  if isB r.2 Z.k16 = true then R (.squareL (l ++ [r.1])) q1 else (.mk 0 0 Z.E 0 (l ++ [r.1]), q1)
def opsT (l : List Nd) (at_ : Nat) (n : Int) (q2 : Rs) : Nd × Rs :=
  let r := nameR S q2
  let q3 := mustR S r.2 Z.k47
  let ra := R .typ q3
  let q4 := mustR S ra.2 Z.k1
  let rb := R .typ q4
  R (.opsL (l ++ [.mk 1 at_ r.1.1 n [ra.1, rb.1]])) rb.2
def opsLS (l : List Nd) (q : Rs) : Nd × Rs :=
  if isB q Z.k51 = true then
    let q1 := nextR S q
    if isB q1 Z.k39 = true then opsT S R l q.a 1 (nextR S q1)
    else if isB q1 Z.k42 = true then opsT S R l q.a 0 (nextR S q1)
    else opsT S R l q.a 0 (noR q1)
  else (.mk 0 0 Z.E ((l.length : Nat) : Int) l, q)
def defsT (n0 : Nat) (l : List Nd) (at_ : Nat) (n : Int) (q2 : Rs) : Nd × Rs :=
  let r := nameR S q2
  let r2 := R (.params Z.k7 true) r.2
  R (.defsL n0 (l ++ [.mk 2 at_ r.1.1 n [r2.1]])) r2.2
def defsLS (n0 : Nat) (l : List Nd) (q : Rs) : Nd × Rs :=
  if isB q Z.k43 = true then
    let q1 := nextR S q
    let q2 := hasR S q1 Z.k19
    if isB q1 Z.k19 = true then defsT S R n0 l q.a 1 q2 else defsT S R n0 l q.a 0 q2
  else (.mk 0 0 Z.E ((n0 : Nat) : Int) l, q)
def progS (q : Rs) : Nd × Rs :=
  let r := R (.opsL []) q
  let r2 := R (.defsL r.1.ks.length r.1.ks) r.2
  let q3 := mustR S r2.2 Z.k44
  let q4 := mustR S q3 Z.k7
  let r5 := R .expr q4
  (.mk 0 0 Z.E ((r.1.ks.length : Nat) : Int) (r2.1.ks ++ [r5.1]), r5.2)
def stepN (nt : NT) (q : Rs) : Nd × Rs :=
  match nt with
  | .typ => typS S R q
  | .pair => pairS S R q
  | .some => someS S R q
  | .listL a => listLS S R a q
  | .namesL l => namesLS S R l q
  | .expr => exprS R q
  | .any => anyS S R q
  | .params s f => paramsS S R s f q
  | .letN a => letS S R a q
  | .cases a => casesS S R a q
  | .handle a => handleS S R a q
  | .handL l => handLS S R l q
  | .comp => compS S R q
  | .cons => consS S R q
  | .sum => sumS R q
  | .sumL a => sumLS S R a q
  | .mul => mulS R q
  | .mulL a => mulLS S R a q
  | .app => appS S R q
  | .appL a => appLS R a q
  | .atom => atomS S R q
  | .round a => roundS S R a q
  | .square a => squareS S R a q
  | .squareL l => squareLS S R l q
  | .prog => progS S R q
  | .opsL l => opsLS S R l q
  | .defsL n l => defsLS S R n l q
end
def run (S : ByteArray) : Nat → NT → Rs → Nd × Rs
  | 0 => fun _ q => (nd0, noR q)
  | k + 1 => stepN S (run S k)
def M (S : ByteArray) (q : Rs) : Nat := if q.fk ≠ 0 then 0 else if q.k = 0 then 1 else S.size + 2 - q.e
structure Ok (S : ByteArray) (q : Rs) : Prop where
  size : S.size ≤ 3000
  e : q.e ≤ S.size
  x : q.x ≤ 200
  y : q.y ≤ 200
  a : q.a ≤ S.size
  n : q.n ≤ 9223372036854775807
  t : q.t.size ≤ S.size
  k : q.k ≤ 4
  end_ : q.fk = 0 → q.k = 0 → q.e = S.size
  nm : q.fk = 0 → q.k = 2 → 0 < q.t.size
  sg : q.fk = 0 → q.k = 4 → letterB (Gx.byteAt q.t 0) = false
structure Tr (S : ByteArray) (q q' : Rs) : Prop where
  ok : Ok S q'
  m : M S q' ≤ M S q
  x : q'.x = q.x
  y : q'.y = q.y
  fk : q.fk ≠ 0 → q' = q
theorem Tr.refl {S : ByteArray} {q : Rs} (h : Ok S q) : Tr S q q := ⟨h, Nat.le_refl _, rfl, rfl, fun _ => rfl⟩
theorem Tr.trans {S : ByteArray} {q q' q'' : Rs} (h : Tr S q q') (k : Tr S q' q'') : Tr S q q'' :=
  ⟨k.ok, Nat.le_trans k.m h.m, k.x.trans h.x, k.y.trans h.y, fun f => by
    have := h.fk f
    subst this
    exact k.fk f⟩
theorem okB_iff (q : Rs) : okB q = true ↔ q.fk = 0 := by simp [okB]
theorem isB_ok {q : Rs} {s : ByteArray} (h : isB q s = true) : q.fk = 0 ∧ (q.k = 3 ∨ q.k = 4) ∧ q.t = s := by
  simp only [isB, okB, Bool.and_eq_true, Bool.or_eq_true, beq_iff_eq] at h
  refine ⟨by omega, by omega, bytes_ext h.2⟩
theorem byteAt_ext0 {S : ByteArray} {j : Nat} (hj : j < S.size) : Gx.byteAt (S.extract j (j + signLen S j)) 0 = Gx.byteAt S j := by
  have h1 : 0 < signLen S j := by unfold signLen; split <;> omega
  have hj' : j < S.data.size := hj
  unfold Gx.byteAt
  rw [ByteArray.data_extract, Array.getElem?_extract]
  simp only [Nat.add_zero]
  rw [if_pos (by omega)]
theorem tok_props {S : ByteArray} {j : Nat} (hs : S.size ≤ 3000) (hj : j < S.size) : ((tokAt S j).fk ≠ 0 → (tokAt S j).nx ≤ S.size) ∧ (tokAt S j).at_ ≤ S.size ∧ (tokAt S j).n ≤ 9223372036854775807 ∧ (tokAt S j).text.size ≤ S.size ∧ (tokAt S j).kind ≤ 4 ∧
    ((tokAt S j).fk = 0 → (tokAt S j).kind ≠ 0) ∧ ((tokAt S j).fk = 0 → (tokAt S j).kind = 2 → 0 < (tokAt S j).text.size) ∧ ((tokAt S j).fk = 0 → (tokAt S j).kind = 4 → letterB (Gx.byteAt (tokAt S j).text 0) = false) := by
  have hex : ∀ a b, (S.extract a b).size ≤ S.size := fun a b => by rw [ByteArray.size_extract]; omega
  have he : Z.E.size ≤ S.size := Nat.zero_le _
  unfold tokAt
  split
  · unfold numAt
    split
    · rename_i a2
      unfold numOk at a2
      simp only [Bool.and_eq_true, decide_eq_true_eq] at a2
      exact ⟨fun f => absurd rfl f, Nat.le_of_lt hj, a2.2, he, by show (1 : Nat) ≤ 4; omega, (fun _ f => by cases f), (fun _ f => by cases f), (fun _ f => by cases f)⟩
    · exact ⟨fun _ => Nat.zero_le _, Nat.zero_le _, Nat.zero_le _, he, Nat.zero_le _, (fun f => by cases f), (fun f => by cases f), (fun f => by cases f)⟩
  · split
    · rename_i hl
      have hlen : 0 < (S.extract j (stop (fun c => letterB c || digitB c) S j)).size := by
        have h1 : stop (fun c => letterB c || digitB c) S j = stop (fun c => letterB c || digitB c) S (j + 1) := stop_go hj (by simp [hl])
        have h2 := le_stop (fun c => letterB c || digitB c) S (j + 1)
        have h3 := stop_le (fun c => letterB c || digitB c) S j (by omega)
        rw [size_ext h3]
        omega
      unfold nameAt
      split
      · exact ⟨fun _ => Nat.zero_le _, Nat.zero_le _, Nat.zero_le _, he, Nat.zero_le _, (fun f => by cases f), (fun f => by cases f), (fun f => by cases f)⟩
      · exact ⟨fun f => absurd rfl f, Nat.le_of_lt hj, Nat.zero_le _, hex _ _, by dsimp only; split <;> omega, (fun _ f => by dsimp only at f; split at f <;> omega), (fun _ _ => hlen), (fun _ f => by dsimp only at f; split at f <;> omega)⟩
    · split
      · rename_i hl _
        refine ⟨fun f => absurd rfl f, Nat.le_of_lt hj, Nat.zero_le _, hex _ _, by show (4 : Nat) ≤ 4; omega, (fun _ f => by cases f), (fun _ f => by cases f), (fun _ _ => ?_)⟩
        show letterB (Gx.byteAt (S.extract j (j + signLen S j)) 0) = false
        rw [byteAt_ext0 hj]
        simpa using hl
      · exact ⟨fun _ => Nat.zero_le _, Nat.zero_le _, Nat.zero_le _, he, Nat.zero_le _, (fun f => by cases f), (fun f => by cases f), (fun f => by cases f)⟩
theorem next_props {S : ByteArray} {i : Nat} (hs : S.size ≤ 3000) (hi : i ≤ S.size) : (next S i).nx ≤ S.size ∧ (next S i).at_ ≤ S.size ∧ (next S i).n ≤ 9223372036854775807 ∧ (next S i).text.size ≤ S.size ∧ (next S i).kind ≤ 4 ∧
    ((next S i).fk = 0 → (next S i).kind = 0 → (next S i).nx = S.size) ∧ ((next S i).fk = 0 → (next S i).kind ≠ 0 → i < (next S i).nx) ∧ ((next S i).fk = 0 → (next S i).kind = 2 → 0 < (next S i).text.size) ∧ ((next S i).fk = 0 → (next S i).kind = 4 → letterB (Gx.byteAt (next S i).text 0) = false) := by
  have hp := fun a b => next_prog (s := S) (i := i) hi a b
  by_cases hlt : pass S i < S.size
  · have e : next S i = tokAt S (pass S i) := by unfold next; rw [if_pos hlt]
    have p := tok_props hs hlt
    rw [e] at hp ⊢
    refine ⟨?_, p.2.1, p.2.2.1, p.2.2.2.1, p.2.2.2.2.1, fun a b => absurd b (p.2.2.2.2.2.1 a), fun a b => (hp a b).1, p.2.2.2.2.2.2.1, p.2.2.2.2.2.2.2⟩
    by_cases f : (tokAt S (pass S i)).fk = 0
    · exact (hp f (p.2.2.2.2.2.1 f)).2
    · exact p.1 f
  · have e : next S i = ⟨0, S.size, ⟨#[]⟩, 0, S.size, 0, 0⟩ := by unfold next; rw [if_neg hlt]
    rw [e]
    exact ⟨Nat.le_refl _, Nat.le_refl _, Nat.zero_le _, Nat.zero_le _, Nat.zero_le _, fun _ _ => rfl, fun _ f => absurd rfl f, (fun _ f => by cases f), (fun _ f => by cases f)⟩
theorem next_size {S : ByteArray} : next S S.size = ⟨0, S.size, ⟨#[]⟩, 0, S.size, 0, 0⟩ := by
  unfold next
  rw [pass_end (by omega), if_neg (by omega)]
theorem next_tr {S : ByteArray} {q : Rs} (h : Ok S q) : Tr S q (nextR S q) := by
  by_cases f : okB q = true
  · have p := next_props h.size h.e
    have f0 := (okB_iff q).1 f
    unfold nextR
    rw [if_pos f]
    refine ⟨⟨h.size, p.1, h.x, h.y, p.2.1, p.2.2.1, p.2.2.2.1, p.2.2.2.2.1, p.2.2.2.2.2.1, p.2.2.2.2.2.2.2.1, p.2.2.2.2.2.2.2.2⟩, ?_, rfl, rfl, fun g => absurd f0 g⟩
    by_cases hk : q.k = 0
    · have he := h.end_ f0 hk
      rw [he, next_size]
      unfold M
      simp [f0, hk]
    · have hM : M S q = S.size + 2 - q.e := by unfold M; simp [f0, hk]
      rw [hM]
      have he := h.e
      unfold M
      dsimp only
      split
      · omega
      · split
        · omega
        · have := p.2.2.2.2.2.2.1 (by omega) (by omega)
          omega
  · unfold nextR
    rw [if_neg f]
    exact Tr.refl h
theorem next_lt {S : ByteArray} {q : Rs} (h : Ok S q) (f0 : q.fk = 0) (hk : q.k ≠ 0) : M S (nextR S q) < M S q := by
  have p := next_props h.size h.e
  have f := (okB_iff q).2 f0
  have hM : M S q = S.size + 2 - q.e := by unfold M; simp [f0, hk]
  have he := h.e
  unfold nextR
  rw [if_pos f, hM]
  unfold M
  dsimp only
  split
  · omega
  · split
    · omega
    · have := p.2.2.2.2.2.2.1 (by omega) (by omega)
      omega
theorem no_tr {S : ByteArray} {q : Rs} (h : Ok S q) : Tr S q (noR q) := by
  unfold noR
  split
  · rename_i f
    exact ⟨⟨h.size, h.e, h.x, h.y, h.a, h.n, h.t, h.k, (fun g => by cases g), (fun g => by cases g), (fun g => by cases g)⟩, by simp [M], rfl, rfl, fun g => absurd ((okB_iff q).1 f) g⟩
  · exact Tr.refl h
theorem has_tr {S : ByteArray} {q : Rs} {s : ByteArray} (h : Ok S q) : Tr S q (hasR S q s) := by
  unfold hasR; split
  · exact next_tr h
  · exact Tr.refl h
theorem must_tr {S : ByteArray} {q : Rs} {s : ByteArray} (h : Ok S q) : Tr S q (mustR S q s) := by
  unfold mustR; split
  · exact next_tr h
  · exact no_tr h
theorem name_tr {S : ByteArray} {q : Rs} (h : Ok S q) : Tr S q (nameR S q).2 := by
  unfold nameR; split
  · exact next_tr h
  · exact no_tr h
theorem has_lt {S : ByteArray} {q : Rs} {s : ByteArray} (h : Ok S q) (hi : isB q s = true) : M S (hasR S q s) < M S q := by
  have := isB_ok hi
  unfold hasR; rw [if_pos hi]
  exact next_lt h this.1 (by omega)
theorem is_lt {S : ByteArray} {q : Rs} {s : ByteArray} (h : Ok S q) (hi : isB q s = true) : M S (nextR S q) < M S q := by
  have := isB_ok hi
  exact next_lt h this.1 (by omega)
theorem no_ok {q : Rs} (h : okB (noR q) = true) : False := by
  unfold noR at h
  split at h
  · simp [okB] at h
  · rename_i f; exact f h
theorem name_lt {S : ByteArray} {q : Rs} (h : Ok S q) (hi : okB (nameR S q).2 = true) : M S (nameR S q).2 < M S q := by
  unfold nameR at hi ⊢
  split
  · rename_i f
    simp only [isNameB, Bool.and_eq_true, beq_iff_eq] at f
    exact next_lt h ((okB_iff q).1 f.1) (by omega)
  · rename_i f
    rw [if_neg f] at hi
    exact (no_ok hi).elim
section
variable {S : ByteArray} {R : NT → Rs → Nd × Rs} (hR : ∀ nt q, Ok S q → Tr S q (R nt q).2)
theorem bR {q q1 : Rs} {nt : NT} (hR : ∀ nt q, Ok S q → Tr S q (R nt q).2) (h : Tr S q q1) : Tr S q (R nt q1).2 := h.trans (hR _ _ h.ok)
theorem bHas {q q1 : Rs} {s : ByteArray} (h : Tr S q q1) : Tr S q (hasR S q1 s) := h.trans (has_tr h.ok)
theorem bMust {q q1 : Rs} {s : ByteArray} (h : Tr S q q1) : Tr S q (mustR S q1 s) := h.trans (must_tr h.ok)
theorem bName {q q1 : Rs} (h : Tr S q q1) : Tr S q (nameR S q1).2 := h.trans (name_tr h.ok)
theorem bNext {q q1 : Rs} (h : Tr S q q1) : Tr S q (nextR S q1) := h.trans (next_tr h.ok)
theorem bNo {q q1 : Rs} (h : Tr S q q1) : Tr S q (noR q1) := h.trans (no_tr h.ok)
theorem deep_tr {q : Rs} (h : Ok S q) (f : okB q = true) : Tr S q { q with fk := 5, fa := q.a } :=
  ⟨⟨h.size, h.e, h.x, h.y, h.a, h.n, h.t, h.k, (fun g => by cases g), (fun g => by cases g), (fun g => by cases g)⟩, by simp [M], rfl, rfl, fun g => absurd ((okB_iff q).1 f) g⟩
theorem fn_tr {q q1 : Rs} {a : Nd} (hR : ∀ nt q, Ok S q → Tr S q (R nt q).2) (h : Tr S q q1) : Tr S q (fnS S R a q1).2 := by
  unfold fnS
  dsimp only
  repeat' split
  all_goals (with_reducible (repeat (first | exact h | apply bR hR | apply bMust | apply bHas | apply bName)))
theorem step_tr (hR : ∀ nt q, Ok S q → Tr S q (R nt q).2) (nt : NT) (q : Rs) (h : Ok S q) : Tr S q (stepN S R nt q).2 := by
  have h0 := Tr.refl h
  cases nt
  case typ =>
    show Tr S q (typS S R q).2
    unfold typS
    split
    · rename_i f
      split
      · exact deep_tr h f
      · rename_i g
        have hy : q.y < 200 := by simp at g; omega
        have o1 : Ok S { q with y := q.y + 1 } := ⟨h.size, h.e, h.x, by show q.y + 1 ≤ 200; omega, h.a, h.n, h.t, h.k, h.end_, h.nm, h.sg⟩
        have t1 : Tr S { q with y := q.y + 1 } (fnS S R (R .pair { q with y := q.y + 1 }).1 (R .pair { q with y := q.y + 1 }).2).2 := fn_tr hR (bR hR (Tr.refl o1))
        have o2 := t1.ok
        have e1 := t1.y
        dsimp only at e1 ⊢
        refine ⟨⟨o2.size, o2.e, o2.x, by have := o2.y; dsimp only; omega, o2.a, o2.n, o2.t, o2.k, o2.end_, o2.nm, o2.sg⟩, t1.m, t1.x, by dsimp only; omega, fun z => absurd ((okB_iff q).1 f) z⟩
    · exact h0
  case expr =>
    show Tr S q (exprS R q).2
    unfold exprS
    split
    · rename_i f
      split
      · exact deep_tr h f
      · rename_i g
        have hy : q.x < 200 := by simp at g; omega
        have o1 : Ok S { q with x := q.x + 1 } := ⟨h.size, h.e, by show q.x + 1 ≤ 200; omega, h.y, h.a, h.n, h.t, h.k, h.end_, h.nm, h.sg⟩
        have t1 : Tr S { q with x := q.x + 1 } (R .any { q with x := q.x + 1 }).2 := bR hR (Tr.refl o1)
        have o2 := t1.ok
        have e1 := t1.x
        dsimp only at e1 ⊢
        refine ⟨⟨o2.size, o2.e, by have := o2.x; dsimp only; omega, o2.y, o2.a, o2.n, o2.t, o2.k, o2.end_, o2.nm, o2.sg⟩, t1.m, by dsimp only; omega, t1.y, fun z => absurd ((okB_iff q).1 f) z⟩
    · exact h0
  all_goals (simp only [stepN, pairS, someS, listLS, namesLS, anyS, paramS, paramsS, letT, letS, casesS, handT, handleS, handLS, compS, consS, sumS, sumLS, mulS, mulLS, appS, appLS, numS, atomS, roundS, squareS, squareLS, opsT, opsLS, defsT, defsLS, progS])
  all_goals (repeat' split)
  all_goals (with_reducible (repeat (first | exact h0 | apply bR hR | apply bMust | apply bHas | apply bName | apply bNext | apply bNo)))
end
theorem run_tr {S : ByteArray} (k : Nat) : ∀ (nt : NT) (q : Rs), Ok S q → Tr S q (run S k nt q).2 := by
  induction k with
  | zero => exact fun _ _ h => no_tr h
  | succ k ih => exact fun nt q h => step_tr ih nt q h
theorem run_facts {S : ByteArray} {k : Nat} {nt : NT} {q q' : Rs} {t : Nd} (h : Ok S q) (e : run S k nt q = (t, q')) : Tr S q q' := by
  have := run_tr k nt q h
  rw [e] at this
  exact this
theorem atom_lt {S : ByteArray} {k : Nat} {q q' : Rs} {t : Nd} (h : Ok S q) (hk : 0 < k) (hb : begB q = true) (e : run S k .atom q = (t, q')) : M S q' < M S q := by
  obtain ⟨j, rfl⟩ : ∃ j, k = j + 1 := ⟨k - 1, by omega⟩
  have e1 : q' = (atomS S (run S j) q).2 := by
    have : run S (j + 1) .atom q = atomS S (run S j) q := rfl
    rw [← this, e]
  have hR := run_tr (S := S) j
  have hb' := hb
  unfold begB at hb'
  simp only [Bool.and_eq_true] at hb'
  obtain ⟨f, hb'⟩ := hb'
  have f0 := (okB_iff q).1 f
  have no : ∀ s, ¬ isB q s = true → hasR S q s = q := fun s hn => by unfold hasR; rw [if_neg hn]
  rw [e1]
  unfold atomS
  rw [if_pos f]
  by_cases h2 : (((q.k : Nat) : Int) == (2 : Int)) = true
  · rw [if_pos h2]
    simp only [beq_iff_eq] at h2
    exact next_lt h f0 (by omega)
  · rw [if_neg h2]
    by_cases h1 : (((q.k : Nat) : Int) == (1 : Int)) = true
    · rw [if_pos h1]
      simp only [beq_iff_eq] at h1
      exact next_lt h f0 (by omega)
    · rw [if_neg h1]
      simp only [Bool.or_eq_true] at hb'
      dsimp only
      by_cases c1 : isB q Z.k29 = true
      · rw [if_pos c1]
        have l := has_lt h c1
        have o := (has_tr (s := Z.k29) h)
        have : Tr S q (numS S q (hasR S q Z.k29)).2 ∧ M S (numS S q (hasR S q Z.k29)).2 ≤ M S (hasR S q Z.k29) := by
          have o1 := Tr.refl o.ok
          unfold numS
          repeat' split
          all_goals exact ⟨by repeat (first | exact o | apply bNext | apply bNo), by apply Tr.m; repeat (first | exact o1 | apply bNext | apply bNo)⟩
        omega
      · rw [if_neg c1, no _ c1]
        by_cases c2 : isB q Z.k13 = true
        · rw [if_pos c2]; exact has_lt h c2
        · rw [if_neg c2, no _ c2]
          by_cases c3 : isB q Z.k14 = true
          · rw [if_pos c3]; exact has_lt h c3
          · rw [if_neg c3, no _ c3]
            by_cases c4 : isB q Z.k4 = true
            · rw [if_pos c4]
              have := has_lt h c4
              have := (hR (.round q.a) _ (has_tr (s := Z.k4) h).ok).m
              omega
            · rw [if_neg c4, no _ c4]
              by_cases c5 : isB q Z.k18 = true
              · rw [if_pos c5]
                have := has_lt h c5
                have := (hR (.square q.a) _ (has_tr (s := Z.k18) h).ok).m
                omega
              · simp_all
theorem M_le {S : ByteArray} {q : Rs} (h : Ok S q) : M S q ≤ 3002 := by
  have := h.size
  unfold M
  split
  · omega
  · split <;> omega
theorem run_succ (S : ByteArray) (k : Nat) (nt : NT) (q : Rs) : run S (k + 1) nt q = stepN S (run S k) nt q := rfl
def q00 : Rs := ⟨0, 0, Z.E, 0, 0, 0, 0, 0, 0⟩
def fuelP : Nat := 48100
def lastR (q : Rs) : Rs := if okB q = true then (if (((q.k : Nat) : Int) != (0 : Int)) = true then noR q else q) else q
def parseP (s : ByteArray) : Nd × Nat × Nat :=
  if s.size > 3000 then (nd0, 1, 0) else
  let r := run s fuelP .prog (nextR s q00)
  let q := lastR r.2
  if okB q = true then (r.1, 0, 0) else (nd0, q.fk, q.fa)
theorem first_ok {S : ByteArray} (h : S.size ≤ 3000) : Ok S (nextR S q00) := by
  have p := next_props h (Nat.zero_le S.size)
  show Ok S (nextR S q00)
  unfold nextR
  rw [if_pos (by decide)]
  exact ⟨h, p.1, Nat.zero_le _, Nat.zero_le _, p.2.1, p.2.2.1, p.2.2.2.1, p.2.2.2.2.1, p.2.2.2.2.2.1, p.2.2.2.2.2.2.2.1, p.2.2.2.2.2.2.2.2⟩
def ndC (t : Nd) (A : Option Addr) (c : Nat) : List Value := [.int .i64 (t.k : Int), .int .i64 (t.a : Int), .string t.nm, .int .i64 t.n, .slice A t.ks.length c]
def In (lo hi : Nat) (X : List Nat) (j : Nat) : Prop := lo ≤ j ∧ j < hi ∧ j ∉ X
inductive KV (Q : Nat → Prop) (w : World) : List Nd → Option Addr → Nat → Prop
  | mk {ks : List Nd} {A : Option Addr} {c : Nat} (As : Nat → Option Addr) (cs : Nat → Nat) (hc : ks.length ≤ c) (hl : ks.length ≤ maxLen) (hA : ∀ i, i < ks.length → ∃ a, A = some a ∧ Q a.block)
      (hr : Gx.Rd w A ks.length 5 (fun i => ndC (ks.getD i nd0) (As i) (cs i))) (h : ∀ i, i < ks.length → KV Q w (ks.getD i nd0).ks (As i) (cs i)) : KV Q w ks A c
theorem cells_frame {w w' : World} {a : Addr} {n : Nat} {cs : List Value} (h : w.cells? 0 a n = some cs) (x : w'.heap[a.block]? = w.heap[a.block]?) : w'.cells? 0 a n = some cs := by
  have e : (fun i => w'.cell? (a.add i)) = fun i => w.cell? (a.add i) := funext fun i => by
    unfold World.cell?
    have : (a.add i).block = a.block := by unfold Addr.add; split <;> rfl
    rw [this, x]
  unfold World.cells? at h ⊢
  rw [e]
  exact h
theorem KV.frame {Q : Nat → Prop} {w w' : World} {ks : List Nd} {A : Option Addr} {c : Nat} (h : KV Q w ks A c) (x : ∀ j, Q j → j < w.heap.size → w'.heap[j]? = w.heap[j]?) : KV Q w' ks A c := by
  induction h with
  | @mk ks A c As cs hc hl hA hr _ ih =>
    refine .mk As cs hc hl hA (fun i hi => ?_) (fun i hi => ih i hi)
    obtain ⟨a, ha, hq⟩ := hA i hi
    obtain ⟨a', ha', hc⟩ := hr i hi
    rw [ha] at ha'
    cases ha'
    have hb := World.cells?_block hc (by decide)
    have e : (a.add (i * 5)).block = a.block := by unfold Addr.add; split <;> rfl
    rw [e] at hb
    exact ⟨a, ha, cells_frame hc (by rw [e]; exact x _ hq hb)⟩
theorem KV.mono {Q Q' : Nat → Prop} {w : World} {ks : List Nd} {A : Option Addr} {c : Nat} (h : KV Q w ks A c) (x : ∀ j, Q j → j < w.heap.size → Q' j) : KV Q' w ks A c := by
  induction h with
  | @mk ks A c As cs hc hl hA hr _ ih =>
    refine .mk As cs hc hl (fun i hi => ?_) hr (fun i hi => ih i hi)
    obtain ⟨a, ha, hq⟩ := hA i hi
    obtain ⟨a', ha', hc⟩ := hr i hi
    rw [ha] at ha'
    cases ha'
    have hb := World.cells?_block hc (by decide)
    have e : (a.add (i * 5)).block = a.block := by unfold Addr.add; split <;> rfl
    rw [e] at hb
    exact ⟨a, ha, x _ hq hb⟩
theorem KV.nil {Q : Nat → Prop} {w : World} {A : Option Addr} {c : Nat} : KV Q w [] A c :=
  .mk (fun _ => none) (fun _ => 0) (Nat.zero_le _) (Nat.zero_le _) (fun i h => absurd h (Nat.not_lt_zero i)) (fun i h => absurd h (Nat.not_lt_zero i)) (fun i h => absurd h (Nat.not_lt_zero i))
section
variable {lo hi lo' hi' k : Nat} {X X' : List Nat} {w w' : World} {ks : List Nd} {A : Option Addr} {c : Nat}
theorem KV.ext (h : KV (In lo hi X) w ks A c) (x : Gx.Ext w w') : KV (In lo hi X) w' ks A c := h.frame (fun j _ hj => x.block j hj (by simp))
theorem KV.upd (h : KV (In lo hi X) w ks A c) (x : Gx.G w w' (some k)) (hk : k < lo ∨ hi ≤ k ∨ k ∈ X := by first | (left; omega) | (right; left; omega) | (right; right; simp)) : KV (In lo hi X) w' ks A c :=
  h.frame (fun j hj hs => x.block j hs (fun e => by
    cases e
    obtain ⟨h1, h2, h3⟩ := hj
    rcases hk with q | q | q
    · omega
    · omega
    · exact h3 q))
theorem KV.app {r : Option Nat} (h : KV (In lo hi X) w ks A c) (x : Gx.G w w' r) (hk : ∀ j, r = some j → j < lo ∨ hi ≤ j ∨ j ∈ X) : KV (In lo hi X) w' ks A c :=
  h.frame (fun j hj hs => x.block j hs (fun e => by
    obtain ⟨h1, h2, h3⟩ := hj
    rcases hk j e.symm with q | q | q
    · omega
    · omega
    · exact h3 q))
theorem KV.to (h : KV (In lo hi X) w ks A c) (h1 : lo' ≤ lo) (h2 : hi ≤ hi') (h3 : ∀ j ∈ X', j ∈ X ∨ j < lo ∨ hi ≤ j) : KV (In lo' hi' X') w ks A c :=
  h.mono (fun j hj _ => ⟨Nat.le_trans h1 hj.1, Nat.lt_of_lt_of_le hj.2.1 h2, fun q => by
    obtain ⟨a, b, c⟩ := hj
    rcases h3 j q with r | r | r
    · exact c r
    · omega
    · omega⟩)
theorem KV.top (h : KV (In lo hi X) w ks A c) (h1 : lo' ≤ lo := by omega) (h3 : ∀ j ∈ X', j ∈ X ∨ j < lo ∨ hi ≤ j := by first | (intro j hj; cases hj; done) | (intro j hj; simp only [List.mem_cons, List.not_mem_nil, or_false] at hj ⊢; omega)) : KV (In lo' w.heap.size X') w ks A c :=
  h.mono (fun j hj hs => ⟨Nat.le_trans h1 hj.1, hs, fun q => by
    obtain ⟨a, b, c⟩ := hj
    rcases h3 j q with r | r | r
    · exact c r
    · omega
    · omega⟩)
end
def InV (lo hi : Nat) (X : List Nat) (v : Value) (j : Nat) : Prop := In lo hi X j ∧ v.ownBlock ≠ some j
section
variable {lo hi lo' k : Nat} {X X' : List Nat} {w w' : World} {ks : List Nd} {A : Option Addr} {c : Nat} {v v' : Value}
theorem KV.extV (h : KV (InV lo hi X v) w ks A c) (x : Gx.Ext w w') : KV (InV lo hi X v) w' ks A c := h.frame (fun j _ hj => x.block j hj (by simp))
theorem KV.updV (h : KV (InV lo hi X v) w ks A c) (x : Gx.G w w' (some k)) (hk : k < lo ∨ hi ≤ k ∨ k ∈ X := by first | (left; omega) | (right; left; omega) | (right; right; simp)) : KV (InV lo hi X v) w' ks A c :=
  h.frame (fun j hj hs => x.block j hs (fun e => by
    cases e
    obtain ⟨⟨h1, h2, h3⟩, _⟩ := hj
    rcases hk with q | q | q
    · omega
    · omega
    · exact h3 q))
theorem KV.appV (h : KV (InV lo hi X v) w ks A c) (x : Gx.G w w' v.ownBlock) : KV (InV lo hi X v) w' ks A c :=
  h.frame (fun j hj hs => x.block j hs (fun e => hj.2 e.symm))
theorem KV.ofIn (h : KV (In lo hi X) w ks A c) (hv : ∀ j, v.ownBlock = some j → j < lo ∨ hi ≤ j) : KV (InV lo hi X v) w ks A c :=
  h.mono (fun j hj _ => ⟨hj, fun e => by
    obtain ⟨h1, h2, h3⟩ := hj
    rcases hv j e with q | q
    · omega
    · omega⟩)
theorem KV.noV (h : KV (InV lo hi X v) w ks A c) : KV (In lo hi X) w ks A c := h.mono (fun j hj _ => hj.1)
theorem KV.toV (h : KV (InV lo hi X v) w ks A c) (hv : v'.ownBlock = v.ownBlock ∨ v'.ownBlock = some k) (hk : hi ≤ k) : KV (InV lo hi X v') w ks A c :=
  h.mono (fun j hj _ => ⟨hj.1, fun e => by
    rcases hv with q | q
    · exact hj.2 (q.symm.trans e)
    · rw [q] at e
      cases e
      have := hj.1.2.1
      omega⟩)
theorem KV.topV (h : KV (InV lo hi X v) w ks A c) (h1 : lo' ≤ lo := by omega) (h3 : ∀ j ∈ X', j ∈ X ∨ j < lo ∨ hi ≤ j := by first | (intro j hj; cases hj; done) | (intro j hj; simp only [List.mem_cons, List.not_mem_nil, or_false] at hj ⊢; omega)) : KV (InV lo' w.heap.size X' v) w ks A c :=
  h.mono (fun j hj hs => ⟨⟨Nat.le_trans h1 hj.1.1, hs, fun q => by
    obtain ⟨⟨a, b, c⟩, _⟩ := hj
    rcases h3 j q with r | r | r
    · exact c r
    · omega
    · omega⟩, hj.2⟩)
end
def nds (L : List (Nd × Option Addr × Nat)) : List Nd := L.map (·.1)
theorem nds_app (L M : List (Nd × Option Addr × Nat)) : nds (L ++ M) = nds L ++ nds M := by simp [nds]
theorem nds_cons (p : Nd × Option Addr × Nat) (L : List (Nd × Option Addr × Nat)) : nds (p :: L) = p.1 :: nds L := rfl
theorem nds_nil : nds [] = [] := rfl
theorem nds_len (L : List (Nd × Option Addr × Nat)) : (nds L).length = L.length := by simp [nds]
theorem maps : (∀ L M : List (Nd × Option Addr × Nat), nds (L ++ M) = nds L ++ nds M) ∧ (∀ (p : Nd × Option Addr × Nat) (L : List (Nd × Option Addr × Nat)), nds (p :: L) = p.1 :: nds L) ∧ nds [] = [] ∧ (∀ L : List (Nd × Option Addr × Nat), (nds L).length = L.length) ∧
    (∀ l : List Nd, [] ++ l = l) ∧ (∀ (a : Nd) (l m : List Nd), (a :: l) ++ m = a :: (l ++ m)) ∧ (∀ l m r : List Nd, (l ++ m) ++ r = l ++ (m ++ r)) ∧
    (∀ l : List (Nd × Option Addr × Nat), [] ++ l = l) ∧ (∀ (a : Nd × Option Addr × Nat) (l m : List (Nd × Option Addr × Nat)), (a :: l) ++ m = a :: (l ++ m)) ∧ (∀ l m r : List (Nd × Option Addr × Nat), (l ++ m) ++ r = l ++ (m ++ r)) :=
  ⟨nds_app, nds_cons, nds_nil, nds_len, fun _ => rfl, fun _ _ _ => rfl, List.append_assoc, fun _ => rfl, fun _ _ _ => rfl, List.append_assoc⟩
def flat (L : List (Nd × Option Addr × Nat)) : List Value := L.flatMap (fun p => ndC p.1 p.2.1 p.2.2)
theorem flat_len (L : List (Nd × Option Addr × Nat)) : (flat L).length = L.length * 5 := by
  induction L with
  | nil => rfl
  | cons p r ih => simp only [flat, List.flatMap_cons, List.length_append] at ih ⊢; rw [ih]; simp [ndC]; omega
theorem flat_snoc (L : List (Nd × Option Addr × Nat)) (p : Nd × Option Addr × Nat) : flat (L ++ [p]) = flat L ++ ndC p.1 p.2.1 p.2.2 := by simp [flat]
theorem flat_at (L : List (Nd × Option Addr × Nat)) (i : Nat) (h : i < L.length) (d : Nd × Option Addr × Nat) : ((flat L).drop (i * 5)).take 5 = ndC (L.getD i d).1 (L.getD i d).2.1 (L.getD i d).2.2 := by
  induction L generalizing i with
  | nil => simp at h
  | cons p r ih =>
    cases i with
    | zero => simp [flat, ndC]
    | succ i =>
      have := ih i (by simpa using h)
      simp only [List.getD_cons_succ]
      rw [← this]
      simp only [flat, List.flatMap_cons]
      rw [show (i + 1) * 5 = 5 + i * 5 by omega, List.drop_append, List.drop_eq_nil_of_le (by simp [ndC]), List.nil_append]
      simp [ndC]
theorem row_cells {w : World} {b m i : Nat} {cs : Array Value} {t : TypeId} {fr : Nat × Nat} {row : List Value} (h : Gx.Has w b (.cells cs t fr)) (hrow : (cs.toList.drop (i * m)).take m = row) (hm : row.length = m) :
    w.cells? 0 ((⟨b, 0, none⟩ : Addr).add (i * m)) m = some row := by
  have e : (⟨b, 0, none⟩ : Addr).add (i * m) = ⟨b, i * m, none⟩ := by
    unfold Addr.add
    split
    · rename_i q; rw [q]
    · simp
  rw [e]
  refine ChangeShapes.cells?_of (Nat.zero_le _) hm (fun j hj => ?_)
  unfold World.cell?
  unfold Gx.Has at h
  rw [h]
  show cs[i * m + j]? = row[j]?
  rw [← hrow, List.getElem?_take, if_pos hj, List.getElem?_drop, Array.getElem?_toList]
theorem KV.of_row {Q : Nat → Prop} {w : World} {kb n : Nat} {cs : Array Value} {e : TypeId} {fr : Nat × Nat} (L : List (Nd × Option Addr × Nat)) (hb : Gx.Has w kb (.cells cs e fr)) (hn : cs.toList.take n = flat L) (hQ : Q kb)
    (hk : ∀ p ∈ L, KV Q w p.1.ks p.2.1 p.2.2) {c : Nat} (hc : L.length ≤ c := by first | decide | simp) (hl : L.length ≤ maxLen := by simp [maxLen]) : KV Q w (nds L) (some ⟨kb, 0, none⟩) c := by
  have hg : ∀ i, i < L.length → (nds L).getD i nd0 = (L.getD i (nd0, none, 0)).1 := fun i hi => by
    unfold nds; rw [List.getD_eq_getElem?_getD, List.getD_eq_getElem?_getD, List.getElem?_map, List.getElem?_eq_getElem hi]; rfl
  refine .mk (fun i => (L.getD i (nd0, none, 0)).2.1) (fun i => (L.getD i (nd0, none, 0)).2.2) (by rw [nds_len]; exact hc) (by rw [nds_len]; exact hl) (fun i hi => ⟨_, rfl, hQ⟩) (fun i hi => ⟨_, rfl, row_cells hb ?_ (by simp [ndC])⟩) (fun i hi => ?_)
  · have hi' : i < L.length := by simpa [nds] using hi
    have hle : (i + 1) * 5 ≤ n ∧ (i + 1) * 5 ≤ cs.toList.length := by
      have h1 : (cs.toList.take n).length = L.length * 5 := by rw [hn, flat_len]
      rw [List.length_take] at h1
      omega
    show _ = ndC ((nds L).getD i nd0) _ _
    rw [hg i hi', ← flat_at L i hi', ← hn]
    rw [List.drop_take, List.take_take]
    congr 1
    omega
  · have hi' : i < L.length := by simpa [nds] using hi
    rw [hg i hi']
    have hm : L.getD i (nd0, none, 0) ∈ L := by
      rw [List.getD_eq_getElem?_getD, List.getElem?_eq_getElem hi']
      exact List.getElem_mem hi'
    exact hk _ hm
theorem KV.of_own {Q : Nat → Prop} {w : World} {base n : Nat} {e : TypeId} {v : Value} (L : List (Nd × Option Addr × Nat)) (h : w.ownsRow base e 5 v n (flat L)) (hQ : ∀ j, v.ownBlock = some j → Q j) (hk : ∀ p ∈ L, KV Q w p.1.ks p.2.1 p.2.2) :
    ∃ A c, v = .slice A (nds L).length c ∧ KV Q w (nds L) A c := by
  obtain ⟨h1, h2⟩ := h
  have hn : n = L.length := by rw [flat_len] at h1; omega
  rcases h2 with ⟨rfl, rfl⟩ | ⟨g, cap, cur, rfl, hb, hg, hnc, hcm, hsz, htk⟩
  · have : L = [] := List.length_eq_zero_iff.1 hn.symm
    subst this
    exact ⟨none, 0, rfl, .nil⟩
  · exact ⟨some ⟨g, 0, none⟩, cap, by rw [nds_len, hn], .of_row L hg htk (hQ g rfl) hk (by omega) (by omega)⟩
theorem KV.at_ {Q : Nat → Prop} {w : World} {ks : List Nd} {A : Option Addr} {c : Nat} (h : KV Q w ks A c) : ∃ (As : Nat → Option Addr) (cs : Nat → Nat), Gx.Rd w A ks.length 5 (fun i => ndC (ks.getD i nd0) (As i) (cs i)) ∧ ∀ i, i < ks.length → KV Q w (ks.getD i nd0).ks (As i) (cs i) := by
  cases h with
  | mk As cs hc hl hA hr hk => exact ⟨As, cs, hr, hk⟩
theorem KV.cap {Q : Nat → Prop} {w : World} {ks : List Nd} {A : Option Addr} {c : Nat} (h : KV Q w ks A c) : ks.length ≤ c := by
  cases h with
  | mk As cs hc hl hA hr hk => exact hc
theorem KV.max {Q : Nat → Prop} {w : World} {ks : List Nd} {A : Option Addr} {c : Nat} (h : KV Q w ks A c) : ks.length ≤ maxLen := by
  cases h with
  | mk As cs hc hl hA hr hk => exact hl
section
variable {w w' w'' : World} {b j : Nat}
theorem gb_refl (w : World) (b : Nat) : Gx.G w w (some b) := ⟨rfl, rfl, rfl, Nat.le_refl _, fun _ _ _ => rfl⟩
theorem gb_upd (h : Gx.G w w' (some b)) (k : Gx.G w' w'' (some b)) : Gx.G w w'' (some b) :=
  ⟨k.os.trans h.os, k.tape.trans h.tape, k.output.trans h.output, Nat.le_trans h.size k.size, fun i hi hn => (k.block i (Nat.lt_of_lt_of_le hi h.size) hn).trans (h.block i hi hn)⟩
theorem gb_app {r : Option Nat} (h : Gx.G w w' (some b)) (k : Gx.G w' w'' r) (hr : ∀ j, r = some j → w.heap.size ≤ j) : Gx.G w w'' (some b) :=
  ⟨k.os.trans h.os, k.tape.trans h.tape, k.output.trans h.output, Nat.le_trans h.size k.size, fun i hi hn => (k.block i (Nat.lt_of_lt_of_le hi h.size) (fun e => by have := hr i e.symm; omega)).trans (h.block i hi hn)⟩
theorem gb_ext (h : Gx.G w w' (some b)) (k : Gx.Ext w' w'') : Gx.G w w'' (some b) := gb_app h k (fun _ e => by cases e)
theorem gb_new (h : Gx.G w w' (some b)) (k : Gx.G w' w'' (some j)) (hj : w.heap.size ≤ j := by omega) : Gx.G w w'' (some b) := gb_app h k (fun _ e => by cases e; exact hj)
end
theorem consF_drop {l : List Nd} {i : Nat} (z : Nd) (h : i < l.length) : (l.drop i).foldr consF z = consF (l.getD i nd0) ((l.drop (i + 1)).foldr consF z) := by
  rw [List.drop_eq_getElem_cons h, List.foldr_cons, List.getD_eq_getElem?_getD, List.getElem?_eq_getElem h]; rfl
theorem flat_one (L : List (Nd × Option Addr × Nat)) : ∀ u ∈ flat L, u.oneCell' = true := by
  intro u hu
  simp only [flat, List.mem_flatMap, ndC, List.mem_cons, List.not_mem_nil, or_false] at hu
  obtain ⟨p, _, h⟩ := hu
  rcases h with rfl | rfl | rfl | rfl | rfl <;> rfl
end Go.Syn
