/- What the document's reader of texts does, as plain functions. No program in sight. -/
import Derived.Test.YtfkkocjheeoobaaPu
import Derived.Test.YtfkkocjheeoobaaSx1
import Derived.Test.YtfkkocjheeoobaaGraph
set_option linter.unusedVariables false
set_option linter.unusedSimpArgs false
set_option linter.unusedVariables false
set_option linter.unusedSimpArgs false
namespace Go.Syn
open Go.Lex
inductive Nd where
  | mk (k a : Nat) (nm : ByteArray) (n : Int) (ks : List Nd)
def Nd.k : Nd → Nat | .mk k _ _ _ _ => k
def Nd.a : Nd → Nat | .mk _ a _ _ _ => a
def Nd.nm : Nd → ByteArray | .mk _ _ x _ _ => x
def Nd.n : Nd → Int | .mk _ _ _ n _ => n
def Nd.ks : Nd → List Nd | .mk _ _ _ _ l => l
def nd0 : Nd := .mk 0 0 (⟨#[]⟩ : ByteArray) 0 []
def two (x : ByteArray) (a b : Nd) : Nd := .mk 18 a.a x 0 [a, b]
/-- How a reader stands. -/
structure Rs where
  k : Nat
  a : Nat
  t : ByteArray
  n : Nat
  e : Nat
  fk : Nat
  fa : Nat
  x : Nat
  y : Nat
def okB (q : Rs) : Bool := ((q.fk : Nat) : Int) == (0 : Int)
def isB (q : Rs) (s : ByteArray) : Bool := okB q && ((((q.k : Nat) : Int) == (3 : Int)) || (((q.k : Nat) : Int) == (4 : Int))) && (q.t.toList == s.toList)
def isNameB (q : Rs) : Bool := okB q && (((q.k : Nat) : Int) == (2 : Int))
def begB (q : Rs) : Bool := okB q && ((((q.k : Nat) : Int) == (2 : Int)) || (((q.k : Nat) : Int) == (1 : Int)) || isB q (⟨#[126]⟩ : ByteArray) || isB q (⟨#[116, 114, 117, 101]⟩ : ByteArray) || isB q (⟨#[102, 97, 108, 115, 101]⟩ : ByteArray) || isB q (⟨#[40]⟩ : ByteArray) || isB q (⟨#[91]⟩ : ByteArray))
def nextR (S : ByteArray) (q : Rs) : Rs := if okB q = true then ⟨(next S q.e).kind, (next S q.e).at_, (next S q.e).text, (next S q.e).n, (next S q.e).nx, (next S q.e).fk, (next S q.e).fa, q.x, q.y⟩ else q
def noR (q : Rs) : Rs := if okB q = true then { q with fk := 4, fa := q.a } else q
def hasR (S : ByteArray) (q : Rs) (s : ByteArray) : Rs := if isB q s = true then nextR S q else q
def mustR (S : ByteArray) (q : Rs) (s : ByteArray) : Rs := if isB q s = true then nextR S q else noR q
def nameR (S : ByteArray) (q : Rs) : (ByteArray × Nat) × Rs := if isNameB q = true then ((q.t, q.a), nextR S q) else (((⟨#[]⟩ : ByteArray), 0), noR q)
/-- What is read. -/
inductive NT where
  | typ | pair | some | listL (a : Nd) | namesL (l : List Nd) | expr | any | params (sign : ByteArray) (first : Bool) | letN (at_ : Nat) | cases (at_ : Nat) | handle (at_ : Nat) | handL (l : List Nd)
  | comp | cons | sum | sumL (a : Nd) | mul | mulL (a : Nd) | app | appL (a : Nd) | atom | round (at_ : Nat) | square (at_ : Nat) | squareL (l : List Nd) | prog | opsL (l : List Nd) | defsL (n : Nat) (l : List Nd)
section
variable (S : ByteArray) (R : NT → Rs → Nd × Rs)
def fnS (a : Nd) (q1 : Rs) : Nd × Rs :=
  let q2 := hasR S q1 (⟨#[45, 62]⟩ : ByteArray)
  if isB q1 (⟨#[45, 62]⟩ : ByteArray) = true then
    let r := R .typ q2
    (.mk 29 a.a (⟨#[]⟩ : ByteArray) 0 [a, r.1], r.2)
  else
    let q3 := hasR S q2 (⟨#[45]⟩ : ByteArray)
    if isB q2 (⟨#[45]⟩ : ByteArray) = true then
      let q4 := mustR S q3 (⟨#[123]⟩ : ByteArray)
      let r4 := R (.namesL []) q4
      let q5 := mustR S r4.2 (⟨#[125]⟩ : ByteArray)
      let q6 := mustR S q5 (⟨#[45, 62]⟩ : ByteArray)
      let r6 := R .typ q6
      (.mk 29 a.a (⟨#[]⟩ : ByteArray) 0 ([a, r6.1] ++ r4.1.ks), r6.2)
    else (a, q3)
def typS (q : Rs) : Nd × Rs :=
  if okB q = true then
    if decide (((q.y : Nat) : Int) ≥ (200 : Int)) = true then (nd0, { q with fk := 5, fa := q.a })
    else
      let r1 := R .pair { q with y := q.y + 1 }
      let r := fnS S R r1.1 r1.2
      (r.1, { r.2 with y := r.2.y - 1 })
  else (nd0, q)
def namesLS (l : List Nd) (q : Rs) : Nd × Rs :=
  let r := nameR S q
  let q1 := hasR S r.2 (⟨#[44]⟩ : ByteArray)
  if isB r.2 (⟨#[44]⟩ : ByteArray) = true then R (.namesL (l ++ [.mk 23 r.1.2 r.1.1 0 []])) q1 else (.mk 0 0 (⟨#[]⟩ : ByteArray) 0 (l ++ [.mk 23 r.1.2 r.1.1 0 []]), q1)
def pairS (q : Rs) : Nd × Rs :=
  let r1 := R .some q
  let q2 := hasR S r1.2 (⟨#[42]⟩ : ByteArray)
  if isB r1.2 (⟨#[42]⟩ : ByteArray) = true then
    let r2 := R .pair q2
    (.mk 28 r1.1.a (⟨#[]⟩ : ByteArray) 0 [r1.1, r2.1], r2.2)
  else (r1.1, q2)
def someS (q : Rs) : Nd × Rs :=
  let q1 := hasR S q (⟨#[105, 110, 116]⟩ : ByteArray)
  if isB q (⟨#[105, 110, 116]⟩ : ByteArray) = true then R (.listL (.mk 24 q.a (⟨#[]⟩ : ByteArray) 0 [])) q1 else
  let q2 := hasR S q1 (⟨#[98, 111, 111, 108]⟩ : ByteArray)
  if isB q1 (⟨#[98, 111, 111, 108]⟩ : ByteArray) = true then R (.listL (.mk 25 q.a (⟨#[]⟩ : ByteArray) 0 [])) q2 else
  let q3 := hasR S q2 (⟨#[117, 110, 105, 116]⟩ : ByteArray)
  if isB q2 (⟨#[117, 110, 105, 116]⟩ : ByteArray) = true then R (.listL (.mk 26 q.a (⟨#[]⟩ : ByteArray) 0 [])) q3 else
  let q4 := hasR S q3 (⟨#[40]⟩ : ByteArray)
  if isB q3 (⟨#[40]⟩ : ByteArray) = true then
    let r := R .typ q4
    R (.listL r.1) (mustR S r.2 (⟨#[41]⟩ : ByteArray))
  else R (.listL nd0) (noR q4)
def listLS (a : Nd) (q : Rs) : Nd × Rs :=
  let q1 := hasR S q (⟨#[108, 105, 115, 116]⟩ : ByteArray)
  if isB q (⟨#[108, 105, 115, 116]⟩ : ByteArray) = true then R (.listL (.mk 27 a.a (⟨#[]⟩ : ByteArray) 0 [a])) q1 else (a, q1)
def exprS (q : Rs) : Nd × Rs :=
  if okB q = true then
    if decide (((q.x : Nat) : Int) ≥ (200 : Int)) = true then (nd0, { q with fk := 5, fa := q.a })
    else
      let r1 := R .any { q with x := q.x + 1 }
      (r1.1, { r1.2 with x := r1.2.x - 1 })
  else (nd0, q)
def anyS (q : Rs) : Nd × Rs :=
  let q1 := hasR S q (⟨#[108, 101, 116]⟩ : ByteArray)
  if isB q (⟨#[108, 101, 116]⟩ : ByteArray) = true then R (.letN q.a) q1 else
  let q2 := hasR S q1 (⟨#[102, 110]⟩ : ByteArray)
  if isB q1 (⟨#[102, 110]⟩ : ByteArray) = true then
    let r := R (.params (⟨#[61, 62]⟩ : ByteArray) true) q2
    (.mk r.1.k q.a r.1.nm r.1.n r.1.ks, r.2)
  else
  let q3 := hasR S q2 (⟨#[105, 102]⟩ : ByteArray)
  if isB q2 (⟨#[105, 102]⟩ : ByteArray) = true then
    let ra := R .expr q3
    let qa := mustR S ra.2 (⟨#[116, 104, 101, 110]⟩ : ByteArray)
    let rb := R .expr qa
    let qb := mustR S rb.2 (⟨#[101, 108, 115, 101]⟩ : ByteArray)
    let rc := R .expr qb
    (.mk 11 q.a (⟨#[]⟩ : ByteArray) 0 [ra.1, rb.1, rc.1], rc.2)
  else
  let q4 := hasR S q3 (⟨#[99, 97, 115, 101]⟩ : ByteArray)
  if isB q3 (⟨#[99, 97, 115, 101]⟩ : ByteArray) = true then R (.cases q.a) q4 else
  if isB q4 (⟨#[104, 97, 110, 100, 108, 101]⟩ : ByteArray) = true then R (.handle q.a) q4 else
  if isB q4 (⟨#[115, 104, 97, 108, 108, 111, 119]⟩ : ByteArray) = true then R (.handle q.a) q4 else
  let r := R .comp q4
  let q5 := hasR S r.2 (⟨#[59]⟩ : ByteArray)
  if isB r.2 (⟨#[59]⟩ : ByteArray) = true then
    let r2 := R .expr q5
    (.mk 10 r.1.a (⟨#[]⟩ : ByteArray) 0 [r.1, r2.1], r2.2)
  else (r.1, q5)
def paramS (sign : ByteArray) (q : Rs) : Nd × Rs :=
  let r := nameR S q
  if okB r.2 = true then
    let r2 := R (.params sign false) r.2
    (.mk 7 r.1.2 r.1.1 0 [r2.1], r2.2)
  else (nd0, r.2)
def paramsS (sign : ByteArray) (first : Bool) (q : Rs) : Nd × Rs :=
  if first = true then paramS S R sign q else if isNameB q = true then paramS S R sign q else R .expr (mustR S q sign)
def letT (at_ : Nat) (n : Int) (f : Bool) (q1 : Rs) : Nd × Rs :=
  let r := nameR S q1
  let r2 := R (.params (⟨#[61]⟩ : ByteArray) f) r.2
  let q3 := mustR S r2.2 (⟨#[105, 110]⟩ : ByteArray)
  let r4 := R .expr q3
  (.mk 9 at_ r.1.1 n [r2.1, r4.1], r4.2)
def letS (at_ : Nat) (q : Rs) : Nd × Rs :=
  let q1 := hasR S q (⟨#[114, 101, 99]⟩ : ByteArray)
  if isB q (⟨#[114, 101, 99]⟩ : ByteArray) = true then letT S R at_ 1 true q1 else letT S R at_ 0 false q1
def casesS (at_ : Nat) (q : Rs) : Nd × Rs :=
  let r := R .expr q
  let q1 := mustR S r.2 (⟨#[111, 102]⟩ : ByteArray)
  let q2 := mustR S q1 (⟨#[91]⟩ : ByteArray)
  let q3 := mustR S q2 (⟨#[93]⟩ : ByteArray)
  let q4 := mustR S q3 (⟨#[61, 62]⟩ : ByteArray)
  let r5 := R .expr q4
  let q6 := mustR S r5.2 (⟨#[124]⟩ : ByteArray)
  let r7 := nameR S q6
  let q8 := mustR S r7.2 (⟨#[58, 58]⟩ : ByteArray)
  let r9 := nameR S q8
  let q10 := mustR S r9.2 (⟨#[61, 62]⟩ : ByteArray)
  let r11 := R .expr q10
  let q12 := mustR S r11.2 (⟨#[101, 110, 100]⟩ : ByteArray)
  (.mk 17 at_ (⟨#[]⟩ : ByteArray) 0 [r.1, r5.1, .mk 23 r7.1.2 r7.1.1 0 [], .mk 23 r9.1.2 r9.1.1 0 [], r11.1], q12)
def handT (at_ : Nat) (n : Int) (q1 : Rs) : Nd × Rs :=
  let r := R .expr q1
  let q2 := mustR S r.2 (⟨#[119, 105, 116, 104]⟩ : ByteArray)
  let q3 := mustR S q2 (⟨#[123]⟩ : ByteArray)
  let q4 := mustR S q3 (⟨#[114, 101, 116, 117, 114, 110]⟩ : ByteArray)
  let r5 := nameR S q4
  let q6 := mustR S r5.2 (⟨#[61, 62]⟩ : ByteArray)
  let r7 := R .expr q6
  let r8 := R (.handL [r.1, .mk 21 q3.a r5.1.1 0 [r7.1]]) r7.2
  let q9 := mustR S r8.2 (⟨#[125]⟩ : ByteArray)
  (.mk 20 at_ (⟨#[]⟩ : ByteArray) n r8.1.ks, q9)
def handleS (at_ : Nat) (q : Rs) : Nd × Rs :=
  let q1 := hasR S q (⟨#[104, 97, 110, 100, 108, 101]⟩ : ByteArray)
  if isB q (⟨#[104, 97, 110, 100, 108, 101]⟩ : ByteArray) = true then handT S R at_ 0 q1 else handT S R at_ 1 (nextR S q1)
def handLS (l : List Nd) (q : Rs) : Nd × Rs :=
  let q1 := hasR S q (⟨#[124]⟩ : ByteArray)
  if isB q (⟨#[124]⟩ : ByteArray) = true then
    let r2 := nameR S q1
    let r3 := nameR S r2.2
    let r4 := nameR S r3.2
    let q5 := mustR S r4.2 (⟨#[61, 62]⟩ : ByteArray)
    let r6 := R .expr q5
    R (.handL (l ++ [.mk 22 r2.1.2 r2.1.1 0 [.mk 23 r3.1.2 r3.1.1 0 [], .mk 23 r4.1.2 r4.1.1 0 [], r6.1]])) r6.2
  else (.mk 0 0 (⟨#[]⟩ : ByteArray) 0 l, q1)
def compS (q : Rs) : Nd × Rs :=
  let r := R .cons q
  let q1 := hasR S r.2 (⟨#[61, 61]⟩ : ByteArray)
  if isB r.2 (⟨#[61, 61]⟩ : ByteArray) = true then
    let r2 := R .cons q1
    (two (⟨#[61, 61]⟩ : ByteArray) r.1 r2.1, r2.2)
  else
  let q2 := hasR S q1 (⟨#[60]⟩ : ByteArray)
  if isB q1 (⟨#[60]⟩ : ByteArray) = true then
    let r2 := R .cons q2
    (two (⟨#[60]⟩ : ByteArray) r.1 r2.1, r2.2)
  else (r.1, q2)
def consS (q : Rs) : Nd × Rs :=
  let r := R .sum q
  let q1 := hasR S r.2 (⟨#[58, 58]⟩ : ByteArray)
  if isB r.2 (⟨#[58, 58]⟩ : ByteArray) = true then
    let r2 := R .cons q1
    (.mk 16 r.1.a (⟨#[]⟩ : ByteArray) 0 [r.1, r2.1], r2.2)
  else (r.1, q1)
def sumS (q : Rs) : Nd × Rs :=
  let r := R .mul q
  R (.sumL r.1) r.2
def sumLS (a : Nd) (q : Rs) : Nd × Rs :=
  let q1 := hasR S q (⟨#[43]⟩ : ByteArray)
  if isB q (⟨#[43]⟩ : ByteArray) = true then
    let r := R .mul q1
    R (.sumL (two q.t a r.1)) r.2
  else
  let q2 := hasR S q1 (⟨#[45]⟩ : ByteArray)
  if isB q1 (⟨#[45]⟩ : ByteArray) = true then
    let r := R .mul q2
    R (.sumL (two q.t a r.1)) r.2
  else (a, q2)
def mulS (q : Rs) : Nd × Rs :=
  let r := R .app q
  R (.mulL r.1) r.2
def mulLS (a : Nd) (q : Rs) : Nd × Rs :=
  let q1 := hasR S q (⟨#[42]⟩ : ByteArray)
  if isB q (⟨#[42]⟩ : ByteArray) = true then
    let r := R .app q1
    R (.mulL (two (⟨#[42]⟩ : ByteArray) a r.1)) r.2
  else (a, q1)
def appS (q : Rs) : Nd × Rs :=
  let q1 := hasR S q (⟨#[100, 111]⟩ : ByteArray)
  if isB q (⟨#[100, 111]⟩ : ByteArray) = true then
    let r := nameR S q1
    let r2 := R .atom r.2
    (.mk 19 q.a r.1.1 0 [r2.1], r2.2)
  else
  let q2 := hasR S q1 (⟨#[102, 115, 116]⟩ : ByteArray)
  if isB q1 (⟨#[102, 115, 116]⟩ : ByteArray) = true then
    let r := R .atom q2
    (.mk 13 q.a (⟨#[]⟩ : ByteArray) 0 [r.1], r.2)
  else
  let q3 := hasR S q2 (⟨#[115, 110, 100]⟩ : ByteArray)
  if isB q2 (⟨#[115, 110, 100]⟩ : ByteArray) = true then
    let r := R .atom q3
    (.mk 14 q.a (⟨#[]⟩ : ByteArray) 0 [r.1], r.2)
  else
  let r := R .atom q3
  R (.appL r.1) r.2
def appLS (a : Nd) (q : Rs) : Nd × Rs :=
  if begB q = true then
    let r := R .atom q
    R (.appL (.mk 8 a.a (⟨#[]⟩ : ByteArray) 0 [a, r.1])) r.2
  else (a, q)
def numS (q : Rs) (q1 : Rs) : Nd × Rs :=
  if okB q1 = true then
    if (((q1.k : Nat) : Int) != (1 : Int)) = true then (.mk 3 q.a (⟨#[]⟩ : ByteArray) (-((q1.n : Nat) : Int)) [], nextR S (noR q1))
    else (.mk 3 q.a (⟨#[]⟩ : ByteArray) (-((q1.n : Nat) : Int)) [], nextR S q1)
  else (.mk 3 q.a (⟨#[]⟩ : ByteArray) (-((q1.n : Nat) : Int)) [], nextR S q1)
def atomS (q : Rs) : Nd × Rs :=
  if okB q = true then
    if (((q.k : Nat) : Int) == (2 : Int)) = true then (.mk 6 q.a q.t 0 [], nextR S q) else
    if (((q.k : Nat) : Int) == (1 : Int)) = true then (.mk 3 q.a (⟨#[]⟩ : ByteArray) ((q.n : Nat) : Int) [], nextR S q) else
    let q1 := hasR S q (⟨#[126]⟩ : ByteArray)
    if isB q (⟨#[126]⟩ : ByteArray) = true then numS S q q1 else
    let q2 := hasR S q1 (⟨#[116, 114, 117, 101]⟩ : ByteArray)
    if isB q1 (⟨#[116, 114, 117, 101]⟩ : ByteArray) = true then (.mk 4 q.a (⟨#[]⟩ : ByteArray) 1 [], q2) else
    let q3 := hasR S q2 (⟨#[102, 97, 108, 115, 101]⟩ : ByteArray)
    if isB q2 (⟨#[102, 97, 108, 115, 101]⟩ : ByteArray) = true then (.mk 4 q.a (⟨#[]⟩ : ByteArray) 0 [], q3) else
    let q4 := hasR S q3 (⟨#[40]⟩ : ByteArray)
    if isB q3 (⟨#[40]⟩ : ByteArray) = true then R (.round q.a) q4 else
    let q5 := hasR S q4 (⟨#[91]⟩ : ByteArray)
    if isB q4 (⟨#[91]⟩ : ByteArray) = true then R (.square q.a) q5 else
    (nd0, noR q5)
  else (nd0, q)
def roundS (at_ : Nat) (q : Rs) : Nd × Rs :=
  let q1 := hasR S q (⟨#[41]⟩ : ByteArray)
  if isB q (⟨#[41]⟩ : ByteArray) = true then (.mk 5 at_ (⟨#[]⟩ : ByteArray) 0 [], q1) else
  let r := R .expr q1
  let q2 := hasR S r.2 (⟨#[44]⟩ : ByteArray)
  if isB r.2 (⟨#[44]⟩ : ByteArray) = true then
    let r2 := R .expr q2
    let q3 := mustR S r2.2 (⟨#[41]⟩ : ByteArray)
    (.mk 12 at_ (⟨#[]⟩ : ByteArray) 0 [r.1, r2.1], q3)
  else (r.1, mustR S q2 (⟨#[41]⟩ : ByteArray))
def consF (x e : Nd) : Nd := .mk 16 x.a (⟨#[]⟩ : ByteArray) 0 [x, e]
def consAll (at_ : Nat) (l : List Nd) : Nd := l.foldr consF (.mk 15 at_ (⟨#[]⟩ : ByteArray) 0 [])
def squareS (at_ : Nat) (q : Rs) : Nd × Rs :=
  let q1 := hasR S q (⟨#[93]⟩ : ByteArray)
  if isB q (⟨#[93]⟩ : ByteArray) = true then (.mk 15 at_ (⟨#[]⟩ : ByteArray) 0 [], q1) else
  let r := R (.squareL []) q1
  (consAll at_ r.1.ks, mustR S r.2 (⟨#[93]⟩ : ByteArray))
def squareLS (l : List Nd) (q : Rs) : Nd × Rs :=
  let r := R .expr q
  let q1 := hasR S r.2 (⟨#[44]⟩ : ByteArray)
  if isB r.2 (⟨#[44]⟩ : ByteArray) = true then R (.squareL (l ++ [r.1])) q1 else (.mk 0 0 (⟨#[]⟩ : ByteArray) 0 (l ++ [r.1]), q1)
def opsT (l : List Nd) (at_ : Nat) (n : Int) (q2 : Rs) : Nd × Rs :=
  let r := nameR S q2
  let q3 := mustR S r.2 (⟨#[58]⟩ : ByteArray)
  let ra := R .typ q3
  let q4 := mustR S ra.2 (⟨#[61, 62]⟩ : ByteArray)
  let rb := R .typ q4
  R (.opsL (l ++ [.mk 1 at_ r.1.1 n [ra.1, rb.1]])) rb.2
def opsLS (l : List Nd) (q : Rs) : Nd × Rs :=
  if isB q (⟨#[111, 112]⟩ : ByteArray) = true then
    let q1 := nextR S q
    if isB q1 (⟨#[111, 110, 99, 101]⟩ : ByteArray) = true then opsT S R l q.a 1 (nextR S q1)
    else if isB q1 (⟨#[109, 97, 110, 121]⟩ : ByteArray) = true then opsT S R l q.a 0 (nextR S q1)
    else opsT S R l q.a 0 (noR q1)
  else (.mk 0 0 (⟨#[]⟩ : ByteArray) ((l.length : Nat) : Int) l, q)
def defsT (n0 : Nat) (l : List Nd) (at_ : Nat) (n : Int) (q2 : Rs) : Nd × Rs :=
  let r := nameR S q2
  let r2 := R (.params (⟨#[61]⟩ : ByteArray) true) r.2
  R (.defsL n0 (l ++ [.mk 2 at_ r.1.1 n [r2.1]])) r2.2
def defsLS (n0 : Nat) (l : List Nd) (q : Rs) : Nd × Rs :=
  if isB q (⟨#[100, 101, 102]⟩ : ByteArray) = true then
    let q1 := nextR S q
    let q2 := hasR S q1 (⟨#[114, 101, 99]⟩ : ByteArray)
    if isB q1 (⟨#[114, 101, 99]⟩ : ByteArray) = true then defsT S R n0 l q.a 1 q2 else defsT S R n0 l q.a 0 q2
  else (.mk 0 0 (⟨#[]⟩ : ByteArray) ((n0 : Nat) : Int) l, q)
def progS (q : Rs) : Nd × Rs :=
  let r := R (.opsL []) q
  let r2 := R (.defsL r.1.ks.length r.1.ks) r.2
  let q3 := mustR S r2.2 (⟨#[109, 97, 105, 110]⟩ : ByteArray)
  let q4 := mustR S q3 (⟨#[61]⟩ : ByteArray)
  let r5 := R .expr q4
  (.mk 0 0 (⟨#[]⟩ : ByteArray) ((r.1.ks.length : Nat) : Int) (r2.1.ks ++ [r5.1]), r5.2)
def stepN (nt : NT) (q : Rs) : Nd × Rs :=
  match nt with
  | .typ => typS S R q
  | .pair => pairS S R q
  | .some => someS S R q
  | .listL a => listLS S R a q
  | .namesL l => namesLS S R l q
  | .expr => exprS R q
  | .any => anyS S R q
  | .params s f => paramsS S R s f q
  | .letN a => letS S R a q
  | .cases a => casesS S R a q
  | .handle a => handleS S R a q
  | .handL l => handLS S R l q
  | .comp => compS S R q
  | .cons => consS S R q
  | .sum => sumS R q
  | .sumL a => sumLS S R a q
  | .mul => mulS R q
  | .mulL a => mulLS S R a q
  | .app => appS S R q
  | .appL a => appLS R a q
  | .atom => atomS S R q
  | .round a => roundS S R a q
  | .square a => squareS S R a q
  | .squareL l => squareLS S R l q
  | .prog => progS S R q
  | .opsL l => opsLS S R l q
  | .defsL n l => defsLS S R n l q
end
def run (S : ByteArray) : Nat → NT → Rs → Nd × Rs
  | 0 => fun _ q => (nd0, noR q)
  | k + 1 => stepN S (run S k)
/-! ### How far it is to the end -/
def M (S : ByteArray) (q : Rs) : Nat := if q.fk ≠ 0 then 0 else if q.k = 0 then 1 else S.size + 2 - q.e
structure Ok (S : ByteArray) (q : Rs) : Prop where
  size : S.size ≤ 3000
  e : q.e ≤ S.size
  x : q.x ≤ 200
  y : q.y ≤ 200
  a : q.a ≤ S.size
  n : q.n ≤ 9223372036854775807
  t : q.t.size ≤ S.size
  k : q.k ≤ 4
  end_ : q.fk = 0 → q.k = 0 → q.e = S.size
  nm : q.fk = 0 → q.k = 2 → 0 < q.t.size
  sg : q.fk = 0 → q.k = 4 → letterB (Gx.byteAt q.t 0) = false
structure Tr (S : ByteArray) (q q' : Rs) : Prop where
  ok : Ok S q'
  m : M S q' ≤ M S q
  x : q'.x = q.x
  y : q'.y = q.y
  fk : q.fk ≠ 0 → q' = q
theorem Tr.refl {S : ByteArray} {q : Rs} (h : Ok S q) : Tr S q q := ⟨h, Nat.le_refl _, rfl, rfl, fun _ => rfl⟩
theorem Tr.trans {S : ByteArray} {q q' q'' : Rs} (h : Tr S q q') (k : Tr S q' q'') : Tr S q q'' :=
  ⟨k.ok, Nat.le_trans k.m h.m, k.x.trans h.x, k.y.trans h.y, fun f => by
    have := h.fk f
    subst this
    exact k.fk f⟩
section
variable {S : ByteArray} {R : NT → Rs → Nd × Rs} (hR : ∀ nt q, Ok S q → Tr S q (R nt q).2)
end
/-! ### Trees in memory -/
def ndC (t : Nd) (A : Option Addr) (c : Nat) : List Value := [.int .i64 (t.k : Int), .int .i64 (t.a : Int), .string t.nm, .int .i64 t.n, .slice A t.ks.length c]
def In (lo hi : Nat) (X : List Nat) (j : Nat) : Prop := lo ≤ j ∧ j < hi ∧ j ∉ X
/-- These nodes lie in a row at A, in blocks of which Q is said. -/
inductive KV (Q : Nat → Prop) (w : World) : List Nd → Option Addr → Nat → Prop
  | mk {ks : List Nd} {A : Option Addr} {c : Nat} (As : Nat → Option Addr) (cs : Nat → Nat) (hc : ks.length ≤ c) (hl : ks.length ≤ maxLen) (hA : ∀ i, i < ks.length → ∃ a, A = some a ∧ Q a.block)
      (hr : Gx.Rd w A ks.length 5 (fun i => ndC (ks.getD i nd0) (As i) (cs i))) (h : ∀ i, i < ks.length → KV Q w (ks.getD i nd0).ks (As i) (cs i)) : KV Q w ks A c
theorem cells_frame {w w' : World} {a : Addr} {n : Nat} {cs : List Value} (h : w.cells? 0 a n = some cs) (x : w'.heap[a.block]? = w.heap[a.block]?) : w'.cells? 0 a n = some cs := by
  have e : (fun i => w'.cell? (a.add i)) = fun i => w.cell? (a.add i) := funext fun i => by
    unfold World.cell?
    have : (a.add i).block = a.block := by unfold Addr.add; split <;> rfl
    rw [this, x]
  unfold World.cells? at h ⊢
  rw [e]
  exact h
theorem KV.frame {Q : Nat → Prop} {w w' : World} {ks : List Nd} {A : Option Addr} {c : Nat} (h : KV Q w ks A c) (x : ∀ j, Q j → j < w.heap.size → w'.heap[j]? = w.heap[j]?) : KV Q w' ks A c := by
  induction h with
  | @mk ks A c As cs hc hl hA hr _ ih =>
    refine .mk As cs hc hl hA (fun i hi => ?_) (fun i hi => ih i hi)
    obtain ⟨a, ha, hq⟩ := hA i hi
    obtain ⟨a', ha', hc⟩ := hr i hi
    rw [ha] at ha'
    cases ha'
    have hb := World.cells?_block hc (by decide)
    have e : (a.add (i * 5)).block = a.block := by unfold Addr.add; split <;> rfl
    rw [e] at hb
    exact ⟨a, ha, cells_frame hc (by rw [e]; exact x _ hq hb)⟩
theorem KV.mono {Q Q' : Nat → Prop} {w : World} {ks : List Nd} {A : Option Addr} {c : Nat} (h : KV Q w ks A c) (x : ∀ j, Q j → j < w.heap.size → Q' j) : KV Q' w ks A c := by
  induction h with
  | @mk ks A c As cs hc hl hA hr _ ih =>
    refine .mk As cs hc hl (fun i hi => ?_) hr (fun i hi => ih i hi)
    obtain ⟨a, ha, hq⟩ := hA i hi
    obtain ⟨a', ha', hc⟩ := hr i hi
    rw [ha] at ha'
    cases ha'
    have hb := World.cells?_block hc (by decide)
    have e : (a.add (i * 5)).block = a.block := by unfold Addr.add; split <;> rfl
    rw [e] at hb
    exact ⟨a, ha, x _ hq hb⟩
theorem KV.nil {Q : Nat → Prop} {w : World} {A : Option Addr} {c : Nat} : KV Q w [] A c :=
  .mk (fun _ => none) (fun _ => 0) (Nat.zero_le _) (Nat.zero_le _) (fun i h => absurd h (Nat.not_lt_zero i)) (fun i h => absurd h (Nat.not_lt_zero i)) (fun i h => absurd h (Nat.not_lt_zero i))
section
variable {lo hi lo' hi' k : Nat} {X X' : List Nat} {w w' : World} {ks : List Nd} {A : Option Addr} {c : Nat}
theorem KV.ext (h : KV (In lo hi X) w ks A c) (x : Gx.Ext w w') : KV (In lo hi X) w' ks A c := h.frame (fun j _ hj => x.block j hj (by simp))
theorem KV.upd (h : KV (In lo hi X) w ks A c) (x : Gx.G w w' (some k)) (hk : k < lo ∨ hi ≤ k ∨ k ∈ X := by first | (left; omega) | (right; left; omega) | (right; right; simp)) : KV (In lo hi X) w' ks A c :=
  h.frame (fun j hj hs => x.block j hs (fun e => by
    cases e
    obtain ⟨h1, h2, h3⟩ := hj
    rcases hk with q | q | q
    · omega
    · omega
    · exact h3 q))
theorem KV.app {r : Option Nat} (h : KV (In lo hi X) w ks A c) (x : Gx.G w w' r) (hk : ∀ j, r = some j → j < lo ∨ hi ≤ j ∨ j ∈ X) : KV (In lo hi X) w' ks A c :=
  h.frame (fun j hj hs => x.block j hs (fun e => by
    obtain ⟨h1, h2, h3⟩ := hj
    rcases hk j e.symm with q | q | q
    · omega
    · omega
    · exact h3 q))
theorem KV.to (h : KV (In lo hi X) w ks A c) (h1 : lo' ≤ lo) (h2 : hi ≤ hi') (h3 : ∀ j ∈ X', j ∈ X ∨ j < lo ∨ hi ≤ j) : KV (In lo' hi' X') w ks A c :=
  h.mono (fun j hj _ => ⟨Nat.le_trans h1 hj.1, Nat.lt_of_lt_of_le hj.2.1 h2, fun q => by
    obtain ⟨a, b, c⟩ := hj
    rcases h3 j q with r | r | r
    · exact c r
    · omega
    · omega⟩)
end
section
variable {lo hi lo' k : Nat} {X X' : List Nat} {w w' : World} {ks : List Nd} {A : Option Addr} {c : Nat} {v v' : Value}
end
def nds (L : List (Nd × Option Addr × Nat)) : List Nd := L.map (·.1)
theorem nds_app (L M : List (Nd × Option Addr × Nat)) : nds (L ++ M) = nds L ++ nds M := by simp [nds]
theorem nds_cons (p : Nd × Option Addr × Nat) (L : List (Nd × Option Addr × Nat)) : nds (p :: L) = p.1 :: nds L := rfl
theorem nds_nil : nds [] = [] := rfl
theorem nds_len (L : List (Nd × Option Addr × Nat)) : (nds L).length = L.length := by simp [nds]
theorem maps : (∀ L M : List (Nd × Option Addr × Nat), nds (L ++ M) = nds L ++ nds M) ∧ (∀ (p : Nd × Option Addr × Nat) (L : List (Nd × Option Addr × Nat)), nds (p :: L) = p.1 :: nds L) ∧ nds [] = [] ∧ (∀ L : List (Nd × Option Addr × Nat), (nds L).length = L.length) ∧
    (∀ l : List Nd, [] ++ l = l) ∧ (∀ (a : Nd) (l m : List Nd), (a :: l) ++ m = a :: (l ++ m)) ∧ (∀ l m r : List Nd, (l ++ m) ++ r = l ++ (m ++ r)) ∧
    (∀ l : List (Nd × Option Addr × Nat), [] ++ l = l) ∧ (∀ (a : Nd × Option Addr × Nat) (l m : List (Nd × Option Addr × Nat)), (a :: l) ++ m = a :: (l ++ m)) ∧ (∀ l m r : List (Nd × Option Addr × Nat), (l ++ m) ++ r = l ++ (m ++ r)) :=
  ⟨nds_app, nds_cons, nds_nil, nds_len, fun _ => rfl, fun _ _ _ => rfl, List.append_assoc, fun _ => rfl, fun _ _ _ => rfl, List.append_assoc⟩
/-- One node of them. -/
theorem KV.at_ {Q : Nat → Prop} {w : World} {ks : List Nd} {A : Option Addr} {c : Nat} (h : KV Q w ks A c) : ∃ (As : Nat → Option Addr) (cs : Nat → Nat), Gx.Rd w A ks.length 5 (fun i => ndC (ks.getD i nd0) (As i) (cs i)) ∧ ∀ i, i < ks.length → KV Q w (ks.getD i nd0).ks (As i) (cs i) := by
  cases h with
  | mk As cs hc hl hA hr hk => exact ⟨As, cs, hr, hk⟩
theorem KV.cap {Q : Nat → Prop} {w : World} {ks : List Nd} {A : Option Addr} {c : Nat} (h : KV Q w ks A c) : ks.length ≤ c := by
  cases h with
  | mk As cs hc hl hA hr hk => exact hc
theorem KV.max {Q : Nat → Prop} {w : World} {ks : List Nd} {A : Option Addr} {c : Nat} (h : KV Q w ks A c) : ks.length ≤ maxLen := by
  cases h with
  | mk As cs hc hl hA hr hk => exact hl
section
variable {w w' w'' : World} {b j : Nat}
end
end Go.Syn
set_option linter.unusedVariables false
set_option linter.unusedSimpArgs false
namespace Go.Inf
open Go.Syn
/-- A name in sight. -/
structure Nam where
  nm : Nm
  t : Nat
  all : Bool
  tv : List Nat
  rv : List Nat
  opn : Bool
structure Opr where
  nm : Nm
  i : Ty
  o : Ty
  n : Nat
/-- How a checker stands. -/
structure Ck where
  g : G
  env : List Nam
  ops : List Opr
  fk : Nat
  fa : Int
def add (l : List Nat) (n : Nat) : List Nat := if l.contains n then l else l ++ [n]
def Ck.no (c : Ck) (kd : Nat) (at_ : Int) : Ck := if c.fk = 0 then { c with fk := kd, fa := at_ } else c
def Ck.same (k : Nat) (c : Ck) (m n : Nat) (at_ : Int) : Option Ck :=
  if c.fk ≠ 0 then some c else
  match Inf.same k c.g m n with
  | some (g, s) =>
    let c := { c with g := g }
    if s = false then some (c.no 8 at_) else
    match round k g m [] with
    | some (r, _) => if r then some (c.no 8 at_) else
      match round k g n [] with
      | some (r, _) => if r then some (c.no 8 at_) else some c
      | none => none
    | none => none
  | none => none
def Ck.row (k : Nat) (c : Ck) (m n : Nat) (at_ : Int) : Option Ck :=
  if c.fk ≠ 0 then some c else
  match sameRow k c.g m n with
  | some (g, s) => let c := { c with g := g }; if s then some c else some (c.no 9 at_)
  | none => none
def Ck.bigC (k : Nat) (c : Ck) (n : Nat) (at_ : Int) : Option Ck :=
  if c.fk ≠ 0 then some c else
  match parts k c.g n [] with
  | some (p, _) => if 300 < p then some (c.no 10 at_) else some c
  | none => none
def opAt (nm : Nm) : List Opr → Option Opr
  | [] => none
  | o :: r => if eqN o.nm nm then some o else opAt nm r
/-- The variables of a type. -/
def vars : Nat → G → Nat → (seen tv rv : List Nat) → Option (List Nat × List Nat × List Nat)
  | 0, _, _, _, _, _ => none
  | k + 1, g, n, seen, tv, rv => match find k g n with
    | some n =>
      if seen.contains n then some (seen, tv, rv) else
      let seen := seen ++ [n]
      match g.kind[n]? with
      | some 0 => some (seen, add tv n, rv)
      | some kd =>
        let arg (x : Option (Option Nat)) (s : List Nat × List Nat × List Nat) : Option (List Nat × List Nat × List Nat) := match x with
          | some none => some s
          | some (some m) => vars k g m s.1 s.2.1 s.2.2
          | none => none
        match arg g.a[n]? (seen, tv, rv) with
        | some s => match arg g.b[n]? s with
          | some s => if kd = 6 then (match g.row[n]? with
            | some r => match whole k g r [] with
              | some (_, 0) => some s
              | some (_, v + 1) => some (s.1, s.2.1, add s.2.2 (v + 1))
              | none => none
            | none => none) else some s
          | none => none
        | none => none
      | none => none
    | none => none
/-- The variables that stand in sight. -/
def inSight (k : Nat) (g : G) : List Nam → (seen tv rv : List Nat) → Option (List Nat × List Nat)
  | [], _, tv, rv => some (tv, rv)
  | x :: e, seen, tv, rv =>
    if x.all then
      match vars k g x.t [] [] [] with
      | some (_, a, b) => inSight k g e seen ((a.filter fun n => !x.tv.contains n).foldl add tv) ((b.filter fun n => !x.rv.contains n).foldl add rv)
      | none => none
    else match vars k g x.t seen tv rv with
      | some (seen, tv, rv) => inSight k g e seen tv rv
      | none => none
def Ck.general (k : Nat) (c : Ck) (nm : Nm) (n : Nat) : Option Nam :=
  match inSight k c.g c.env [] [] [], vars k c.g n [] [] [] with
  | some (it, ir), some (_, tv, rv) => some ⟨nm, n, true, tv.filter fun v => !it.contains v, rv.filter fun v => !ir.contains v, true⟩
  | _, _ => none
def Seen.get (s : Seen) (n : Nat) : Option Nat := match s with
  | [] => none
  | (m, v) :: r => if m = n then some v else Seen.get r n
/-- A general type with variables of its own. -/
def copied : Nat → G → Nat → Nam → (done rows : List (Nat × Nat)) → Option (G × Nat × List (Nat × Nat) × List (Nat × Nat))
  | 0, _, _, _, _, _ => none
  | k + 1, g, n, x, done, rows => match find k g n with
    | some n => match Seen.get done n with
      | some p => some (g, p, done, rows)
      | none => match g.kind[n]? with
        | some 0 => if x.tv.contains n then (match g.var with
            | some (g, m) => some (g, m, Seen.put done n m, rows)
            | none => none)
          else some (g, n, Seen.put done n n, rows)
        | some kd =>
          let arg (y : G → Option (Option Nat)) (s : G × Option Nat × List (Nat × Nat) × List (Nat × Nat)) : Option (G × Option Nat × List (Nat × Nat) × List (Nat × Nat)) := match y s.1 with
            | some none => some (s.1, none, s.2.2.1, s.2.2.2)
            | some (some m) => match copied k s.1 m x s.2.2.1 s.2.2.2 with
              | some (g, m, d, r) => some (g, some m, d, r)
              | none => none
            | none => none
          match arg (fun g => g.a[n]?) (g, none, done, rows) with
          | some (g, a, done, rows) => match arg (fun g => g.b[n]?) (g, none, done, rows) with
            | some (g, b, done, rows) =>
              let rw : Option (G × Nat × List (Nat × Nat)) := if kd = 6 then (match g.row[n]? with
                | some r => match whole k g r [] with
                  | some (ops, v) =>
                    let vv : Option (G × Nat × List (Nat × Nat)) := if v ≠ 0 && x.rv.contains v then (match Seen.get rows v with
                      | some p => some (g, p, rows)
                      | none => match g.opn with
                        | some (g, w) => some (g, w, Seen.put rows v w)
                        | none => none) else some (g, v, rows)
                    match vv with
                    | some (g, v, rows) => match g.putRow ops (some v) with
                      | some (g, q) => some (g, q, rows)
                      | none => none
                    | none => none
                  | none => none
                | none => none) else some (g, 0, rows)
              match rw with
              | some (g, q, rows) => match g.put kd a b q with
                | some (g, m) => some (g, m, Seen.put done n m, rows)
                | none => none
              | none => none
            | none => none
          | none => none
        | none => none
    | none => none
def opened : Nat → G → Nat → Option (G × Nat)
  | 0, _, _ => none
  | k + 1, g, n => match find k g n with
    | some n => match g.kind[n]? with
      | some 6 => match g.b[n]? with
        | some (some b) => match opened k g b with
          | some (g, b) => match g.row[n]? with
            | some r => match whole k g r [] with
              | some (ops, v) =>
                let vv : Option (G × Nat) := if v = 0 then g.opn else some (g, v)
                match vv with
                | some (g, v) => match g.putRow ops (some v) with
                  | some (g, q) => match g.a[n]? with
                    | some a => g.put 6 a (some b) q
                    | none => none
                  | none => none
                | none => none
              | none => none
            | none => none
          | none => none
        | _ => none
      | some _ => some (g, n)
      | none => none
    | none => none
def use (k : Nat) (g : G) (x : Nam) : Option (G × Nat) :=
  let c : Option (G × Nat) := if x.all then (match copied k g x.t x [] [] with
    | some (g, n, _, _) => some (g, n)
    | none => none) else some (g, x.t)
  match c with
  | some (g, n) => if x.opn then opened k g n else some (g, n)
  | none => none
/-- A written type. -/
def typ : Nat → Nd → Option Ty
  | 0, _ => none
  | k + 1, n =>
    let kid (i : Nat) : Option Ty := match n.ks[i]? with
      | some d => typ k d
      | none => none
    if n.k = 24 then some (.mk 1 0 0 [] []) else if n.k = 25 then some (.mk 2 0 0 [] []) else if n.k = 26 then some (.mk 3 0 0 [] [])
    else if n.k = 27 then (match kid 0 with
      | some a => some (.mk 4 0 0 [] [a])
      | none => none)
    else match kid 0, kid 1 with
      | some a, some b => if n.k = 28 then some (.mk 5 0 0 [] [a, b]) else if n.ks.length < 1000000000 then some (.mk 6 0 0 ((n.ks.drop 2).foldl (fun l d => putN l d.nm) []) [a, b]) else none
      | _, _ => none
def partsT : Nat → Ty → Option Nat
  | 0, _ => none
  | k + 1, .mk _ _ _ ops args => args.foldl (fun s a => match s, partsT k a with
    | some n, some m => if n + m ≤ 2147483647 then some (n + m) else none
    | _, _ => none) (some (1 + ops.length))
def inN (s : Nm) (l : List Nm) : Bool := l.any fun x => eqN x s
/-- The names in the rows of a written type. -/
def rowOne (c : Ck) (all : List Nm) (before : List Nd) (d : Nd) : Ck :=
  let c := if inN d.nm all then c else c.no 6 d.a
  before.foldl (fun c e => if eqN e.nm d.nm then c.no 7 d.a else c) c
def rowAll (c : Ck) (all : List Nm) : List Nd → List Nd → Ck
  | _, [] => c
  | before, d :: r => rowAll (rowOne c all before d) all (before ++ [d]) r
def rowNames : Nat → Ck → Nd → List Nm → Option Ck
  | 0, _, _, _ => none
  | k + 1, c, n, all =>
    if c.fk ≠ 0 then some c else
    if n.k ≠ 29 then n.ks.foldl (fun s d => match s with
      | some c => rowNames k c d all
      | none => none) (some c)
    else match n.ks with
      | a :: b :: r => match rowNames k c a all with
        | some c => rowNames k (rowAll c all [] r) b all
        | none => none
      | _ => none
def opsLoop (k : Nat) (all : List Nm) : Nat → List Nd → Ck → Option Ck
  | _, [], c => some c
  | i, d :: r, c =>
    if c.fk ≠ 0 then some c else
    match opAt d.nm c.ops with
    | some _ => some (c.no 7 d.a)
    | none => match d.ks with
      | x :: y :: _ => match rowNames k c x all with
        | some c => match rowNames k c y all with
          | some c => if c.fk ≠ 0 then some c else
            match typ k x, typ k y with
            | some ti, some to => match partsT k ti, partsT k to with
              | some p, some q => opsLoop k all (i + 1) r { (if 300 < p || 300 < q then c.no 10 d.a else c) with ops := c.ops ++ [⟨d.nm, ti, to, i⟩] }
              | _, _ => none
            | _, _ => none
          | none => none
        | none => none
      | _ => none
def value (n : Nd) : Bool := n.k == 3 || n.k == 4 || n.k == 5 || n.k == 15 || n.k == 6 || n.k == 7
def findEnv (nm : Nm) (e : List Nam) : Option Nam := (e.reverse.find? fun x => eqN x.nm nm)
def Ck.with (c : Ck) (x : Nam) : Ck := { c with env := c.env ++ [x] }
def Ck.out (c : Ck) (n : Nat) : Ck := { c with env := c.env.take (c.env.length - n) }
def mono (nm : Nm) (t : Nat) : Nam := ⟨nm, t, false, [], [], false⟩
def Ck.put (c : Ck) (kd : Nat) (a b : Option Nat) (r : Nat) : Option (Ck × Nat) := match c.g.put kd a b r with
  | some (g, m) => some ({ c with g := g }, m)
  | none => none
def Ck.var (c : Ck) : Option (Ck × Nat) := c.put 0 none none 0
def Ck.putRow (c : Ck) (l : List Nm) (nx : Option Nat) : Option (Ck × Nat) := match c.g.putRow l nx with
  | some (g, m) => some ({ c with g := g }, m)
  | none => none
def Ck.opn (c : Ck) : Option (Ck × Nat) := c.putRow [] none
def Ck.ofT (k : Nat) (c : Ck) (t : Ty) : Option (Ck × Nat) := match Inf.ofT k c.g t with
  | some (g, m) => some ({ c with g := g }, m)
  | none => none
/-- The type that a let or a def binds. -/
def boundF (ex : Ck → Nd → Nat → Option (Ck × Nat)) (k : Nat) (c : Ck) (d : Nd) : Option (Ck × Nat) := do
  let (c, row) ← c.opn
  let d0 ← d.ks[0]?
  if d.n = 0 then ex c d0 row else
    let (c, v) ← c.var
    let (c, t) ← ex (c.with (mono d.nm v)) d0 row
    let c ← (c.out 1).same k v t d.a
    some (c, t)
def clausesF (ex : Ck → Nd → Nat → Option (Ck × Nat)) (k : Nat) (n : Nd) (row inner t b : Nat) : List Nd → Ck → Option Ck
  | [], c => some c
  | d :: r, c => do
    let o ← opAt d.nm c.ops
    let (c, i) ← c.ofT k o.i
    let (c, o) ← c.ofT k o.o
    let (c, f) ← c.put 6 (some o) (some b) row
    let (c, f) ← if n.n = 1 then c.put 6 (some o) (some t) inner else some (c, f)
    let p0 ← d.ks[0]?
    let p1 ← d.ks[1]?
    let p2 ← d.ks[2]?
    let c := (c.with ⟨p0.nm, i, false, [], [], true⟩).with ⟨p1.nm, f, false, [], [], true⟩
    let (c, e) ← ex c p2 row
    let c ← (c.out 2).same k e b p2.a
    clausesF ex k n row inner t b r c
def namesF (ops : List Opr) : List Nd → List Nm → Ck → Ck
  | [], _, c => c
  | d :: r, names, c =>
    let c := match opAt d.nm ops with
      | some _ => c
      | none => c.no 6 d.a
    let c := names.foldl (fun c s => if eqN s d.nm then c.no 7 d.a else c) c
    namesF ops r (names ++ [d.nm]) c
def expr : Nat → Ck → Nd → Nat → Option (Ck × Nat)
  | 0, _, _, _ => none
  | k + 1, c, n, row =>
    let ex := expr k
    if c.fk ≠ 0 then c.var else
    match n.k with
    | 3 => c.put 1 none none 0
    | 4 => c.put 2 none none 0
    | 5 => c.put 3 none none 0
    | 15 => do
      let (c, v) ← c.var
      c.put 4 (some v) none 0
    | 6 => match findEnv n.nm c.env with
      | some x => match use k c.g x with
        | some (g, m) => some ({ c with g := g }, m)
        | none => none
      | none => (c.no 6 n.a).var
    | 7 => do
      let (c, v) ← c.var
      let (c, r) ← c.opn
      let d ← n.ks[0]?
      let (c, b) ← ex (c.with (mono n.nm v)) d r
      (c.out 1).put 6 (some v) (some b) r
    | 8 => do
      let d0 ← n.ks[0]?
      let d1 ← n.ks[1]?
      let (c, f) ← ex c d0 row
      let (c, a) ← ex c d1 row
      let (c, p) ← c.var
      let (c, b) ← c.var
      let (c, q) ← c.opn
      let (c, t) ← c.put 6 (some p) (some b) q
      let c ← c.same k f t d0.a
      let c ← c.same k p a d1.a
      let c ← c.row k q row n.a
      some (c, b)
    | 9 => do
      let d0 ← n.ks[0]?
      let d1 ← n.ks[1]?
      let (c, x) ← if n.n = 1 then do
          let (c, t) ← boundF ex k c n
          let c ← c.bigC k t n.a
          let x ← c.general k n.nm t
          some (c, x)
        else do
          let (c, t) ← ex c d0 row
          let c ← c.bigC k t n.a
          if value d0 then do
            let x ← c.general k n.nm t
            some (c, x)
          else some (c, mono n.nm t)
      let (c, t) ← ex (c.with x) d1 row
      some (c.out 1, t)
    | 10 => do
      let d0 ← n.ks[0]?
      let d1 ← n.ks[1]?
      let (c, _) ← ex c d0 row
      ex c d1 row
    | 11 => do
      let d0 ← n.ks[0]?
      let d1 ← n.ks[1]?
      let d2 ← n.ks[2]?
      let (c, a) ← ex c d0 row
      let (c, b) ← c.put 2 none none 0
      let c ← c.same k a b d0.a
      let (c, t) ← ex c d1 row
      let (c, e) ← ex c d2 row
      let c ← c.same k e t d2.a
      some (c, t)
    | 12 => do
      let d0 ← n.ks[0]?
      let d1 ← n.ks[1]?
      let (c, a) ← ex c d0 row
      let (c, b) ← ex c d1 row
      c.put 5 (some a) (some b) 0
    | 16 => do
      let d0 ← n.ks[0]?
      let d1 ← n.ks[1]?
      let (c, a) ← ex c d0 row
      let (c, b) ← ex c d1 row
      let (c, l) ← c.put 4 (some a) none 0
      let c ← c.same k b l d1.a
      some (c, b)
    | 17 => do
      let d0 ← n.ks[0]?
      let d1 ← n.ks[1]?
      let p2 ← n.ks[2]?
      let p3 ← n.ks[3]?
      let d4 ← n.ks[4]?
      let (c, a) ← ex c d0 row
      let (c, v) ← c.var
      let (c, l) ← c.put 4 (some v) none 0
      let c ← c.same k a l d0.a
      let (c, t) ← ex c d1 row
      let (c, e) ← ex ((c.with (mono p2.nm v)).with (mono p3.nm l)) d4 row
      let c ← (c.out 2).same k e t d4.a
      some (c, t)
    | 18 => do
      let d0 ← n.ks[0]?
      let d1 ← n.ks[1]?
      let (c, a) ← ex c d0 row
      let (c, t) ← c.put 1 none none 0
      let c ← c.same k a t d0.a
      let (c, a) ← ex c d1 row
      let (c, t) ← c.put 1 none none 0
      let c ← c.same k a t d1.a
      if eqN n.nm ⟨#[60]⟩ || eqN n.nm ⟨#[61, 61]⟩ then c.put 2 none none 0 else c.put 1 none none 0
    | 19 => match opAt n.nm c.ops with
      | none => (c.no 6 n.a).var
      | some o => do
        let d0 ← n.ks[0]?
        let (c, a) ← ex c d0 row
        let (c, i) ← c.ofT k o.i
        let (c, r) ← c.ofT k o.o
        let c ← c.same k a i d0.a
        let (c, v) ← c.opn
        let (c, q) ← c.putRow [n.nm] (some v)
        let c ← c.row k row q n.a
        some (c, r)
    | 13 | 14 => do
      let d0 ← n.ks[0]?
      let (c, a) ← ex c d0 row
      let (c, x) ← c.var
      let (c, y) ← c.var
      let (c, p) ← c.put 5 (some x) (some y) 0
      let c ← c.same k a p d0.a
      some (c, if n.k = 13 then x else y)
    | _ => do
      let d0 ← n.ks[0]?
      let rt ← n.ks[1]?
      let rb ← rt.ks[0]?
      let cl := n.ks.drop 2
      let _ ← if n.ks.length < 1000000000 then some () else none
      let c := namesF c.ops cl [] c
      if c.fk ≠ 0 then c.var else
        let (c, inner) ← c.putRow (cl.map fun d => d.nm) (some row)
        let (c, t) ← ex c d0 inner
        let (c, b) ← ex (c.with (mono rt.nm t)) rb row
        let c ← clausesF ex k n row inner t b cl (c.out 1)
        some (c, b)
end Go.Inf
set_option linter.unusedVariables false
set_option linter.unusedSimpArgs false
namespace Go.Inf
open Go.RowKit Go.Sx
end Go.Inf
namespace Go.Inf
open Go.RowKit Go.Sx
end Go.Inf
namespace Go.Inf
open Go.RowKit Go.Sx Go.Syn
end Go.Inf
set_option linter.unusedVariables false
set_option linter.unusedSimpArgs false
namespace Go.Inf
open Go.RowKit Go.Sx
abbrev Kid := Tv × Ty × (Nat → Prop)
def kidC (l : List Kid) : List Value := l.flatMap fun k => tvC k.2.1 k.1
theorem tvC_len (t : Ty) (p : Tv) : (tvC t p).length = 5 := by cases t; rfl
theorem kidC_at {l : List Kid} {i : Nat} {k : Kid} (h : l[i]? = some k) : ((kidC l).drop (i * 5)).take 5 = tvC k.2.1 k.1 := by
  induction l generalizing i with
  | nil => simp at h
  | cons x l ih =>
    have e : kidC (x :: l) = tvC x.2.1 x.1 ++ kidC l := rfl
    cases i with
    | zero => simp at h; subst h; rw [e]; simp [tvC_len]
    | succ i =>
      rw [e, show (i + 1) * 5 = (tvC x.2.1 x.1).length + i * 5 by rw [tvC_len]; omega, List.drop_append]
      simp only [List.length_append, Nat.add_sub_cancel_left]
      rw [List.drop_of_length_le (by omega), List.nil_append]
      exact ih (by simpa using h)
end Go.Inf
namespace Go.Inf
open Go.RowKit Go.Sx
theorem ty_make {w0 w : World} {L0 L : List Sx.Item} {e cap n na ca : Nat} {A B : Option Addr} {Sa : Nat → Prop} {ops : List Nm} {l : List Kid} (H : Hs w0 L0 w L) (I : List Nat) (kd u row : Nat)
    (hp : picked I L = some (.own e 5 B cap n (kidC l) :: strI Sa A ops :: l.map fun k => tyI k.2.2 k.1 k.2.1)) (hn : na = ops.length) (hc : na ≤ ca ∧ ops.length < 1000000000 ∧ l.length ≤ 2) (hk : n = l.length) :
    ∃ S, Hs w0 L0 w (tyI S ⟨A, na, ca, B, n, cap⟩ (.mk kd u row ops (l.map (·.2.1))) :: rest I L) := by
  refine ⟨_, H.fz I hp (fun s => ?_) (tyI_loc _ _ _)⟩
  have h0 := s.all _ (.head _)
  have h1 := s.all _ (.tail _ (.head _))
  refine .mk _ (l.map (·.1)) (h1.1.mono fun c hcc => ⟨_, .tail _ (.head _), hcc⟩) hn (by simpa using hc) (by simpa using hk) (by simp) (fun i q t hq ht => ?_) (fun i q t hq ht => ?_)
  · rw [List.getElem?_map] at hq ht
    cases hx : l[i]? with
    | none => simp [hx] at hq
    | some k =>
      simp only [hx, Option.map_some, Option.some.injEq] at hq ht
      subst hq ht
      have hi : i < l.length := (List.getElem?_eq_some_iff.1 hx).1
      rcases h0.2 with ⟨_, hz⟩ | ⟨g, cap', cur, hv, _, hg, hnc, _, hcs, htk⟩
      · omega
      · injection hv with e1 e2 e3
        subst e1
        refine ⟨_, rfl, ⟨_, .head _, rfl⟩, ?_⟩
        have ea : (⟨g, 0, none⟩ : Addr).add (i * 5) = ⟨g, i * 5, none⟩ := by unfold Addr.add; split <;> simp_all
        have hxs : ((kidC l).drop (i * 5)).take 5 = tvC k.2.1 k.1 := kidC_at hx
        rw [ea]
        refine ChangeShapes.cells?_of (Nat.zero_le _) (tvC_len _ _) (fun j hj => ?_)
        have hj5 : j < 5 := by simpa [tvC_len] using hj
        have hcell : cur[i * 5 + j]? = (tvC k.2.1 k.1)[j]? := by
          rw [← hxs, List.getElem?_take, if_pos hj5, List.getElem?_drop, ← htk, List.getElem?_take, if_pos (by omega)]
          simp
        rw [cell_of_row w g _ cur e (0, 0) hg, hcell]
  · rw [List.getElem?_map] at hq ht
    cases hx : l[i]? with
    | none => simp [hx] at hq
    | some k =>
      simp only [hx, Option.map_some, Option.some.injEq] at hq ht
      subst hq ht
      have hm : tyI k.2.2 k.1 k.2.1 ∈ l.map fun k => tyI k.2.2 k.1 k.2.1 := List.mem_map_of_mem (List.mem_of_getElem? hx)
      have h2 := s.all _ (.tail _ (.tail _ hm))
      exact h2.1.mono fun c hcc => ⟨_, .tail _ (.tail _ hm), hcc⟩
end Go.Inf
namespace Go.Inf
open Go.RowKit Go.Sx Go.Syn
end Go.Inf
set_option linter.unusedVariables false
set_option linter.unusedSimpArgs false
namespace Go.Slv
open Go.RowKit Go.Sx Go.Inf Go.Gx
def trem (k : Nat) (g : G) (n kd : Nat) : Nat → List Nat → List Ty → List Nm → Nat → Nams → Option (Ty × Nams)
  | _, [], ts, ops, row, L => some (.mk kd 0 row ops ts, L)
  | i, p :: r, ts, ops, row, L => match toldX k g p L with
    | some (t, L1) => if i = 0 ∧ kd = 6 then (match trow k g kd n L1 with
      | some (ops', c, L2) => trem k g n kd (i + 1) r (ts ++ [t]) ops' c L2
      | none => none) else trem k g n kd (i + 1) r (ts ++ [t]) ops row L1
    | none => none
theorem toldX_cases {k n : Nat} {g : G} {l l' : Nams} {t : Ty} {T R : List Nat} {pm : Pm} (hP : PR T R g pm) (h : toldX (k + 1) g n l = some (t, l')) : ∃ u kd, find k g n = some u ∧ g.kind[u]? = some kd ∧
    ((kd = 0 ∧ l.t.length < 1000000000 ∧ (.mk 0 (numb l.t u).2 0 [] [] : Ty) = t ∧ (⟨(numb l.t u).1, l.r⟩ : Nams) = l') ∨ (kd ≠ 0 ∧ trem k g u kd 0 (kidsN g u) [] [] 0 l = some (t, l'))) := by
  unfold toldX at h
  split at h <;> try contradiction
  rename_i u hu
  split at h <;> try contradiction
  · rename_i hk
    split at h <;> try contradiction
    rename_i hz
    cases h
    exact ⟨u, 0, hu, hk, .inl ⟨rfl, hz, rfl, rfl⟩⟩
  · rename_i kd hk0 hk
    have k0 : kd ≠ 0 := fun e => hk0 e
    refine ⟨u, kd, hu, hk, .inr ⟨k0, ?_⟩⟩
    unfold kidsN
    rcases hP.ar u kd hk with ⟨q4, q5, q6, ha, hb⟩ | ⟨rfl, p, ha, hb⟩ | ⟨q, p, p', ha, hb⟩
    · simp only [ha, hb, tkid, trow, if_neg q6] at h
      simp only [ha, hb, Option.getD_some, Option.toList_none, List.append_nil, trem]
      exact h
    · simp only [ha, hb, tkid, trow] at h
      simp only [ha, hb, Option.getD_some, Option.toList_some, Option.toList_none, List.append_nil, trem]
      split at h <;> try contradiction
      rename_i ta l1 h1
      split at h1 <;> try contradiction
      rename_i t1 l2 h2
      cases h1
      rw [h2]
      simp only [show ¬ ((4 : Nat) = 6) by decide, if_false] at h
      simpa [trem] using h
    · simp only [ha, hb, tkid] at h
      simp only [ha, hb, Option.getD_some, Option.toList_some, List.singleton_append, trem]
      split at h <;> try contradiction
      rename_i ta l1 h1
      split at h1 <;> try contradiction
      rename_i t1 l2 h2
      cases h1
      rw [h2]
      by_cases k6 : kd = 6
      · subst k6
        simp only [if_pos, and_self]
        split at h <;> try contradiction
        rename_i ops c l3 h3
        rw [h3]
        simp only
        split at h <;> try contradiction
        rename_i tb l4 h4
        split at h4 <;> try contradiction
        rename_i t5 l5 h5
        cases h4
        rw [h5]
        simpa using h
      · simp only [trow, if_neg k6] at h
        have : ¬ (0 = 0 ∧ kd = 6) := fun e => k6 e.2
        simp only [if_neg this]
        split at h <;> try contradiction
        rename_i tb l4 h4
        split at h4 <;> try contradiction
        rename_i t5 l5 h5
        cases h4
        rw [h5]
        have h1 : ¬ (0 + 1 = 0 ∧ kd = 6) := fun e => k6 e.2
        simp only [if_neg h1]
        simpa [k6] using h
section
variable {k n kd i row : Nat} {g : G} {K : List Nat} {ts : List Ty} {ops : List Nm} {L l' : Nams} {t : Ty}
theorem trem_end (h : trem k g n kd i (K.drop i) ts ops row L = some (t, l')) (hi : K.length ≤ i) : (.mk kd 0 row ops ts : Ty) = t ∧ L = l' := by
  rw [List.drop_of_length_le hi, trem] at h; cases h; exact ⟨rfl, rfl⟩
theorem trem_no (h6 : kd ≠ 6 ∨ i ≠ 0) (h : trem k g n kd i (K.drop i) ts ops row L = some (t, l')) : K.length ≤ i ∨ (i < K.length ∧ ∃ p t1 L1, K[i]? = some p ∧ toldX k g p L = some (t1, L1) ∧ trem k g n kd (i + 1) (K.drop (i + 1)) (ts ++ [t1]) ops row L1 = some (t, l')) := by
  rcases Nat.lt_or_ge i K.length with q | q
  · refine .inr ⟨q, ?_⟩
    rw [List.drop_eq_getElem_cons q, trem] at h
    split at h <;> try contradiction
    rename_i t1 L1 h1
    rw [if_neg (by omega)] at h
    exact ⟨K[i], t1, L1, by simp [q], h1, h⟩
  · exact .inl q
/-- The first part of an arrow, and its row. -/
theorem trem_row (hK : 0 < K.length) (h : trem k g n 6 0 (K.drop 0) ts ops row L = some (t, l')) : ∃ p t1 L1, K[0]? = some p ∧ toldX k g p L = some (t1, L1) ∧ ∃ r ops' v, g.row[n]? = some r ∧ whole k g r [] = some (ops', v) ∧
    ((v = 0 ∧ trem k g n 6 (0 + 1) (K.drop (0 + 1)) (ts ++ [t1]) ops' 0 L1 = some (t, l')) ∨ (v ≠ 0 ∧ L1.r.length < 1000000000 ∧ trem k g n 6 (0 + 1) (K.drop (0 + 1)) (ts ++ [t1]) ops' (numb L1.r v).2 ⟨L1.t, (numb L1.r v).1⟩ = some (t, l'))) := by
  rw [List.drop_eq_getElem_cons hK, trem] at h
  split at h <;> try contradiction
  rename_i t1 L1 h1
  rw [if_pos ⟨rfl, rfl⟩] at h
  unfold trow at h
  rw [if_pos rfl] at h
  refine ⟨K[0], t1, L1, by simp [hK], h1, ?_⟩
  cases hr : g.row[n]? with
  | none => rw [hr] at h; cases h
  | some r =>
    rw [hr] at h
    simp only at h
    cases hw : whole k g r [] with
    | none => rw [hw] at h; cases h
    | some p =>
      obtain ⟨ops', v⟩ := p
      rw [hw] at h
      refine ⟨r, ops', v, rfl, hw, ?_⟩
      rcases v with _ | v
      · exact .inl ⟨rfl, h⟩
      · simp only at h
        split at h
        · rename_i a b c q
          split at q
          · rename_i hz; cases q; exact .inr ⟨Nat.succ_ne_zero _, hz, h⟩
          · cases q
        · cases h
theorem six_kids {T R : List Nat} {pm : Pm} (hP : PR T R g pm) (hk : g.kind[n]? = some 6) : 0 < (kidsN g n).length := by
  unfold kidsN
  rcases hP.ar n 6 hk with ⟨_, _, q, _⟩ | ⟨q, _⟩ | ⟨_, p, p', ha, hb⟩
  · exact absurd rfl q
  · cases q
  · simp [ha]
end
/-! ### Types that are only read, some at once -/
abbrev Kd := Tv × Ty
def kC (l : List Kd) : List Value := l.flatMap fun k => tvC k.2 k.1
theorem kC_app (l : List Kd) (p : Tv) (t : Ty) : kC l ++ tvC t p = kC (l ++ [(p, t)]) := by simp [kC]
def tysI (S : Nat → Prop) (l : List Kd) : Sx.Item := .ro S (fun w => ∀ k ∈ l, TyIn w S k.1 k.2)
theorem tysI_loc (S : Nat → Prop) (l : List Kd) : Sx.Loc S (fun w => ∀ k ∈ l, TyIn w S k.1 k.2) := fun _ _ _ hk h k hm => (h k hm).keep hk
theorem tysI_nil {w : World} : (tysI (fun _ => False) []).holds w := ⟨fun _ h => (by cases h), fun _ h => h.elim, tysI_loc _ _⟩
section
variable {w0 w : World} {L0 L : List Sx.Item}
theorem tys_add (H : Hs w0 L0 w L) (I : List Nat) {S S2 : Nat → Prop} {l : List Kd} {p : Tv} {t : Ty} (hp : picked I L = some [tysI S l, tyI S2 p t]) : ∃ S', Hs w0 L0 w (tysI S' (l ++ [(p, t)]) :: rest I L) := by
  refine ⟨_, H.fz I hp (fun s => ?_) (tysI_loc _ _)⟩
  have h0 := s.all _ (.head _)
  have h1 := s.all _ (.tail _ (.head _))
  intro k hk
  rcases List.mem_append.1 hk with q | q
  · exact (h0.1 k q).mono fun c hc => ⟨_, .head _, hc⟩
  · rw [List.mem_singleton.1 q]; exact h1.1.mono fun c hc => ⟨_, .tail _ (.head _), hc⟩
theorem kC_kidC (l : List Kd) (S : Nat → Prop) : kC l = kidC (l.map fun k => ((k.1, k.2, S) : Kid)) := by
  unfold kC kidC
  rw [List.flatMap_map]
theorem ty_fin {e cap n na ca : Nat} {A B : Option Addr} {Sa S : Nat → Prop} {ops : List Nm} {l : List Kd} (H : Hs w0 L0 w L) (I : List Nat) (kd u row : Nat)
    (hp : picked I L = some [.own e 5 B cap n (kC l), strI Sa A ops, tysI S l]) (hn : na = ops.length) (hc : na ≤ ca ∧ ops.length < 1000000000 ∧ l.length ≤ 2) (hk : n = l.length) :
    ∃ S, Hs w0 L0 w (tyI S ⟨A, na, ca, B, n, cap⟩ (.mk kd u row ops (l.map (·.2))) :: rest I L) := by
  refine ⟨_, H.fz I hp (fun s => ?_) (tyI_loc _ _ _)⟩
  have h0 := s.all _ (.head _)
  have h1 := s.all _ (.tail _ (.head _))
  have h2 := s.all _ (.tail _ (.tail _ (.head _)))
  refine .mk _ (l.map (·.1)) (h1.1.mono fun c hcc => ⟨_, .tail _ (.head _), hcc⟩) hn (by simpa using hc) (by simpa using hk) (by simp) (fun i q t hq ht => ?_) (fun i q t hq ht => ?_)
  · rw [List.getElem?_map] at hq ht
    cases hx : l[i]? with
    | none => simp [hx] at hq
    | some k =>
      simp only [hx, Option.map_some, Option.some.injEq] at hq ht
      subst hq ht
      have hi : i < l.length := (List.getElem?_eq_some_iff.1 hx).1
      rcases h0.2 with ⟨_, hz⟩ | ⟨g, cap', cur, hv, _, hg, hnc, _, hcs, htk⟩
      · omega
      · injection hv with e1 e2 e3
        subst e1
        refine ⟨_, rfl, ⟨_, .head _, rfl⟩, ?_⟩
        have ea : (⟨g, 0, none⟩ : Addr).add (i * 5) = ⟨g, i * 5, none⟩ := by unfold Addr.add; split <;> simp_all
        have hxs : ((kC l).drop (i * 5)).take 5 = tvC k.2 k.1 := by
          rw [kC_kidC l (fun _ => True)]
          exact kidC_at (k := (k.1, k.2, fun _ => True)) (by rw [List.getElem?_map, hx]; rfl)
        rw [ea]
        refine ChangeShapes.cells?_of (Nat.zero_le _) (tvC_len _ _) (fun j hj => ?_)
        have hj5 : j < 5 := by simpa [tvC_len] using hj
        have hcell : cur[i * 5 + j]? = (tvC k.2 k.1)[j]? := by
          rw [← hxs, List.getElem?_take, if_pos hj5, List.getElem?_drop, ← htk, List.getElem?_take, if_pos (by omega)]
          simp
        rw [cell_of_row w g _ cur e (0, 0) hg, hcell]
  · rw [List.getElem?_map] at hq ht
    cases hx : l[i]? with
    | none => simp [hx] at hq
    | some k =>
      simp only [hx, Option.map_some, Option.some.injEq] at hq ht
      subst hq ht
      exact (h2.1 k (List.mem_of_getElem? hx)).mono fun c hcc => ⟨_, .tail _ (.tail _ (.head _)), hcc⟩
theorem NmOk.mono {n n' : Nat} {z : List Nat} {l : List (Int × Nat)} (h : NmOk n z l) (k : n ≤ n') : NmOk n' z l := ⟨fun p hp => by obtain ⟨i, a, b, c, d⟩ := h.k p hp; exact ⟨i, a, by omega, c, d⟩⟩
end
end Go.Slv
namespace Go.Slv
open Go.RowKit Go.Sx Go.Inf Go.Gx
section
variable {k n kd i row : Nat} {g : G} {K : List Nat} {ts : List Ty} {ops : List Nm} {L l' : Nams} {t : Ty}
theorem trem_csN (h6 : kd ≠ 6) (h : trem k g n kd i (K.drop i) ts ops row L = some (t, l')) : (i = 0 ∧ i < K.length ∧ ∃ p t1 L1, K[i]? = some p ∧ toldX k g p L = some (t1, L1) ∧ trem k g n kd (i + 1) (K.drop (i + 1)) (ts ++ [t1]) ops row L1 = some (t, l')) ∨ (i ≠ 0 ∧ i < K.length ∧ ∃ p t1 L1, K[i]? = some p ∧ toldX k g p L = some (t1, L1) ∧ trem k g n kd (i + 1) (K.drop (i + 1)) (ts ++ [t1]) ops row L1 = some (t, l')) ∨ K.length ≤ i := by
  rcases trem_no (.inl h6) h with q | q
  · exact .inr (.inr q)
  · by_cases e : i = 0
    · exact .inl ⟨e, q⟩
    · exact .inr (.inl ⟨e, q⟩)
theorem trem_cs6 (hK : 0 < K.length) (h : trem k g n 6 i (K.drop i) ts ops row L = some (t, l')) :
    (i = 0 ∧ i < K.length ∧ ∃ p t1 L1, K[i]? = some p ∧ toldX k g p L = some (t1, L1) ∧ ∃ r ops', g.row[n]? = some r ∧ whole k g r [] = some (ops', 0) ∧ trem k g n 6 (i + 1) (K.drop (i + 1)) (ts ++ [t1]) ops' 0 L1 = some (t, l')) ∨
    (i = 0 ∧ i < K.length ∧ ∃ p t1 L1, K[i]? = some p ∧ toldX k g p L = some (t1, L1) ∧ ∃ r ops' v, g.row[n]? = some r ∧ whole k g r [] = some (ops', v) ∧ v ≠ 0 ∧ L1.r.length < 1000000000 ∧ trem k g n 6 (i + 1) (K.drop (i + 1)) (ts ++ [t1]) ops' (numb L1.r v).2 ⟨L1.t, (numb L1.r v).1⟩ = some (t, l')) ∨
    (i ≠ 0 ∧ i < K.length ∧ ∃ p t1 L1, K[i]? = some p ∧ toldX k g p L = some (t1, L1) ∧ trem k g n 6 (i + 1) (K.drop (i + 1)) (ts ++ [t1]) ops row L1 = some (t, l')) ∨ K.length ≤ i := by
  by_cases e : i = 0
  · subst e
    obtain ⟨p, t1, L1, h1, h2, r, ops', v, h3, h4, h5⟩ := trem_row hK h
    rcases h5 with ⟨rfl, h5⟩ | ⟨hv, hz, h5⟩
    · exact .inl ⟨rfl, hK, p, t1, L1, h1, h2, r, ops', h3, h4, h5⟩
    · exact .inr (.inl ⟨rfl, hK, p, t1, L1, h1, h2, r, ops', v, h3, h4, hv, hz, h5⟩)
  · rcases trem_no (.inr e) h with q | q
    · exact .inr (.inr (.inr q))
    · exact .inr (.inr (.inl ⟨e, q⟩))
theorem ksn_map (kl : List Kd) (p : Tv) (t : Ty) : kl.map (·.2) ++ [t] = (kl ++ [(p, t)]).map (·.2) := by simp
end
end Go.Slv
