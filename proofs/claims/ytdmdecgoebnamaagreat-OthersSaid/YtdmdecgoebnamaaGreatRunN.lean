/- The document's reader over whatever gives the next token; a lexer that the kernel runs fast. -/
import Derived.Test.YtdmdecgoebnamaaGreatGraph
import Derived.KernelRfl
import Derived.Test.YtdmdecgoebnamaaGreatTryzShelf
set_option linter.unusedVariables false
set_option linter.unusedSimpArgs false
namespace Go.Syn.N
open Go.Lex Go.Syn
open Go.Gx (byteAt)
def begN (I : Rs → ByteArray → Bool) (q : Rs) : Bool := okB q && ((((q.k : Nat) : Int) == (2 : Int)) || (((q.k : Nat) : Int) == (1 : Int)) || I q (⟨#[126]⟩ : ByteArray) || I q (⟨#[116, 114, 117, 101]⟩ : ByteArray) || I q (⟨#[102, 97, 108, 115, 101]⟩ : ByteArray) || I q (⟨#[40]⟩ : ByteArray) || I q (⟨#[91]⟩ : ByteArray))
def hasR (I : Rs → ByteArray → Bool) (N : Rs → Rs) (q : Rs) (s : ByteArray) : Rs := if I q s = true then N q else q
def mustR (I : Rs → ByteArray → Bool) (N : Rs → Rs) (q : Rs) (s : ByteArray) : Rs := if I q s = true then N q else noR q
def nameR (I : Rs → ByteArray → Bool) (N : Rs → Rs) (q : Rs) : (ByteArray × Nat) × Rs := if isNameB q = true then ((q.t, q.a), N q) else (((⟨#[]⟩ : ByteArray), 0), noR q)
section
variable (I : Rs → ByteArray → Bool) (N : Rs → Rs) (R : NT → Rs → Nd × Rs)
def fnS (a : Nd) (q1 : Rs) : Nd × Rs :=
  let q2 := hasR I N q1 (⟨#[45, 62]⟩ : ByteArray)
  if I q1 (⟨#[45, 62]⟩ : ByteArray) = true then
    let r := R .typ q2
    (.mk 29 a.a (⟨#[]⟩ : ByteArray) 0 [a, r.1], r.2)
  else
    let q3 := hasR I N q2 (⟨#[45]⟩ : ByteArray)
    if I q2 (⟨#[45]⟩ : ByteArray) = true then
      let q4 := mustR I N q3 (⟨#[123]⟩ : ByteArray)
      let r4 := R (.namesL []) q4
      let q5 := mustR I N r4.2 (⟨#[125]⟩ : ByteArray)
      let q6 := mustR I N q5 (⟨#[45, 62]⟩ : ByteArray)
      let r6 := R .typ q6
      (.mk 29 a.a (⟨#[]⟩ : ByteArray) 0 ([a, r6.1] ++ r4.1.ks), r6.2)
    else (a, q3)
def typS (q : Rs) : Nd × Rs :=
  if okB q = true then
    if decide (((q.y : Nat) : Int) ≥ (200 : Int)) = true then (nd0, { q with fk := 5, fa := q.a })
    else
      let r1 := R .pair { q with y := q.y + 1 }
      let r := fnS I N R r1.1 r1.2
      (r.1, { r.2 with y := r.2.y - 1 })
  else (nd0, q)
def namesLS (l : List Nd) (q : Rs) : Nd × Rs :=
  let r := nameR I N q
  let q1 := hasR I N r.2 (⟨#[44]⟩ : ByteArray)
  if I r.2 (⟨#[44]⟩ : ByteArray) = true then R (.namesL (l ++ [.mk 23 r.1.2 r.1.1 0 []])) q1 else (.mk 0 0 (⟨#[]⟩ : ByteArray) 0 (l ++ [.mk 23 r.1.2 r.1.1 0 []]), q1)
def pairS (q : Rs) : Nd × Rs :=
  let r1 := R .some q
  let q2 := hasR I N r1.2 (⟨#[42]⟩ : ByteArray)
  if I r1.2 (⟨#[42]⟩ : ByteArray) = true then
    let r2 := R .pair q2
    (.mk 28 r1.1.a (⟨#[]⟩ : ByteArray) 0 [r1.1, r2.1], r2.2)
  else (r1.1, q2)
def someS (q : Rs) : Nd × Rs :=
  let q1 := hasR I N q (⟨#[105, 110, 116]⟩ : ByteArray)
  if I q (⟨#[105, 110, 116]⟩ : ByteArray) = true then R (.listL (.mk 24 q.a (⟨#[]⟩ : ByteArray) 0 [])) q1 else
  let q2 := hasR I N q1 (⟨#[98, 111, 111, 108]⟩ : ByteArray)
  if I q1 (⟨#[98, 111, 111, 108]⟩ : ByteArray) = true then R (.listL (.mk 25 q.a (⟨#[]⟩ : ByteArray) 0 [])) q2 else
  let q3 := hasR I N q2 (⟨#[117, 110, 105, 116]⟩ : ByteArray)
  if I q2 (⟨#[117, 110, 105, 116]⟩ : ByteArray) = true then R (.listL (.mk 26 q.a (⟨#[]⟩ : ByteArray) 0 [])) q3 else
  let q4 := hasR I N q3 (⟨#[40]⟩ : ByteArray)
  if I q3 (⟨#[40]⟩ : ByteArray) = true then
    let r := R .typ q4
    R (.listL r.1) (mustR I N r.2 (⟨#[41]⟩ : ByteArray))
  else R (.listL nd0) (noR q4)
def listLS (a : Nd) (q : Rs) : Nd × Rs :=
  let q1 := hasR I N q (⟨#[108, 105, 115, 116]⟩ : ByteArray)
  if I q (⟨#[108, 105, 115, 116]⟩ : ByteArray) = true then R (.listL (.mk 27 a.a (⟨#[]⟩ : ByteArray) 0 [a])) q1 else (a, q1)
def exprS (q : Rs) : Nd × Rs :=
  if okB q = true then
    if decide (((q.x : Nat) : Int) ≥ (200 : Int)) = true then (nd0, { q with fk := 5, fa := q.a })
    else
      let r1 := R .any { q with x := q.x + 1 }
      (r1.1, { r1.2 with x := r1.2.x - 1 })
  else (nd0, q)
def anyS (q : Rs) : Nd × Rs :=
  let q1 := hasR I N q (⟨#[108, 101, 116]⟩ : ByteArray)
  if I q (⟨#[108, 101, 116]⟩ : ByteArray) = true then R (.letN q.a) q1 else
  let q2 := hasR I N q1 (⟨#[102, 110]⟩ : ByteArray)
  if I q1 (⟨#[102, 110]⟩ : ByteArray) = true then
    let r := R (.params (⟨#[61, 62]⟩ : ByteArray) true) q2
    (.mk r.1.k q.a r.1.nm r.1.n r.1.ks, r.2)
  else
  let q3 := hasR I N q2 (⟨#[105, 102]⟩ : ByteArray)
  if I q2 (⟨#[105, 102]⟩ : ByteArray) = true then
    let ra := R .expr q3
    let qa := mustR I N ra.2 (⟨#[116, 104, 101, 110]⟩ : ByteArray)
    let rb := R .expr qa
    let qb := mustR I N rb.2 (⟨#[101, 108, 115, 101]⟩ : ByteArray)
    let rc := R .expr qb
    (.mk 11 q.a (⟨#[]⟩ : ByteArray) 0 [ra.1, rb.1, rc.1], rc.2)
  else
  let q4 := hasR I N q3 (⟨#[99, 97, 115, 101]⟩ : ByteArray)
  if I q3 (⟨#[99, 97, 115, 101]⟩ : ByteArray) = true then R (.cases q.a) q4 else
  if I q4 (⟨#[104, 97, 110, 100, 108, 101]⟩ : ByteArray) = true then R (.handle q.a) q4 else
  if I q4 (⟨#[115, 104, 97, 108, 108, 111, 119]⟩ : ByteArray) = true then R (.handle q.a) q4 else
  let r := R .comp q4
  let q5 := hasR I N r.2 (⟨#[59]⟩ : ByteArray)
  if I r.2 (⟨#[59]⟩ : ByteArray) = true then
    let r2 := R .expr q5
    (.mk 10 r.1.a (⟨#[]⟩ : ByteArray) 0 [r.1, r2.1], r2.2)
  else (r.1, q5)
def paramS (sign : ByteArray) (q : Rs) : Nd × Rs :=
  let r := nameR I N q
  if okB r.2 = true then
    let r2 := R (.params sign false) r.2
    (.mk 7 r.1.2 r.1.1 0 [r2.1], r2.2)
  else (nd0, r.2)
def paramsS (sign : ByteArray) (first : Bool) (q : Rs) : Nd × Rs :=
  if first = true then paramS I N R sign q else if isNameB q = true then paramS I N R sign q else R .expr (mustR I N q sign)
def letT (at_ : Nat) (n : Int) (f : Bool) (q1 : Rs) : Nd × Rs :=
  let r := nameR I N q1
  let r2 := R (.params (⟨#[61]⟩ : ByteArray) f) r.2
  let q3 := mustR I N r2.2 (⟨#[105, 110]⟩ : ByteArray)
  let r4 := R .expr q3
  (.mk 9 at_ r.1.1 n [r2.1, r4.1], r4.2)
def letS (at_ : Nat) (q : Rs) : Nd × Rs :=
  let q1 := hasR I N q (⟨#[114, 101, 99]⟩ : ByteArray)
  if I q (⟨#[114, 101, 99]⟩ : ByteArray) = true then letT I N R at_ 1 true q1 else letT I N R at_ 0 false q1
def casesS (at_ : Nat) (q : Rs) : Nd × Rs :=
  let r := R .expr q
  let q1 := mustR I N r.2 (⟨#[111, 102]⟩ : ByteArray)
  let q2 := mustR I N q1 (⟨#[91]⟩ : ByteArray)
  let q3 := mustR I N q2 (⟨#[93]⟩ : ByteArray)
  let q4 := mustR I N q3 (⟨#[61, 62]⟩ : ByteArray)
  let r5 := R .expr q4
  let q6 := mustR I N r5.2 (⟨#[124]⟩ : ByteArray)
  let r7 := nameR I N q6
  let q8 := mustR I N r7.2 (⟨#[58, 58]⟩ : ByteArray)
  let r9 := nameR I N q8
  let q10 := mustR I N r9.2 (⟨#[61, 62]⟩ : ByteArray)
  let r11 := R .expr q10
  let q12 := mustR I N r11.2 (⟨#[101, 110, 100]⟩ : ByteArray)
  (.mk 17 at_ (⟨#[]⟩ : ByteArray) 0 [r.1, r5.1, .mk 23 r7.1.2 r7.1.1 0 [], .mk 23 r9.1.2 r9.1.1 0 [], r11.1], q12)
def handT (at_ : Nat) (n : Int) (q1 : Rs) : Nd × Rs :=
  let r := R .expr q1
  let q2 := mustR I N r.2 (⟨#[119, 105, 116, 104]⟩ : ByteArray)
  let q3 := mustR I N q2 (⟨#[123]⟩ : ByteArray)
  let q4 := mustR I N q3 (⟨#[114, 101, 116, 117, 114, 110]⟩ : ByteArray)
  let r5 := nameR I N q4
  let q6 := mustR I N r5.2 (⟨#[61, 62]⟩ : ByteArray)
  let r7 := R .expr q6
  let r8 := R (.handL [r.1, .mk 21 q3.a r5.1.1 0 [r7.1]]) r7.2
  let q9 := mustR I N r8.2 (⟨#[125]⟩ : ByteArray)
  (.mk 20 at_ (⟨#[]⟩ : ByteArray) n r8.1.ks, q9)
def handleS (at_ : Nat) (q : Rs) : Nd × Rs :=
  let q1 := hasR I N q (⟨#[104, 97, 110, 100, 108, 101]⟩ : ByteArray)
  if I q (⟨#[104, 97, 110, 100, 108, 101]⟩ : ByteArray) = true then handT I N R at_ 0 q1 else handT I N R at_ 1 (N q1)
def handLS (l : List Nd) (q : Rs) : Nd × Rs :=
  let q1 := hasR I N q (⟨#[124]⟩ : ByteArray)
  if I q (⟨#[124]⟩ : ByteArray) = true then
    let r2 := nameR I N q1
    let r3 := nameR I N r2.2
    let r4 := nameR I N r3.2
    let q5 := mustR I N r4.2 (⟨#[61, 62]⟩ : ByteArray)
    let r6 := R .expr q5
    R (.handL (l ++ [.mk 22 r2.1.2 r2.1.1 0 [.mk 23 r3.1.2 r3.1.1 0 [], .mk 23 r4.1.2 r4.1.1 0 [], r6.1]])) r6.2
  else (.mk 0 0 (⟨#[]⟩ : ByteArray) 0 l, q1)
def compS (q : Rs) : Nd × Rs :=
  let r := R .cons q
  let q1 := hasR I N r.2 (⟨#[61, 61]⟩ : ByteArray)
  if I r.2 (⟨#[61, 61]⟩ : ByteArray) = true then
    let r2 := R .cons q1
    (two (⟨#[61, 61]⟩ : ByteArray) r.1 r2.1, r2.2)
  else
  let q2 := hasR I N q1 (⟨#[60]⟩ : ByteArray)
  if I q1 (⟨#[60]⟩ : ByteArray) = true then
    let r2 := R .cons q2
    (two (⟨#[60]⟩ : ByteArray) r.1 r2.1, r2.2)
  else (r.1, q2)
def consS (q : Rs) : Nd × Rs :=
  let r := R .sum q
  let q1 := hasR I N r.2 (⟨#[58, 58]⟩ : ByteArray)
  if I r.2 (⟨#[58, 58]⟩ : ByteArray) = true then
    let r2 := R .cons q1
    (.mk 16 r.1.a (⟨#[]⟩ : ByteArray) 0 [r.1, r2.1], r2.2)
  else (r.1, q1)
def sumS (q : Rs) : Nd × Rs :=
  let r := R .mul q
  R (.sumL r.1) r.2
def sumLS (a : Nd) (q : Rs) : Nd × Rs :=
  let q1 := hasR I N q (⟨#[43]⟩ : ByteArray)
  if I q (⟨#[43]⟩ : ByteArray) = true then
    let r := R .mul q1
    R (.sumL (two q.t a r.1)) r.2
  else
  let q2 := hasR I N q1 (⟨#[45]⟩ : ByteArray)
  if I q1 (⟨#[45]⟩ : ByteArray) = true then
    let r := R .mul q2
    R (.sumL (two q.t a r.1)) r.2
  else (a, q2)
def mulS (q : Rs) : Nd × Rs :=
  let r := R .app q
  R (.mulL r.1) r.2
def mulLS (a : Nd) (q : Rs) : Nd × Rs :=
  let q1 := hasR I N q (⟨#[42]⟩ : ByteArray)
  if I q (⟨#[42]⟩ : ByteArray) = true then
    let r := R .app q1
    R (.mulL (two (⟨#[42]⟩ : ByteArray) a r.1)) r.2
  else (a, q1)
def appS (q : Rs) : Nd × Rs :=
  let q1 := hasR I N q (⟨#[100, 111]⟩ : ByteArray)
  if I q (⟨#[100, 111]⟩ : ByteArray) = true then
    let r := nameR I N q1
    let r2 := R .atom r.2
    (.mk 19 q.a r.1.1 0 [r2.1], r2.2)
  else
  let q2 := hasR I N q1 (⟨#[102, 115, 116]⟩ : ByteArray)
  if I q1 (⟨#[102, 115, 116]⟩ : ByteArray) = true then
    let r := R .atom q2
    (.mk 13 q.a (⟨#[]⟩ : ByteArray) 0 [r.1], r.2)
  else
  let q3 := hasR I N q2 (⟨#[115, 110, 100]⟩ : ByteArray)
  if I q2 (⟨#[115, 110, 100]⟩ : ByteArray) = true then
    let r := R .atom q3
    (.mk 14 q.a (⟨#[]⟩ : ByteArray) 0 [r.1], r.2)
  else
  let r := R .atom q3
  R (.appL r.1) r.2
def appLS (a : Nd) (q : Rs) : Nd × Rs :=
  if begN I q = true then
    let r := R .atom q
    R (.appL (.mk 8 a.a (⟨#[]⟩ : ByteArray) 0 [a, r.1])) r.2
  else (a, q)
def numS (q : Rs) (q1 : Rs) : Nd × Rs :=
  if okB q1 = true then
    if (((q1.k : Nat) : Int) != (1 : Int)) = true then (.mk 3 q.a (⟨#[]⟩ : ByteArray) (-((q1.n : Nat) : Int)) [], N (noR q1))
    else (.mk 3 q.a (⟨#[]⟩ : ByteArray) (-((q1.n : Nat) : Int)) [], N q1)
  else (.mk 3 q.a (⟨#[]⟩ : ByteArray) (-((q1.n : Nat) : Int)) [], N q1)
def atomS (q : Rs) : Nd × Rs :=
  if okB q = true then
    if (((q.k : Nat) : Int) == (2 : Int)) = true then (.mk 6 q.a q.t 0 [], N q) else
    if (((q.k : Nat) : Int) == (1 : Int)) = true then (.mk 3 q.a (⟨#[]⟩ : ByteArray) ((q.n : Nat) : Int) [], N q) else
    let q1 := hasR I N q (⟨#[126]⟩ : ByteArray)
    if I q (⟨#[126]⟩ : ByteArray) = true then numS N q q1 else
    let q2 := hasR I N q1 (⟨#[116, 114, 117, 101]⟩ : ByteArray)
    if I q1 (⟨#[116, 114, 117, 101]⟩ : ByteArray) = true then (.mk 4 q.a (⟨#[]⟩ : ByteArray) 1 [], q2) else
    let q3 := hasR I N q2 (⟨#[102, 97, 108, 115, 101]⟩ : ByteArray)
    if I q2 (⟨#[102, 97, 108, 115, 101]⟩ : ByteArray) = true then (.mk 4 q.a (⟨#[]⟩ : ByteArray) 0 [], q3) else
    let q4 := hasR I N q3 (⟨#[40]⟩ : ByteArray)
    if I q3 (⟨#[40]⟩ : ByteArray) = true then R (.round q.a) q4 else
    let q5 := hasR I N q4 (⟨#[91]⟩ : ByteArray)
    if I q4 (⟨#[91]⟩ : ByteArray) = true then R (.square q.a) q5 else
    (nd0, noR q5)
  else (nd0, q)
def roundS (at_ : Nat) (q : Rs) : Nd × Rs :=
  let q1 := hasR I N q (⟨#[41]⟩ : ByteArray)
  if I q (⟨#[41]⟩ : ByteArray) = true then (.mk 5 at_ (⟨#[]⟩ : ByteArray) 0 [], q1) else
  let r := R .expr q1
  let q2 := hasR I N r.2 (⟨#[44]⟩ : ByteArray)
  if I r.2 (⟨#[44]⟩ : ByteArray) = true then
    let r2 := R .expr q2
    let q3 := mustR I N r2.2 (⟨#[41]⟩ : ByteArray)
    (.mk 12 at_ (⟨#[]⟩ : ByteArray) 0 [r.1, r2.1], q3)
  else (r.1, mustR I N q2 (⟨#[41]⟩ : ByteArray))
def squareS (at_ : Nat) (q : Rs) : Nd × Rs :=
  let q1 := hasR I N q (⟨#[93]⟩ : ByteArray)
  if I q (⟨#[93]⟩ : ByteArray) = true then (.mk 15 at_ (⟨#[]⟩ : ByteArray) 0 [], q1) else
  let r := R (.squareL []) q1
  (consAll at_ r.1.ks, mustR I N r.2 (⟨#[93]⟩ : ByteArray))
def squareLS (l : List Nd) (q : Rs) : Nd × Rs :=
  let r := R .expr q
  let q1 := hasR I N r.2 (⟨#[44]⟩ : ByteArray)
  if I r.2 (⟨#[44]⟩ : ByteArray) = true then R (.squareL (l ++ [r.1])) q1 else (.mk 0 0 (⟨#[]⟩ : ByteArray) 0 (l ++ [r.1]), q1)
def opsT (l : List Nd) (at_ : Nat) (n : Int) (q2 : Rs) : Nd × Rs :=
  let r := nameR I N q2
  let q3 := mustR I N r.2 (⟨#[58]⟩ : ByteArray)
  let ra := R .typ q3
  let q4 := mustR I N ra.2 (⟨#[61, 62]⟩ : ByteArray)
  let rb := R .typ q4
  R (.opsL (l ++ [.mk 1 at_ r.1.1 n [ra.1, rb.1]])) rb.2
def opsLS (l : List Nd) (q : Rs) : Nd × Rs :=
  if I q (⟨#[111, 112]⟩ : ByteArray) = true then
    let q1 := N q
    if I q1 (⟨#[111, 110, 99, 101]⟩ : ByteArray) = true then opsT I N R l q.a 1 (N q1)
    else if I q1 (⟨#[109, 97, 110, 121]⟩ : ByteArray) = true then opsT I N R l q.a 0 (N q1)
    else opsT I N R l q.a 0 (noR q1)
  else (.mk 0 0 (⟨#[]⟩ : ByteArray) ((l.length : Nat) : Int) l, q)
def defsT (n0 : Nat) (l : List Nd) (at_ : Nat) (n : Int) (q2 : Rs) : Nd × Rs :=
  let r := nameR I N q2
  let r2 := R (.params (⟨#[61]⟩ : ByteArray) true) r.2
  R (.defsL n0 (l ++ [.mk 2 at_ r.1.1 n [r2.1]])) r2.2
def defsLS (n0 : Nat) (l : List Nd) (q : Rs) : Nd × Rs :=
  if I q (⟨#[100, 101, 102]⟩ : ByteArray) = true then
    let q1 := N q
    let q2 := hasR I N q1 (⟨#[114, 101, 99]⟩ : ByteArray)
    if I q1 (⟨#[114, 101, 99]⟩ : ByteArray) = true then defsT I N R n0 l q.a 1 q2 else defsT I N R n0 l q.a 0 q2
  else (.mk 0 0 (⟨#[]⟩ : ByteArray) ((n0 : Nat) : Int) l, q)
def progS (q : Rs) : Nd × Rs :=
  let r := R (.opsL []) q
  let r2 := R (.defsL r.1.ks.length r.1.ks) r.2
  let q3 := mustR I N r2.2 (⟨#[109, 97, 105, 110]⟩ : ByteArray)
  let q4 := mustR I N q3 (⟨#[61]⟩ : ByteArray)
  let r5 := R .expr q4
  (.mk 0 0 (⟨#[]⟩ : ByteArray) ((r.1.ks.length : Nat) : Int) (r2.1.ks ++ [r5.1]), r5.2)
def stepN (nt : NT) (q : Rs) : Nd × Rs :=
  match nt with
  | .typ => typS I N R q
  | .pair => pairS I N R q
  | .some => someS I N R q
  | .listL a => listLS I N R a q
  | .namesL l => namesLS I N R l q
  | .expr => exprS R q
  | .any => anyS I N R q
  | .params s f => paramsS I N R s f q
  | .letN a => letS I N R a q
  | .cases a => casesS I N R a q
  | .handle a => handleS I N R a q
  | .handL l => handLS I N R l q
  | .comp => compS I N R q
  | .cons => consS I N R q
  | .sum => sumS R q
  | .sumL a => sumLS I N R a q
  | .mul => mulS R q
  | .mulL a => mulLS I N R a q
  | .app => appS I N R q
  | .appL a => appLS I R a q
  | .atom => atomS I N R q
  | .round a => roundS I N R a q
  | .square a => squareS I N R a q
  | .squareL l => squareLS I N R l q
  | .prog => progS I N R q
  | .opsL l => opsLS I N R l q
  | .defsL n l => defsLS I N R n l q
end
def run (I : Rs → ByteArray → Bool) (N : Rs → Rs) : Nat → NT → Rs → Nd × Rs
  | 0 => fun _ q => (nd0, noR q)
  | k + 1 => stepN I N (run I N k)
theorem step_eq (S : ByteArray) (R : NT → Rs → Nd × Rs) : Go.Syn.stepN S R = stepN isB (nextR S) R := by
  funext nt q
  cases nt <;> rfl
theorem run_eq (S : ByteArray) (k : Nat) : Go.Syn.run S k = run isB (nextR S) k := by
  induction k with
  | zero => rfl
  | succ k ih => show Go.Syn.stepN S (Go.Syn.run S k) = stepN isB (nextR S) (run isB (nextR S) k); rw [ih]; exact step_eq S _
/-! ### What the kernel runs fast -/
def eqB (a b : ByteArray) : Bool := a.data.toList == b.data.toList
theorem eqB_eq (a b : ByteArray) : (a.toList == b.toList) = eqB a b := by unfold eqB; rw [ByteArray.toList_eq, ByteArray.toList_eq]
def isF (q : Rs) (s : ByteArray) : Bool := (Nat.beq q.fk 0) && (Nat.beq q.k 3 || Nat.beq q.k 4) && eqB q.t s
theorem nat_int (a b : Nat) : (((a : Nat) : Int) == ((b : Nat) : Int)) = Nat.beq a b := by
  rw [Bool.eq_iff_iff, beq_iff_eq, Nat.beq_eq]; omega
theorem isF_eq : isB = isF := by
  funext q s
  unfold isB isF okB
  rw [eqB_eq]
  rw [← nat_int q.fk 0, ← nat_int q.k 3, ← nat_int q.k 4]
  rfl
def stopF (p : UInt8 → Bool) (s : ByteArray) : Nat → Nat → Nat
  | 0, k => k
  | f + 1, k => if k < s.size && p (byteAt s k) then stopF p s f (k + 1) else k
theorem stopF_eq (p : UInt8 → Bool) (s : ByteArray) : ∀ (f k : Nat), s.size ≤ k + f → stopF p s f k = stop p s k
  | 0, k, h => by rw [stopF, stop, dif_neg (by omega)]
  | f + 1, k, h => by
    rw [stopF, stop]
    by_cases hc : k < s.size ∧ p (byteAt s k) = true
    · rw [dif_pos hc, if_pos (by simp [hc.1, hc.2]), stopF_eq p s f (k + 1) (by omega)]
    · rw [dif_neg hc, if_neg (by simpa using hc)]
def passF (s : ByteArray) : Nat → Nat → Nat
  | 0, k => k
  | f + 1, k => if k < s.size then (if blankB (byteAt s k) then passF s f (k + 1) else if Nat.beq (byteAt s k).toNat 35 then passF s f (stopF notNl s s.size (k + 1)) else k) else k
theorem passF_eq (s : ByteArray) : ∀ (f k : Nat), s.size ≤ k + f → passF s f k = pass s k
  | 0, k, h => by rw [passF, pass, dif_neg (by omega)]
  | f + 1, k, h => by
    rw [passF, pass]
    by_cases hc : k < s.size
    · rw [if_pos hc, dif_pos hc]
      by_cases hb : blankB (byteAt s k) = true
      · rw [if_pos hb, if_pos hb, passF_eq s f (k + 1) (by omega)]
      · rw [if_neg hb, if_neg hb]
        have h5 : (((byteAt s k).toNat : Int) == 35) = Nat.beq (byteAt s k).toNat 35 := nat_int (byteAt s k).toNat 35
        by_cases he : Nat.beq (byteAt s k).toNat 35 = true
        · rw [if_pos he, if_pos (by rw [← he]; exact h5), stopF_eq notNl s s.size (k + 1) (by omega), passF_eq s f _ (by have := le_stop notNl s (k + 1); omega)]
        · rw [if_neg he, if_neg (by intro q; apply he; rw [← q]; exact h5.symm)]
    · rw [if_neg hc, dif_neg hc]
def nmB (c : UInt8) : Bool := letterB c || digitB c
def wordF (s : ByteArray) : Bool := wordsL.any (fun x => eqB s x)
theorem wordF_eq (s : ByteArray) : wordB s = wordF s := by unfold wordB wordF; congr 1; funext x; exact eqB_eq s x
def longerF (s : ByteArray) : Bool := ((eqB s ⟨#[58, 58]⟩ || eqB s ⟨#[61, 61]⟩) || eqB s ⟨#[61, 62]⟩) || eqB s ⟨#[45, 62]⟩
theorem longerF_eq (s : ByteArray) : longerB s = longerF s := by unfold longerB longerF; rw [eqB_eq, eqB_eq, eqB_eq, eqB_eq]
def ext (s : ByteArray) (a b : Nat) : ByteArray := ⟨((s.data.toList.drop a).take (b - a)).toArray⟩
theorem ext_eq (s : ByteArray) (a b : Nat) : s.extract a b = ext s a b := by
  unfold ext
  have h : (s.extract a b).data = ((s.data.toList.drop a).take (b - a)).toArray := by
    rw [ByteArray.data_extract]
    apply Array.toList_inj.1
    rw [Array.toList_extract]
  cases h' : s.extract a b with
  | mk d => rw [h'] at h; exact congrArg ByteArray.mk h
def numF (s : ByteArray) (j e : Nat) : Nx := if numOk s j e then ⟨1, j, ⟨#[]⟩, dval s j (e - j), e, 0, 0⟩ else fault 3 j
def nameF (s : ByteArray) (j e : Nat) : Nx := if 20 < e - j then fault 3 j else ⟨if wordF (ext s j e) then 3 else 2, j, ext s j e, 0, e, 0, 0⟩
def signF (s : ByteArray) (j : Nat) : Nx := if j + 2 ≤ s.size && longerF (ext s j (j + 2)) then ⟨4, j, ext s j (j + 2), 0, j + 2, 0, 0⟩ else ⟨4, j, ext s j (j + 1), 0, j + 1, 0, 0⟩
def tokF (s : ByteArray) (j : Nat) : Nx :=
  if digitB (byteAt s j) then numF s j (stopF digitB s s.size j) else if letterB (byteAt s j) then nameF s j (stopF nmB s s.size j) else if signB (byteAt s j) then signF s j else fault 2 j
theorem tokF_eq (s : ByteArray) (j : Nat) : tokAt s j = tokF s j := by
  unfold tokAt tokF
  rw [stopF_eq digitB s s.size j (by omega), stopF_eq nmB s s.size j (by omega)]
  congr 1
  congr 1
  · unfold nameAt nameF
    simp only [wordF_eq, ext_eq, gt_iff_lt]
    rfl
  · congr 1
    unfold signF signLen
    rw [longerF_eq, ext_eq]
    by_cases h : j + 2 ≤ s.size
    · have : decide (((j + 2 : Nat) : Int) ≤ ((s.size : Nat) : Int)) = true := decide_eq_true (by omega)
      rw [this, Bool.true_and]
      simp only [h, decide_true, Bool.true_and]
      by_cases hl : longerF (ext s j (j + 2)) = true
      · simp [hl, ext_eq]
      · simp [hl, ext_eq]
    · have : decide (((j + 2 : Nat) : Int) ≤ ((s.size : Nat) : Int)) = false := decide_eq_false (by omega)
      rw [this, Bool.false_and]
      simp [h, ext_eq]
def nxtF (s : ByteArray) (j : Nat) : Nx := if j < s.size then tokF s j else ⟨0, s.size, ⟨#[]⟩, 0, s.size, 0, 0⟩
def nextF (s : ByteArray) (i : Nat) : Nx := nxtF s (passF s s.size i)
theorem nextF_eq (s : ByteArray) (i : Nat) : next s i = nextF s i := by
  unfold next nextF nxtF
  rw [passF_eq s s.size i (by omega), tokF_eq]
/-! The same over what is left of the text -/
def D (s : ByteArray) (k : Nat) : List UInt8 := s.data.toList.drop k
theorem D_cons {s : ByteArray} {k : Nat} (h : k < s.size) : D s k = byteAt s k :: D s (k + 1) := by
  have h' : k < s.data.toList.length := by simpa using h
  unfold D byteAt
  rw [List.drop_eq_getElem_cons h']
  congr 1
  have h2 : k < s.data.size := h
  rw [Array.getElem?_eq_getElem h2]
  rfl
theorem D_nil {s : ByteArray} {k : Nat} (h : ¬ k < s.size) : D s k = [] := by
  unfold D
  exact List.drop_eq_nil_of_le (by have : s.data.toList.length = s.size := by simp
                                   omega)
def spanL (p : UInt8 → Bool) : List UInt8 → Nat
  | [] => 0
  | c :: r => if p c then spanL p r + 1 else 0
theorem span_eq (p : UInt8 → Bool) (s : ByteArray) (k : Nat) : stop p s k = k + spanL p (D s k) := by
  by_cases h : k < s.size
  · rw [D_cons h, stop]
    by_cases hp : p (byteAt s k) = true
    · rw [dif_pos ⟨h, hp⟩, span_eq p s (k + 1), spanL, if_pos hp]; omega
    · rw [dif_neg (fun q => hp q.2), spanL, if_neg hp]; rfl
  · rw [D_nil h, stop, dif_neg (fun q => h q.1)]; rfl
termination_by s.size - k
def passL : List UInt8 → Bool → Nat → Nat
  | [], _, k => k
  | c :: r, true, k => if c.toNat = 10 then passL r false (k + 1) else passL r true (k + 1)
  | c :: r, false, k => if blankB c then passL r false (k + 1) else if Nat.beq c.toNat 35 then passL r true (k + 1) else k
theorem pass_eq (s : ByteArray) (k : Nat) : pass s k = passL (D s k) false k ∧ pass s (stop notNl s k) = passL (D s k) true k := by
  by_cases h : k < s.size
  · have ih := pass_eq s (k + 1)
    rw [D_cons h]
    constructor
    · rw [pass, dif_pos h, passL]
      by_cases hb : blankB (byteAt s k) = true
      · rw [if_pos hb, if_pos hb, ih.1]
      · rw [if_neg hb, if_neg hb]
        have h5 : (((byteAt s k).toNat : Int) == 35) = Nat.beq (byteAt s k).toNat 35 := nat_int (byteAt s k).toNat 35
        by_cases he : Nat.beq (byteAt s k).toNat 35 = true
        · rw [if_pos he, if_pos (by rw [← he]; exact h5), ih.2]
        · rw [if_neg he, if_neg (by intro q; apply he; rw [← q]; exact h5.symm)]
    · rw [passL]
      by_cases hn : (byteAt s k).toNat = 10
      · rw [if_pos hn, stop, dif_neg (by intro q; have := q.2; simp [notNl, hn] at this), pass, dif_pos h, if_pos (by simp [blankB, hn]), ih.1]
      · rw [if_neg hn, stop, dif_pos ⟨h, by simp [notNl]; exact_mod_cast hn⟩, ih.2]
  · rw [D_nil h]
    have : stop notNl s k = k := by rw [stop, dif_neg (fun q => h q.1)]
    rw [this, pass, dif_neg h]
    exact ⟨rfl, rfl⟩
termination_by s.size - k
def valL : List UInt8 → Nat → Nat → Nat
  | c :: r, m + 1, v => valL r m (v * 10 + (c.toNat - 48))
  | _, _, v => v
theorem dval_add (s : ByteArray) (j : Nat) : ∀ (m i v : Nat), j + i + m ≤ s.size → v = dval s j i → valL (D s (j + i)) m v = dval s j (i + m)
  | 0, i, v, _, h => by subst h; cases D s (j + i) <;> rfl
  | m + 1, i, v, hs, h => by
    rw [D_cons (by omega), valL, show j + i + 1 = j + (i + 1) by omega, dval_add s j m (i + 1) _ (by omega) (by rw [h]; rfl)]
    congr 1
    omega
def ofL (l : List UInt8) : ByteArray := ⟨l.toArray⟩
def tokL (l : List UInt8) (j : Nat) : Nx := match l with
  | [] => fault 2 j
  | c :: r =>
    if digitB c then
      let m := spanL digitB l
      let v := valL l m 0
      if !(Nat.blt 1 m && Nat.beq c.toNat 48) && Nat.ble v 9223372036854775807 then ⟨1, j, ⟨#[]⟩, v, j + m, 0, 0⟩ else fault 3 j
    else if letterB c then
      let m := spanL nmB l
      if Nat.blt 20 m then fault 3 j else ⟨if wordF (ofL (l.take m)) then 3 else 2, j, ofL (l.take m), 0, j + m, 0, 0⟩
    else if signB c then
      match r with
      | [] => ⟨4, j, ofL [c], 0, j + 1, 0, 0⟩
      | d :: _ => if longerF (ofL [c, d]) then ⟨4, j, ofL [c, d], 0, j + 2, 0, 0⟩ else ⟨4, j, ofL [c], 0, j + 1, 0, 0⟩
    else fault 2 j
theorem span_le (p : UInt8 → Bool) (l : List UInt8) : spanL p l ≤ l.length := by
  induction l with
  | nil => exact Nat.le_refl _
  | cons c r ih => unfold spanL; split <;> simp <;> omega
theorem D_len (s : ByteArray) (k : Nat) : (D s k).length = s.size - k := by
  unfold D; rw [List.length_drop]; rfl
theorem tokL_eq {s : ByteArray} {j : Nat} (h : j < s.size) : tokF s j = tokL (D s j) j := by
  have hc := D_cons h
  rw [hc, tokL.eq_def]
  simp only
  rw [← hc]
  unfold tokF
  rw [stopF_eq digitB s s.size j (by omega), stopF_eq nmB s s.size j (by omega), span_eq, span_eq]
  have hl := D_len s j
  have e1 : ∀ m, j + m - j = m := fun m => by omega
  congr 1
  · unfold numF numOk
    have hv : dval s j (spanL digitB (D s j)) = valL (D s j) (spanL digitB (D s j)) 0 := by
      have := dval_add s j (spanL digitB (D s j)) 0 0 (by have := span_le digitB (D s j); omega) rfl
      rw [Nat.add_zero, Nat.zero_add] at this
      exact this.symm
    rw [e1, hv]
    have a1 : decide (spanL digitB (D s j) > 1) = Nat.blt 1 (spanL digitB (D s j)) := by rw [Bool.eq_iff_iff, decide_eq_true_eq, Nat.blt_eq]
    have a2 : ((byteAt s j).toNat == 48) = Nat.beq (byteAt s j).toNat 48 := by rw [Bool.eq_iff_iff, beq_iff_eq, Nat.beq_eq]
    have a3 : decide (valL (D s j) (spanL digitB (D s j)) 0 ≤ maxInt) = Nat.ble (valL (D s j) (spanL digitB (D s j)) 0) 9223372036854775807 := by rw [Bool.eq_iff_iff, decide_eq_true_eq, Nat.ble_eq]; rfl
    rw [a1, a2, a3]
  · congr 1
    · unfold nameF ext ofL
      rw [e1]
      have a1 : (20 < spanL nmB (D s j)) = (Nat.blt 20 (spanL nmB (D s j)) = true) := by rw [Nat.blt_eq]
      simp only [a1]
      rfl
    · congr 1
      unfold signF ext ofL
      have e2 : (s.data.toList.drop j) = D s j := rfl
      rw [e2, show j + 2 - j = 2 by omega, show j + 1 - j = 1 by omega, hc]
      by_cases h2 : j + 1 < s.size
      · rw [D_cons h2]
        have : decide (j + 2 ≤ s.size) = true := decide_eq_true (by omega)
        rw [this, Bool.true_and]
        rfl
      · rw [D_nil h2]
        have : decide (j + 2 ≤ s.size) = false := decide_eq_false (by omega)
        rw [this, Bool.false_and]
        rfl
/-- The token at a place or behind it: k: how much of the text there is. -/
def nextL (l : List UInt8) (n i : Nat) : Nx :=
  let j := passL (l.drop i) false i
  match l.drop j with
  | [] => ⟨0, n, ⟨#[]⟩, 0, n, 0, 0⟩
  | c :: r => tokL (c :: r) j
theorem nextL_eq (s : ByteArray) (i : Nat) : next s i = nextL s.data.toList s.size i := by
  rw [nextF_eq]
  unfold nextF nxtF nextL
  rw [passF_eq s s.size i (by omega), (pass_eq s i).1]
  have e : (s.data.toList.drop (passL (s.data.toList.drop i) false i)) = D s (passL (D s i) false i) := rfl
  simp only [e]
  by_cases h : passL (D s i) false i < s.size
  · rw [if_pos h, tokL_eq h, D_cons h]; rfl
  · rw [if_neg h, D_nil h]
def goF (q : Rs) (x : Nx) : Rs := ⟨x.kind, x.at_, x.text, x.n, x.nx, x.fk, x.fa, q.x, q.y⟩
def nextRL (l : List UInt8) (n : Nat) (q : Rs) : Rs := if Nat.beq q.fk 0 then goF q (nextL l n q.e) else q
theorem nextRL_eq (S : ByteArray) : nextR S = nextRL S.data.toList S.size := by
  funext q
  unfold nextR nextRL okB goF
  rw [← nextL_eq]
  rw [← nat_int q.fk 0]
  rfl
theorem run_fast (S : ByteArray) (k : Nat) : Go.Syn.run S k = run isF (nextRL S.data.toList S.size) k := by rw [run_eq, isF_eq, nextRL_eq]
/-- The whole of it. -/
def parseL (l : List UInt8) (n : Nat) : Nd × Nat × Nat :=
  if Nat.blt 3000 n then (nd0, 1, 0) else
  let N := nextRL l n
  let r := run isF N fuelP .prog (N q00)
  let q := lastR r.2
  if Nat.beq q.fk 0 then (r.1, 0, 0) else (nd0, q.fk, q.fa)
theorem parse_fast (s : ByteArray) : parseP s = parseL s.data.toList s.size := by
  unfold parseP parseL
  rw [run_fast, nextRL_eq]
  have a1 : (s.size > 3000) = (Nat.blt 3000 s.size = true) := by rw [Nat.blt_eq]
  simp only [a1]
  have a2 : ∀ q : Rs, okB q = Nat.beq q.fk 0 := fun q => nat_int q.fk 0
  simp only [a2]
end Go.Syn.N
namespace Go.Inf
open Go.Syn
def evW (kd : Nat) (n : Int) (ks : List Nd) (fk : Nat) (a b : ByteArray) : Bool :=
  kd == 0 && fk == 0 && decide (0 ≤ n) && (match foundM 150 n.toNat ks with
    | some r => r.2.2.1 == 0 && decide (r.1.length < 1000) && bgM a b (r.1.map (·.1)) 0
    | none => false)
def evN (x : Nd × Nat × Nat) (a b : ByteArray) : Bool := match x with
  | (.mk kd _ _ n ks, fk, _) => evW kd n ks fk a b
def evT (t a b : ByteArray) : Bool := evN (N.parseL t.data.toList t.size) a b
theorem begun_of {t a b : ByteArray} (hp : evN (parseP (t ++ ⟨#[32, 109, 97, 105, 110, 32, 61, 32, 49]⟩)) a b = true) (hs : t.size ≤ 1500) : Begun t a b := by
  generalize e : parseP (t ++ ⟨#[32, 109, 97, 105, 110, 32, 61, 32, 49]⟩) = x at hp
  obtain ⟨⟨kd, na, nm, n, ks⟩, fk, fa⟩ := x
  unfold evN evW at hp
  simp only [Bool.and_eq_true, beq_iff_eq, decide_eq_true_eq] at hp
  obtain ⟨⟨⟨h1, h2⟩, h3⟩, h4⟩ := hp
  cases hf : foundM 150 n.toNat ks with
  | none => rw [hf] at h4; contradiction
  | some r =>
    rw [hf] at h4
    simp only [Bool.and_eq_true, beq_iff_eq, decide_eq_true_eq] at h4
    exact ⟨kd, na, nm, n.toNat, ks, fk, fa, 150, r, by rw [e, Int.toNat_of_nonneg h3], hf, h1, h2, h4.1.1, hs, by omega, h4.2⟩
end Go.Inf
namespace Go.Inf
open Go.Syn
set_option maxRecDepth 100000
theorem ev_state : evT (txt [1, 0, 1, 0, 1, 0, 0] ++ ⟨#[32, 109, 97, 105, 110, 32, 61, 32, 49]⟩) (⟨#[115, 116, 97, 116, 101]⟩ : ByteArray) (⟨#[115, 116, 97, 116, 101]⟩ : ByteArray) = true := by kernel_rfl
theorem begun_state : Begun (txt [1, 0, 1, 0, 1, 0, 0]) (⟨#[115, 116, 97, 116, 101]⟩ : ByteArray) (⟨#[115, 116, 97, 116, 101]⟩ : ByteArray) := begun_of (by rw [N.parse_fast]; exact ev_state) (Nat.le_of_ble_eq_true (by kernel_rfl))
theorem ev_choose : evT (txt [1, 0, 1, 0, 1, 1, 1, 0, 0] ++ ⟨#[32, 109, 97, 105, 110, 32, 61, 32, 49]⟩) (⟨#[97, 108, 108]⟩ : ByteArray) (⟨#[102, 105, 114, 115, 116]⟩ : ByteArray) = true := by kernel_rfl
theorem begun_choose : Begun (txt [1, 0, 1, 0, 1, 1, 1, 0, 0]) (⟨#[97, 108, 108]⟩ : ByteArray) (⟨#[102, 105, 114, 115, 116]⟩ : ByteArray) := begun_of (by rw [N.parse_fast]; exact ev_choose) (Nat.le_of_ble_eq_true (by kernel_rfl))
theorem ev_gen : evT (txt [1, 0, 1, 0, 1, 1, 1, 1, 1, 0, 0] ++ ⟨#[32, 109, 97, 105, 110, 32, 61, 32, 49]⟩) (⟨#[101, 109, 105, 116, 116, 101, 100]⟩ : ByteArray) (⟨#[116, 97, 107, 101]⟩ : ByteArray) = true := by kernel_rfl
theorem begun_gen : Begun (txt [1, 0, 1, 0, 1, 1, 1, 1, 1, 0, 0]) (⟨#[101, 109, 105, 116, 116, 101, 100]⟩ : ByteArray) (⟨#[116, 97, 107, 101]⟩ : ByteArray) := begun_of (by rw [N.parse_fast]; exact ev_gen) (Nat.le_of_ble_eq_true (by kernel_rfl))
end Go.Inf
