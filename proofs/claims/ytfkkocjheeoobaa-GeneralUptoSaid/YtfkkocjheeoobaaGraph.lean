/- The document's types as nodes and rows (chapter 3), in plain Lean. -/
import GoSem.Op.String
set_option linter.unusedVariables false
set_option linter.unusedSimpArgs false
set_option linter.unusedVariables false
set_option linter.unusedSimpArgs false
namespace Go.Inf
/-- A name's bytes. -/
abbrev Nm := ByteArray
/-- Is a name at most another one? -/
def leN (a b : Nm) : Bool := Go.Op.bytesLess a.data.toList b.data.toList || (a.data.toList == b.data.toList)
def eqN (a b : Nm) : Bool := a.data.toList == b.data.toList
structure G where
  kind : List Nat
  a : List (Option Nat)
  b : List (Option Nat)
  row : List Nat
  link : List (Option Nat)
  ops : List (List Nm)
  next : List (Option Nat)
  tv : List (Int × Nat)
  rv : List (Int × Nat)
/-- Numbers and lists that are reckoned out before one goes on (a matter of the kernel's alone). -/
def wN {β : Type} (n : Nat) (k : Nat → β) : β := match n with
  | 0 => k 0
  | m + 1 => k (m + 1)
def wO {β : Type} (o : Option Nat) (k : Option Nat → β) : β := match o with
  | none => k none
  | some n => wN n fun n => k (some n)
def wL {α β : Type} : List α → (List α → β) → β
  | [], k => k []
  | x :: l, k => wL l fun l => k (x :: l)
theorem wN_eq {β : Type} (n : Nat) (k : Nat → β) : wN n k = k n := by cases n <;> rfl
theorem wO_eq {β : Type} (o : Option Nat) (k : Option Nat → β) : wO o k = k o := by cases o <;> simp [wO, wN_eq]
theorem wL_eq {α β : Type} (l : List α) (k : List α → β) : wL l k = k l := by
  induction l generalizing k with
  | nil => rfl
  | cons x l ih => simp [wL, ih]
def big : Nat := 1000000000
def G.new : G := ⟨[], [], [], [], [], [[]], [some 0], [], []⟩
def G.put (g : G) (kd : Nat) (a b : Option Nat) (r : Nat) : Option (G × Nat) :=
  if g.kind.length < big then wO a fun a => wO b fun b => wN r fun r => wN g.kind.length fun n => wL (g.kind ++ [kd]) fun k' => wL (g.a ++ [a]) fun a' => wL (g.b ++ [b]) fun b' => wL (g.row ++ [r]) fun r' => wL (g.link ++ [none]) fun l' =>
    some (⟨k', a', b', r', l', g.ops, g.next, g.tv, g.rv⟩, n) else none
def G.putRow (g : G) (l : List Nm) (nx : Option Nat) : Option (G × Nat) :=
  if g.ops.length < big then wL l fun l => wO nx fun nx => wN g.ops.length fun n => wL (g.ops ++ [l]) fun o' => wL (g.next ++ [nx]) fun n' => some (⟨g.kind, g.a, g.b, g.row, g.link, o', n', g.tv, g.rv⟩, n) else none
def G.var (g : G) : Option (G × Nat) := g.put 0 none none 0
def G.opn (g : G) : Option (G × Nat) := g.putRow [] none
def find : Nat → G → Nat → Option Nat
  | 0, _, _ => none
  | k + 1, g, n => match g.link[n]? with
    | some (some m) => find k g m
    | some none => some n
    | none => none
/-- A name joins names in order. -/
def putN : List Nm → Nm → List Nm
  | [], s => [s]
  | x :: l, s => if leN x s then x :: putN l s else s :: x :: l
def putAll (l : List Nm) : List Nm → List Nm
  | [] => l
  | s :: r => putAll (putN l s) r
def whole : Nat → G → Nat → List Nm → Option (List Nm × Nat)
  | 0, _, _, _ => none
  | k + 1, g, r, acc => match g.ops[r]? with
    | some l => if acc.length + l.length < big then (match g.next[r]? with
      | some none => some (putAll acc l, r)
      | some (some 0) => some (putAll acc l, 0)
      | some (some (q + 1)) => whole k g (q + 1) (putAll acc l)
      | none => none) else none
    | none => none
/-- The first of b that is s and not used. -/
def firstN (s : Nm) : List (Nm × Bool) → Option Nat
  | [] => none
  | (x, u) :: r => if !u && eqN x s then some 0 else (firstN s r).map (· + 1)
def lessG : List Nm → List (Nm × Bool) → List Nm
  | [], _ => []
  | s :: a, b => match firstN s b with
    | none => s :: lessG a b
    | some j => lessG a (b.set j (s, true))
def less (a b : List Nm) : List Nm := lessG a (b.map fun x => (x, false))
def G.stands (g : G) (v : Nat) (l : List Nm) (nx : Option Nat) : G := wN v fun v => wL l fun l => wO nx fun nx => wL (g.ops.set v l) fun o' => wL (g.next.set v nx) fun n' => ⟨g.kind, g.a, g.b, g.row, g.link, o', n', g.tv, g.rv⟩
def G.lnk (g : G) (m n : Nat) : G := wN m fun m => wN n fun n => wL (g.link.set m (some n)) fun l' => ⟨g.kind, g.a, g.b, g.row, l', g.ops, g.next, g.tv, g.rv⟩
def sameRow (k : Nat) (g : G) (r s : Nat) : Option (G × Bool) :=
  match whole k g r [], whole k g s [] with
  | some (a, v), some (b, w) =>
    let d := less a b
    let e := less b a
    if v = w then some (g, d.isEmpty && e.isEmpty)
    else if (v == 0 && !e.isEmpty) || (w == 0 && !d.isEmpty) then some (g, false)
    else if v = 0 then some (g.stands w d (some 0), true)
    else if w = 0 then some (g.stands v e (some 0), true)
    else match g.opn with
      | some (g, x) => some ((g.stands v e (some x)).stands w d (some x), true)
      | none => none
  | _, _ => none
def same : Nat → G → Nat → Nat → Option (G × Bool)
  | 0, _, _, _ => none
  | k + 1, g, m, n => match find k g m, find k g n with
    | some m, some n =>
      if m = n then some (g, true) else
      match g.kind[m]?, g.kind[n]? with
      | some km, some kn =>
        if km = 0 then some (g.lnk m n, true)
        else if kn = 0 then some (g.lnk n m, true)
        else if km ≠ kn then some (g, false)
        else
          let g := g.lnk m n
          let arg (g : G) (x y : Option (Option Nat)) : Option (G × Bool) := match x, y with
            | some none, _ => some (g, true)
            | some (some p), some (some q) => same k g p q
            | _, _ => none
          match arg g g.a[m]? g.a[n]? with
          | some (g, false) => some (g, false)
          | some (g, true) => match arg g g.b[m]? g.b[n]? with
            | some (g, false) => some (g, false)
            | some (g, true) => if km = 6 then (match g.row[m]?, g.row[n]? with
              | some r, some s => sameRow k g r s
              | _, _ => none) else some (g, true)
            | none => none
          | none => none
      | _, _ => none
    | _, _ => none
/-- seen: 1: it is being looked at, 2: it was. -/
abbrev Seen := List (Nat × Nat)
def Seen.at (s : Seen) (n : Nat) : Nat := match s with
  | [] => 0
  | (m, v) :: r => if m = n then v else Seen.at r n
def Seen.put (s : Seen) (n v : Nat) : Seen := match s with
  | [] => [(n, v)]
  | (m, u) :: r => if m = n then (n, v) :: r else (m, u) :: Seen.put r n v
def round : Nat → G → Nat → Seen → Option (Bool × Seen)
  | 0, _, _, _ => none
  | k + 1, g, n, s => match find k g n with
    | some n =>
      if 0 < s.at n then some (s.at n == 1, s) else
      let s := s.put n 1
      let arg (x : Option (Option Nat)) (s : Seen) : Option (Bool × Seen) := match x with
        | some none => some (false, s)
        | some (some m) => round k g m s
        | none => none
      match arg g.a[n]? s with
      | some (true, s) => some (true, s)
      | some (false, s) => match arg g.b[n]? s with
        | some (true, s) => some (true, s)
        | some (false, s) => some (false, s.put n 2)
        | none => none
      | none => none
    | none => none
def parts : Nat → G → Nat → Seen → Option (Nat × Seen)
  | 0, _, _, _ => none
  | k + 1, g, n, s => match find k g n with
    | some n =>
      if 0 < s.at n then some (s.at n, s) else
      let arg (x : Option (Option Nat)) (c : Nat) (s : Seen) : Option (Nat × Seen) := match x with
        | some none => some (c, s)
        | some (some m) => match parts k g m s with
          | some (j, s) => some (c + j, s)
          | none => none
        | none => none
      match arg g.a[n]? 1 s with
      | some (c, s) => match arg g.b[n]? c s with
        | some (c, s) =>
          let own : Option Nat := match g.kind[n]? with
            | some 6 => (match g.row[n]? with
              | some r => (whole k g r []).map fun p => p.1.length
              | none => none)
            | some _ => some 0
            | none => none
          match own with
          | some j => if c + j ≤ 2147483647 then some (min (c + j) 1000000, s.put n (min (c + j) 1000000)) else none
          | none => none
        | none => none
      | none => none
    | none => none
/-- A type as plain data. -/
inductive Ty
  | mk (kind n row : Nat) (ops : List Nm) (args : List Ty)
def Ty.kind : Ty → Nat | .mk k _ _ _ _ => k
structure Nams where
  t : List (Int × Nat)
  r : List (Int × Nat)
def lookI (n : Int) : List (Int × Nat) → Option Nat
  | [] => none
  | (m, v) :: r => if m = n then some v else lookI n r
/-- The number of a variable, a new one perhaps. -/
def numb (m : List (Int × Nat)) (n : Nat) : List (Int × Nat) × Nat := match lookI n m with
  | some k => (m, k)
  | none => (m ++ [((n : Int), m.length + 1)], m.length + 1)
def told : Nat → G → Nat → Nams → Option (Ty × Nams)
  | 0, _, _, _ => none
  | k + 1, g, n, l => match find k g n with
    | some n => match g.kind[n]? with
      | some 0 => if l.t.length < big then (let (t, c) := numb l.t n; some (.mk 0 c 0 [] [], { l with t := t })) else none
      | some kd =>
        let arg (x : Option (Option Nat)) (l : Nams) : Option (List Ty × Nams) := match x with
          | some none => some ([], l)
          | some (some m) => match told k g m l with
            | some (t, l) => some ([t], l)
            | none => none
          | none => none
        match arg g.a[n]? l with
        | some (ta, l) =>
          let rw : Option (List Nm × Nat × Nams) := if kd = 6 then (match g.row[n]? with
            | some r => (match whole k g r [] with
              | some (ops, 0) => some (ops, 0, l)
              | some (ops, v + 1) => if l.r.length < big then (let (t, c) := numb l.r (v + 1); some (ops, c, { l with r := t })) else none
              | none => none)
            | none => none) else some ([], 0, l)
          match rw with
          | some (ops, c, l) => match arg g.b[n]? l with
            | some (tb, l) => some (.mk kd 0 c ops (ta ++ tb), l)
            | none => none
          | none => none
        | none => none
      | none => none
    | none => none
/-- The node of a written type. -/
def ofT : Nat → G → Ty → Option (G × Nat)
  | 0, _, _ => none
  | k + 1, g, .mk kd n row ops args =>
    if kd = 0 then (match lookI n g.tv with
      | some m => some (g, m)
      | none => match g.var with
        | some (g, m) => some ({ g with tv := g.tv ++ [((n : Int), m)] }, m)
        | none => none)
    else
      let arg (g : G) (x : Option Ty) : Option (G × Option Nat) := match x with
        | none => some (g, none)
        | some t => match ofT k g t with
          | some (g, m) => some (g, some m)
          | none => none
      match arg g args[0]? with
      | some (g, a) => match arg g args[1]? with
        | some (g, b) =>
          if kd = 6 then
            let nx : Option (G × Nat) := if 0 < row then (match lookI row g.rv with
              | some m => some (g, m)
              | none => match g.opn with
                | some (g, m) => some ({ g with rv := g.rv ++ [((row : Int), m)] }, m)
                | none => none) else some (g, 0)
            match nx with
            | some (g, m) => match g.putRow ops (some m) with
              | some (g, r) => g.put kd a b r
              | none => none
            | none => none
          else g.put kd a b 0
        | none => none
      | none => none
end Go.Inf
set_option linter.unusedVariables false
set_option linter.unusedSimpArgs false
namespace Go.Urw
variable {K : Type}
abbrev Bag (K : Type) := K → Nat
def zb : Bag K := fun _ => 0
def add (a b : Bag K) : Bag K := fun k => a k + b k
def sub (a b : Bag K) : Bag K := fun k => a k - b k
inductive Tail
  | none
  | opn
  | row (r : Nat)
/-- A state: each row's own names, and what comes then. -/
structure St (K : Type) where
  o : Nat → Bag K
  nx : Nat → Tail
def Sat (σ : St K) (ρ : Nat → Bag K) : Prop := ∀ r, match σ.nx r with
  | .none => ρ r = σ.o r
  | .opn => True
  | .row q => ρ r = add (σ.o r) (ρ q)
/-- All names of a row, and its variable. -/
inductive Wh (σ : St K) : Nat → Bag K → Option Nat → Prop
  | none {r} (h : σ.nx r = .none) : Wh σ r (σ.o r) none
  | opn {r} (h : σ.nx r = .opn) : Wh σ r zb (some r)
  | row {r q b v} (h : σ.nx r = .row q) (k : Wh σ q b v) : Wh σ r (add (σ.o r) b) v
def ov (ρ : Nat → Bag K) : Option Nat → Bag K
  | none => zb
  | some v => ρ v
theorem add_zb (a : Bag K) : add a zb = a := by funext k; simp [add, zb]
theorem zb_add (a : Bag K) : add zb a = a := by funext k; simp [add, zb]
theorem add_assoc (a b c : Bag K) : add (add a b) c = add a (add b c) := by funext k; simp [add, Nat.add_assoc]
theorem Wh.sat {σ : St K} {r : Nat} {b : Bag K} {v : Option Nat} (h : Wh σ r b v) {ρ : Nat → Bag K} (hs : Sat σ ρ) : ρ r = add b (ov ρ v) := by
  induction h with
  | @none r h => have := hs r; rw [h] at this; rw [this]; exact (add_zb _).symm
  | opn h => exact (zb_add _).symm
  | @row r q b v h _ ih => have := hs r; rw [h] at this; rw [this, ih, add_assoc]
theorem Wh.det {σ : St K} {r : Nat} {b b' : Bag K} {v v' : Option Nat} (h : Wh σ r b v) (k : Wh σ r b' v') : b = b' ∧ v = v' := by
  induction h generalizing b' v' with
  | none h => cases k with
    | none _ => exact ⟨rfl, rfl⟩
    | opn k => rw [h] at k; cases k
    | row k _ => rw [h] at k; cases k
  | opn h => cases k with
    | none k => rw [h] at k; cases k
    | opn _ => exact ⟨rfl, rfl⟩
    | row k _ => rw [h] at k; cases k
  | row h _ ih => cases k with
    | none k => rw [h] at k; cases k
    | opn k => rw [h] at k; cases k
    | row k k2 => rw [h] at k; cases k; obtain ⟨rfl, rfl⟩ := ih k2; exact ⟨rfl, rfl⟩
theorem Wh.var {σ : St K} {r v : Nat} {b : Bag K} (h : Wh σ r b (some v)) : σ.nx v = .opn := by
  generalize e : some v = w at h
  induction h with
  | none _ => cases e
  | opn h => cases e; exact h
  | row _ _ ih => exact ih e
/-- No row comes behind itself. -/
def Ok (σ : St K) : Prop := ∀ r, ∃ b v, Wh σ r b v
/-- Whatever the variables stand for: a solution. -/
theorem Ok.ex {σ : St K} (h : Ok σ) (α : Nat → Bag K) : ∃ ρ, Sat σ ρ ∧ ∀ r b v, Wh σ r b v → ρ r = add b (ov α v) := by
  obtain ⟨B, hB⟩ : ∃ B : Nat → Bag K × Option Nat, ∀ r, Wh σ r (B r).1 (B r).2 := ⟨fun r => (Classical.choose (h r), Classical.choose (Classical.choose_spec (h r))), fun r => Classical.choose_spec (Classical.choose_spec (h r))⟩
  have key : ∀ r b v, Wh σ r b v → add (B r).1 (ov α (B r).2) = add b (ov α v) := fun r b v hw => by
    obtain ⟨e1, e2⟩ := (hB r).det hw
    rw [e2, e1]
  refine ⟨fun r => add (B r).1 (ov α (B r).2), fun r => ?_, key⟩
  show match σ.nx r with
    | .none => add (B r).1 (ov α (B r).2) = σ.o r
    | .opn => True
    | .row q => add (B r).1 (ov α (B r).2) = add (σ.o r) (add (B q).1 (ov α (B q).2))
  split
  · rename_i hn; rw [key r _ _ (.none hn)]; exact add_zb _
  · trivial
  · rename_i q hn
    rw [key r _ _ (.row hn (hB q)), add_assoc]
/-- A row variable stands for something. -/
def put (σ : St K) (v : Nat) (d : Bag K) (t : Tail) : St K := ⟨fun r => if r = v then d else σ.o r, fun r => if r = v then t else σ.nx r⟩
/-- What a state stands for: the rows that there were at first. -/
def Sol (σ : St K) (og : Nat → Prop) (ρ : Nat → Bag K) : Prop := ∃ ρ', (∀ r, og r → ρ' r = ρ r) ∧ Sat σ ρ'
theorem put_sat {σ : St K} {v : Nat} (hv : σ.nx v = .opn) {d : Bag K} {t : Tail} {ρ : Nat → Bag K} : Sat (put σ v d t) ρ ↔ Sat σ ρ ∧ match t with
  | .none => ρ v = d
  | .opn => True
  | .row q => ρ v = add d (ρ q) := by
  constructor
  · intro h
    refine ⟨fun r => ?_, ?_⟩
    · by_cases e : r = v
      · subst e; rw [hv]; trivial
      · have := h r; simp only [put, if_neg e] at this; exact this
    · have := h v; simp only [put, if_pos] at this; exact this
  · rintro ⟨h1, h2⟩ r
    by_cases e : r = v
    · subst e; simp only [put, if_pos]; exact h2
    · simp only [put, if_neg e]; exact h1 r
section
variable {σ : St K} {og : Nat → Prop} {r s : Nat} {a b : Bag K} {v w : Option Nat}
/-- One variable on both sides, or none: it holds, or it can't. -/
theorem same_var (hr : Wh σ r a v) (hs : Wh σ s b v) {ρ : Nat → Bag K} (h : Sat σ ρ) : ρ r = ρ s ↔ a = b := by
  rw [hr.sat h, hs.sat h]
  constructor
  · intro e; funext k; have := congrFun e k; simp only [add] at this; omega
  · intro e; rw [e]
/-- The first is closed. -/
theorem closed_no {w : Nat} (hr : Wh σ r a none) (hs : Wh σ s b (some w)) (hd : sub b a ≠ zb) {ρ : Nat → Bag K} (h : Sat σ ρ) : ρ r ≠ ρ s := fun e => by
  rw [hr.sat h, hs.sat h] at e
  refine hd (funext fun k => ?_)
  have := congrFun e k
  simp only [add, ov, zb, sub] at this ⊢; omega
theorem closed_yes {w : Nat} (hr : Wh σ r a none) (hs : Wh σ s b (some w)) (hd : sub b a = zb) {ρ : Nat → Bag K} : Sat (put σ w (sub a b) .none) ρ ↔ Sat σ ρ ∧ ρ r = ρ s := by
  rw [put_sat hs.var]
  refine and_congr_right fun h => ?_
  rw [hr.sat h, hs.sat h]
  constructor
  · intro e; funext k; have := congrFun e k; have hk := congrFun hd k; simp only [add, ov, zb, sub] at this hk ⊢; omega
  · intro e; funext k; have := congrFun e k; have hk := congrFun hd k; simp only [add, ov, zb, sub] at this hk ⊢; omega
/-- Two variables: a new one behind both. -/
theorem two_vars {v w x : Nat} (hr : Wh σ r a (some v)) (hs : Wh σ s b (some w)) (hvw : v ≠ w) (hx : σ.nx x = .opn) (hxv : x ≠ v) (hxw : x ≠ w) (hog : ¬ og x) (hfr : ∀ q, σ.nx q ≠ .row x) (ho : og r ∧ og s) {ρ : Nat → Bag K} :
    Sol (put (put σ v (sub b a) (.row x)) w (sub a b) (.row x)) og ρ ↔ Sol σ og ρ ∧ ρ r = ρ s := by
  have hw2 : (put σ v (sub b a) (.row x)).nx w = .opn := by simp only [put, if_neg (Ne.symm hvw)]; exact hs.var
  constructor
  · rintro ⟨ρ', h1, h2⟩
    obtain ⟨h3, h4⟩ := (put_sat hw2).1 h2
    obtain ⟨h5, h6⟩ := (put_sat hr.var).1 h3
    refine ⟨⟨ρ', h1, h5⟩, ?_⟩
    rw [← h1 r ho.1, ← h1 s ho.2, hr.sat h5, hs.sat h5]
    simp only [ov] at *
    rw [h6, h4]
    funext k; simp only [add, sub]; omega
  · rintro ⟨⟨ρ', h1, h5⟩, e⟩
    rw [← h1 r ho.1, ← h1 s ho.2, hr.sat h5, hs.sat h5] at e
    simp only [ov] at e
    have ek : ∀ k, a k + ρ' v k = b k + ρ' w k := fun k => congrFun e k
    refine ⟨fun q => if q = x then sub (ρ' v) (sub b a) else ρ' q, fun q hq => ?_, (put_sat hw2).2 ⟨(put_sat hr.var).2 ⟨fun q => ?_, ?_⟩, ?_⟩⟩
    · have : q ≠ x := fun e => hog (e ▸ hq)
      simp only [if_neg this]; exact h1 q hq
    · have hq := h5 q
      by_cases e1 : q = x
      · subst e1; rw [hx]; trivial
      · simp only [if_neg e1]
        split
        · rename_i hn; rw [hn] at hq; exact hq
        · trivial
        · rename_i p hn
          rw [hn] at hq
          have : p ≠ x := fun e2 => hfr q (by rw [hn, e2])
          rw [if_neg this]; exact hq
    · simp only [if_neg (Ne.symm hxv), if_true]
      funext k; have := ek k; simp only [add, sub]; omega
    · simp only [if_neg (Ne.symm hxw), if_true]
      funext k; have := ek k; simp only [add, sub]; omega
end
/-! ### What is told depends on the solutions alone -/
theorem tell {σ τ : St K} (hσ : Ok σ) (hτ : Ok τ) (k0 : K) {e d : Nat → Nat} {og : Nat → Prop} (h : ∀ ρ : Nat → Bag K, (∃ ρ', (∀ r, og r → ρ' (e r) = ρ r) ∧ Sat σ ρ') ↔ ∃ ρ', (∀ r, og r → ρ' (d r) = ρ r) ∧ Sat τ ρ')
    {r s : Nat} (hr : og r) (hs : og s) {a1 a2 b1 b2 : Bag K} {v1 v2 w1 w2 : Option Nat} (h1 : Wh σ (e r) a1 v1) (h2 : Wh τ (d r) a2 v2) (k1 : Wh σ (e s) b1 w1) (k2 : Wh τ (d s) b2 w2) :
    a1 = a2 ∧ (v1 = none ↔ v2 = none) ∧ (v1 = w1 → v2 = w2) := by
  have go : ∀ α : Nat → Bag K, ∃ β : Nat → Bag K, add a1 (ov α v1) = add a2 (ov β v2) ∧ add b1 (ov α w1) = add b2 (ov β w2) := fun α => by
    obtain ⟨ρ, hρ, hv⟩ := hσ.ex α
    obtain ⟨ρ', h3, h4⟩ := (h fun r => ρ (e r)).1 ⟨ρ, fun _ _ => rfl, hρ⟩
    exact ⟨ρ', by rw [← hv _ _ _ h1, ← h2.sat h4, h3 r hr], by rw [← hv _ _ _ k1, ← k2.sat h4, h3 s hs]⟩
  have back : ∀ β : Nat → Bag K, ∃ α : Nat → Bag K, add a1 (ov α v1) = add a2 (ov β v2) ∧ add b1 (ov α w1) = add b2 (ov β w2) := fun β => by
    obtain ⟨ρ, hρ, hv⟩ := hτ.ex β
    obtain ⟨ρ', h3, h4⟩ := (h fun r => ρ (d r)).2 ⟨ρ, fun _ _ => rfl, hρ⟩
    exact ⟨ρ', by rw [← hv _ _ _ h2, ← h1.sat h4, h3 r hr], by rw [← hv _ _ _ k2, ← k1.sat h4, h3 s hs]⟩
  have hz : ∀ v : Option Nat, ov (fun _ => (zb : Bag K)) v = zb := fun v => by cases v <;> rfl
  obtain ⟨β, p1, p2⟩ := go fun _ => zb
  obtain ⟨α, q1, q2⟩ := back fun _ => zb
  rw [hz, add_zb] at p1 p2
  rw [hz, add_zb] at q1 q2
  have ea : a1 = a2 := funext fun k => by have x := congrFun p1 k; have y := congrFun q1 k; simp only [add] at x y; omega
  have eb : b1 = b2 := funext fun k => by have x := congrFun p2 k; have y := congrFun q2 k; simp only [add] at x y; omega
  have ca : ∀ x y : Bag K, add a1 x = add a2 y → x = y := fun x y e => funext fun k => by have := congrFun e k; rw [ea] at this; simp only [add] at this; omega
  have cb : ∀ x y : Bag K, add b1 x = add b2 y → x = y := fun x y e => funext fun k => by have := congrFun e k; rw [eb] at this; simp only [add] at this; omega
  have one : (fun _ => 1 : Bag K) ≠ zb := fun e => by have := congrFun e k0; simp [zb] at this
  refine ⟨ea, ⟨fun e => ?_, fun e => ?_⟩, fun evw => ?_⟩
  · subst e
    cases v2 with
    | none => rfl
    | some v2 => obtain ⟨α, p, _⟩ := back fun _ _ => 1; exact absurd (ca _ _ p).symm one
  · subst e
    cases v1 with
    | none => rfl
    | some v1 => obtain ⟨β, p, _⟩ := go fun _ _ => 1; exact absurd (ca _ _ p) one
  · subst evw
    by_cases hne : v2 = w2
    · exact hne
    · exfalso
      have key : ∀ β : Nat → Bag K, ov β v2 = ov β w2 := fun β => by
        obtain ⟨α, p, q⟩ := back β
        rw [← ca _ _ p, ← cb _ _ q]
      cases v2 with
      | none => cases w2 with
        | none => exact hne rfl
        | some w => exact one (key fun _ _ => 1).symm
      | some v => cases w2 with
        | none => exact one (key fun _ _ => 1)
        | some w =>
          have := key fun q => if q = v then (fun _ => 1) else zb
          simp only [ov, if_true] at this
          rw [if_neg (fun e => hne (by rw [e]))] at this
          exact one this
end Go.Urw
set_option linter.unusedVariables false
set_option linter.unusedSimpArgs false
namespace Go.Slv
open Go.Inf Go.Urw
theorem bLess_eq : ∀ x y : List UInt8, Go.Op.bytesLess x y = decide (x < y)
  | [], [] => by simp [Go.Op.bytesLess]
  | [], b :: y => by simp [Go.Op.bytesLess]
  | a :: x, [] => by simp [Go.Op.bytesLess]
  | a :: x, b :: y => by
    have ih := bLess_eq x y
    rw [Bool.eq_iff_iff]
    simp only [Go.Op.bytesLess, ih, Bool.or_eq_true, Bool.and_eq_true, decide_eq_true_eq, beq_iff_eq, List.cons_lt_cons_iff]
theorem eqN_iff {a b : Nm} : eqN a b = true ↔ a = b := by
  constructor
  · intro h; have := eq_of_beq h; exact ByteArray.ext (Array.toList_inj.1 this)
  · rintro rfl; exact beq_self_eq_true _
theorem leN_iff {a b : Nm} : leN a b = true ↔ a.data.toList ≤ b.data.toList := by
  unfold leN
  rw [bLess_eq]
  simp only [Bool.or_eq_true, decide_eq_true_eq, beq_iff_eq]
  exact List.le_iff_lt_or_eq.symm
theorem leN_refl (a : Nm) : leN a a = true := leN_iff.2 (List.le_refl _)
theorem leN_trans {a b c : Nm} (h : leN a b = true) (k : leN b c = true) : leN a c = true := leN_iff.2 (List.le_trans (leN_iff.1 h) (leN_iff.1 k))
theorem leN_total (a b : Nm) : leN a b = true ∨ leN b a = true := (List.le_total _ _).imp leN_iff.2 leN_iff.2
theorem leN_anti {a b : Nm} (h : leN a b = true) (k : leN b a = true) : a = b := ByteArray.ext (Array.toList_inj.1 (List.le_antisymm (leN_iff.1 h) (leN_iff.1 k)))
def bag (l : List Nm) : Bag Nm := fun k => l.countP fun x => eqN x k
theorem bag_nil : bag [] = zb := rfl
theorem bag_app (l m : List Nm) : bag (l ++ m) = add (bag l) (bag m) := by funext k; simp [bag, add]
theorem bag_cons (x : Nm) (l : List Nm) (k : Nm) : bag (x :: l) k = bag l k + if eqN x k = true then 1 else 0 := by simp only [bag, List.countP_cons]
theorem bag_self (x : Nm) (l : List Nm) : bag (x :: l) x = bag l x + 1 := by rw [bag_cons, if_pos (eqN_iff.2 rfl)]
theorem bag_zb {l : List Nm} : bag l = zb ↔ l = [] := by
  constructor
  · intro h
    cases l with
    | nil => rfl
    | cons x l => have := congrFun h x; rw [bag_self] at this; simp [zb] at this
  · rintro rfl; rfl
theorem bag_perm {l m : List Nm} (h : l.Perm m) : bag l = bag m := by funext k; exact h.countP_eq _
abbrev Srt (l : List Nm) : Prop := l.Pairwise (fun a b => leN a b = true)
theorem bag_mem {l : List Nm} {x : Nm} : 0 < bag l x ↔ x ∈ l := by
  unfold bag
  rw [List.countP_pos_iff]
  constructor
  · rintro ⟨a, ha, h⟩; rw [← eqN_iff.1 h]; exact ha
  · intro h; exact ⟨x, h, eqN_iff.2 rfl⟩
/-- Lists in order that are the same bag are the same. -/
theorem srt_eq {l m : List Nm} (hl : Srt l) (hm : Srt m) (h : bag l = bag m) : l = m := by
  induction l generalizing m with
  | nil => exact (bag_zb.1 h.symm).symm
  | cons x l ih =>
    cases m with
    | nil => exact absurd (bag_zb.1 h) (by simp)
    | cons y m =>
      have hx : x ∈ y :: m := bag_mem.1 (by rw [← h, bag_self]; omega)
      have hy : y ∈ x :: l := bag_mem.1 (by rw [h, bag_self]; omega)
      have e : x = y := by
        rcases List.mem_cons.1 hx with e | hx
        · exact e
        rcases List.mem_cons.1 hy with e | hy
        · exact e.symm
        exact leN_anti ((List.pairwise_cons.1 hl).1 y hy) ((List.pairwise_cons.1 hm).1 x hx)
      subst e
      rw [ih (List.pairwise_cons.1 hl).2 (List.pairwise_cons.1 hm).2 (funext fun k => by have := congrFun h k; rw [bag_cons, bag_cons] at this; omega)]
theorem putN_perm (l : List Nm) (s : Nm) : (putN l s).Perm (s :: l) := by
  induction l with
  | nil => exact .refl _
  | cons x l ih =>
    unfold putN
    split
    · exact (List.Perm.cons x ih).trans (.swap s x l)
    · exact .refl _
theorem putN_srt {l : List Nm} (h : Srt l) (s : Nm) : Srt (putN l s) := by
  induction l with
  | nil => simp [putN, Srt]
  | cons x l ih =>
    unfold putN
    split
    · rename_i hx
      refine List.pairwise_cons.2 ⟨fun y hy => ?_, ih (List.pairwise_cons.1 h).2⟩
      rcases List.mem_cons.1 ((putN_perm l s).mem_iff.1 hy) with rfl | q
      · exact hx
      · exact (List.pairwise_cons.1 h).1 y q
    · rename_i hx
      have hs : leN s x = true := (leN_total s x).resolve_right hx
      refine List.pairwise_cons.2 ⟨fun y hy => ?_, h⟩
      rcases List.mem_cons.1 hy with rfl | q
      · exact hs
      · exact leN_trans hs ((List.pairwise_cons.1 h).1 y q)
theorem putAll_perm (l m : List Nm) : (putAll l m).Perm (l ++ m) := by
  induction m generalizing l with
  | nil => rw [List.append_nil]; exact .refl _
  | cons s m ih =>
    unfold putAll
    refine (ih _).trans (((putN_perm l s).append_right m).trans ?_)
    exact List.perm_middle.symm
theorem putAll_srt {l : List Nm} (h : Srt l) (m : List Nm) : Srt (putAll l m) := by
  induction m generalizing l with
  | nil => exact h
  | cons s m ih => exact ih (putN_srt h s)
theorem putAll_putAll (l m n : List Nm) : putAll (putAll l m) n = putAll l (m ++ n) := by
  induction m generalizing l with
  | nil => rfl
  | cons s m ih => exact ih _
/-- The program's sorting tells the same. -/
theorem srt_putAll {l m : List Nm} (h : Srt m) (hp : m.Perm l) : m = putAll [] l :=
  srt_eq h (putAll_srt .nil l) (by rw [bag_perm hp, bag_perm (putAll_perm [] l)]; rfl)
/-! ### less -/
def fr (us : List (Nm × Bool)) : Bag Nm := fun k => us.countP fun p => !p.2 && eqN p.1 k
theorem first_none {s : Nm} {us : List (Nm × Bool)} (h : firstN s us = none) : fr us s = 0 := by
  induction us with
  | nil => rfl
  | cons p us ih =>
    obtain ⟨x, u⟩ := p
    unfold firstN at h
    split at h
    · cases h
    · rename_i hc
      have := ih (by cases hf : firstN s us with | none => rfl | some q => rw [hf] at h; cases h)
      simp only [fr, List.countP_cons] at this ⊢
      rw [this, if_neg hc]
theorem first_some {s : Nm} {us : List (Nm × Bool)} {j : Nat} (h : firstN s us = some j) : ∀ k, fr us k = fr (us.set j (s, true)) k + if eqN s k = true then 1 else 0 := by
  induction us generalizing j with
  | nil => cases h
  | cons p us ih =>
    obtain ⟨x, u⟩ := p
    intro k
    unfold firstN at h
    split at h
    · rename_i hc
      cases h
      simp only [Bool.and_eq_true, Bool.not_eq_true'] at hc
      have := eqN_iff.1 hc.2
      subst this
      simp only [fr, List.set_cons_zero, List.countP_cons, hc.1]
      simp
    · cases hf : firstN s us with
      | none => rw [hf] at h; cases h
      | some q =>
        rw [hf] at h; cases h
        have := ih hf k
        simp only [fr, List.set_cons_succ, List.countP_cons] at this ⊢
        omega
theorem lessG_bag (a : List Nm) (us : List (Nm × Bool)) (k : Nm) : bag (lessG a us) k = bag a k - fr us k := by
  induction a generalizing us with
  | nil => simp [lessG, bag]
  | cons s a ih =>
    unfold lessG
    split
    · rename_i h
      rw [bag_cons, bag_cons, ih]
      by_cases e : eqN s k = true
      · rw [if_pos e]; have := eqN_iff.1 e; subst this; rw [first_none h]; omega
      · rw [if_neg e]; omega
    · rename_i j h
      rw [ih, bag_cons, first_some h k]
      by_cases e : eqN s k = true
      · rw [if_pos e]; omega
      · rw [if_neg e]; omega
theorem less_bag (a b : List Nm) : bag (less a b) = sub (bag a) (bag b) := by
  funext k
  unfold less
  rw [lessG_bag]
  simp [fr, sub, bag, List.countP_map, Function.comp_def]
theorem lessG_sub (a : List Nm) (us : List (Nm × Bool)) : (lessG a us).Sublist a := by
  induction a generalizing us with
  | nil => exact .slnil
  | cons s a ih =>
    unfold lessG
    split
    · exact (ih _).cons_cons _
    · exact (ih _).cons _
theorem less_sub (a b : List Nm) : (less a b).Sublist a := lessG_sub a _
theorem less_srt {a : List Nm} (h : Srt a) (b : List Nm) : Srt (less a b) := h.sublist (less_sub a b)
theorem less_le (a b : List Nm) : (less a b).length ≤ a.length := (less_sub a b).length_le
theorem less_emp {a b : List Nm} : (less a b).isEmpty = true ↔ sub (bag a) (bag b) = zb := by rw [← less_bag, bag_zb, List.isEmpty_iff]
/-! ### The program's differ -/
def differ : List Nm → List Nm → List Nm × List Nm
  | [], b => ([], b)
  | a, [] => (a, [])
  | x :: a, y :: b =>
    if eqN x y then differ a b
    else if leN x y then let d := differ a (y :: b); (x :: d.1, d.2)
    else let d := differ (x :: a) b; (d.1, y :: d.2)
termination_by a b => a.length + b.length
theorem bag_above {x : Nm} {l : List Nm} (h : ∀ y ∈ l, leN y x = true → False) : bag l x = 0 := by
  rcases Nat.eq_zero_or_pos (bag l x) with q | q
  · exact q
  · exact (h x (bag_mem.1 q) (leN_refl x)).elim
theorem differ_bag {a b : List Nm} (ha : Srt a) (hb : Srt b) (k : Nm) : bag (differ a b).1 k = bag a k - bag b k ∧ bag (differ a b).2 k = bag b k - bag a k := by
  induction a, b using differ.induct with
  | case1 b => simp [differ, bag]
  | case2 a h =>
    cases a with
    | nil => exact (h rfl).elim
    | cons x a => simp [differ, bag]
  | case3 x a y b e ih =>
    rw [differ, if_pos e]
    have := eqN_iff.1 e
    subst this
    obtain ⟨h1, h2⟩ := ih (List.pairwise_cons.1 ha).2 (List.pairwise_cons.1 hb).2
    rw [h1, h2, bag_cons, bag_cons]
    omega
  | case4 x a y b e l ih =>
    rw [differ, if_neg e, if_pos l]
    obtain ⟨h1, h2⟩ := ih (List.pairwise_cons.1 ha).2 hb
    have hx : bag (y :: b) x = 0 := bag_above fun z hz hzx => by
      have hyz : leN y z = true := by
        rcases List.mem_cons.1 hz with rfl | q
        · exact leN_refl _
        · exact (List.pairwise_cons.1 hb).1 z q
      exact e (eqN_iff.2 (leN_anti l (leN_trans hyz hzx)))
    simp only [bag_cons x, h1, h2]
    by_cases q : eqN x k = true
    · have := eqN_iff.1 q; subst this; rw [if_pos q]; omega
    · rw [if_neg q]; omega
  | case5 x a y b e l ih =>
    rw [differ, if_neg e, if_neg l]
    obtain ⟨h1, h2⟩ := ih ha (List.pairwise_cons.1 hb).2
    have l2 : leN y x = true := (leN_total x y).resolve_left l
    have hx : bag (x :: a) y = 0 := bag_above fun z hz hzx => by
      have hyz : leN x z = true := by
        rcases List.mem_cons.1 hz with rfl | q
        · exact leN_refl _
        · exact (List.pairwise_cons.1 ha).1 z q
      exact l (leN_trans hyz hzx)
    simp only [bag_cons y, h1, h2]
    by_cases q : eqN y k = true
    · have := eqN_iff.1 q; subst this; rw [if_pos q]; omega
    · rw [if_neg q]; omega
theorem differ_sub (a b : List Nm) : (differ a b).1.Sublist a ∧ (differ a b).2.Sublist b := by
  induction a, b using differ.induct with
  | case1 b => rw [differ]; exact ⟨.slnil, .refl _⟩
  | case2 a h =>
    cases a with
    | nil => exact (h rfl).elim
    | cons x a => simp [differ]
  | case3 x a y b e ih => rw [differ, if_pos e]; exact ⟨ih.1.cons _, ih.2.cons _⟩
  | case4 x a y b e l ih => rw [differ, if_neg e, if_pos l]; exact ⟨ih.1.cons_cons _, ih.2⟩
  | case5 x a y b e l ih => rw [differ, if_neg e, if_neg l]; exact ⟨ih.1, ih.2.cons_cons _⟩
theorem differ_less {a b : List Nm} (ha : Srt a) (hb : Srt b) : differ a b = (less a b, less b a) := by
  have h1 : (differ a b).1 = less a b := srt_eq (ha.sublist (differ_sub a b).1) (less_srt ha b) (by rw [less_bag]; funext k; exact (differ_bag ha hb k).1)
  have h2 : (differ a b).2 = less b a := srt_eq (hb.sublist (differ_sub a b).2) (less_srt hb a) (by rw [less_bag]; funext k; exact (differ_bag ha hb k).2)
  rw [← h1, ← h2]
end Go.Slv
set_option linter.unusedVariables false
set_option linter.unusedSimpArgs false
namespace Go.Ucl
/-- What does not change: nodes with kinds, parts and perhaps a row. -/
structure Gr where
  var : Nat → Prop
  kd : Nat → Nat
  kids : Nat → List Nat
  row : Nat → Option Nat
  /-- Nodes of one kind have as many parts. -/
  ar : ∀ x y, ¬ var x → ¬ var y → kd x = kd y → (kids x).length = (kids y).length ∧ (row x).isSome = (row y).isSome
abbrev Rel := Nat → Nat → Prop
structure Eqv (E : Rel) : Prop where
  refl : ∀ x, E x x
  symm : ∀ x y, E x y → E y x
  trans : ∀ x y z, E x y → E y z → E x z
def join (E : Rel) (a b : Nat) : Rel := fun x y => E x y ∨ (E x a ∧ E b y) ∨ (E x b ∧ E a y)
theorem join_eqv {E : Rel} (h : Eqv E) (a b : Nat) : Eqv (join E a b) := by
  refine ⟨fun x => .inl (h.refl x), fun x y => ?_, fun x y z => ?_⟩
  · rintro (q | ⟨q, r⟩ | ⟨q, r⟩)
    · exact .inl (h.symm _ _ q)
    · exact .inr (.inr ⟨h.symm _ _ r, h.symm _ _ q⟩)
    · exact .inr (.inl ⟨h.symm _ _ r, h.symm _ _ q⟩)
  · rintro (q | ⟨q, r⟩ | ⟨q, r⟩) (s | ⟨s, t⟩ | ⟨s, t⟩)
    · exact .inl (h.trans _ _ _ q s)
    · exact .inr (.inl ⟨h.trans _ _ _ q s, t⟩)
    · exact .inr (.inr ⟨h.trans _ _ _ q s, t⟩)
    · exact .inr (.inl ⟨q, h.trans _ _ _ r s⟩)
    · exact .inr (.inl ⟨q, t⟩)
    · exact .inl (h.trans _ _ _ q t)
    · exact .inr (.inr ⟨q, h.trans _ _ _ r s⟩)
    · exact .inl (h.trans _ _ _ q t)
    · exact .inr (.inr ⟨q, t⟩)
theorem join_sub {E F : Rel} (hF : Eqv F) (hE : ∀ x y, E x y → F x y) {a b : Nat} (hab : F a b) : ∀ x y, join E a b x y → F x y := by
  rintro x y (q | ⟨q, r⟩ | ⟨q, r⟩)
  · exact hE _ _ q
  · exact hF.trans _ _ _ (hE _ _ q) (hF.trans _ _ _ hab (hE _ _ r))
  · exact hF.trans _ _ _ (hE _ _ q) (hF.trans _ _ _ (hF.symm _ _ hab) (hE _ _ r))
/-- What is to be done. -/
inductive Tk
  | ty (a b : Nat)
  | rw (r s : Nat)
variable {V : Type}
def Tk.holds (F : Rel) (ρ : Nat → V) : Tk → Prop
  | .ty a b => F a b
  | .rw r s => ρ r = ρ s
def kts (g : Gr) (x y : Nat) : List Tk := (List.zip (g.kids x) (g.kids y)).map (fun p => Tk.ty p.1 p.2) ++ match g.row x, g.row y with
  | some r, some s => [.rw r s]
  | _, _ => []
/-- A run. -/
inductive Run (g : Gr) : Rel → ((Nat → V) → Prop) → List Tk → Bool → Rel → ((Nat → V) → Prop) → Prop
  | nil (E S) : Run g E S [] true E S
  | eq {E S a b ts r E' S'} (h : E a b) (k : Run g E S ts r E' S') : Run g E S (.ty a b :: ts) r E' S'
  | var {E S a b ts r E' S'} (h : (∀ x, E a x → g.var x) ∨ ∀ y, E b y → g.var y) (k : Run g (join E a b) S ts r E' S') : Run g E S (.ty a b :: ts) r E' S'
  | clash {E S a b ts x y} (hx : E a x) (hy : E b y) (vx : ¬ g.var x) (vy : ¬ g.var y) (hk : g.kd x ≠ g.kd y) : Run g E S (.ty a b :: ts) false E S
  | node {E S a b ts r E' S' x y} (hx : E a x) (hy : E b y) (vx : ¬ g.var x) (vy : ¬ g.var y) (hk : g.kd x = g.kd y) (k : Run g (join E a b) S (kts g x y ++ ts) r E' S') : Run g E S (.ty a b :: ts) r E' S'
  | rowOk {E S p q ts r E' S'} (k : Run g E (fun ρ => S ρ ∧ ρ p = ρ q) ts r E' S') : Run g E S (.rw p q :: ts) r E' S'
  | rowNo {E S p q ts} (h : ∀ ρ, S ρ → ρ p ≠ ρ q) : Run g E S (.rw p q :: ts) false E S
/-- Two nodes' parts are alike. -/
def Alike (g : Gr) (F : Rel) (ρ : Nat → V) (x y : Nat) : Prop := ∀ t ∈ kts g x y, t.holds F ρ
theorem alike_iff {g : Gr} {F : Rel} {ρ : Nat → V} {x y : Nat} : Alike g F ρ x y ↔ (∀ (i a b : Nat), (g.kids x)[i]? = some a → (g.kids y)[i]? = some b → F a b) ∧ ∀ r s, g.row x = some r → g.row y = some s → ρ r = ρ s := by
  unfold Alike kts
  constructor
  · intro h
    refine ⟨fun i a b ha hb => ?_, fun r s hr hs => ?_⟩
    · have : (a, b) ∈ List.zip (g.kids x) (g.kids y) := List.mem_of_getElem? (i := i) (by rw [List.getElem?_zip_eq_some]; exact ⟨ha, hb⟩)
      exact h (.ty a b) (List.mem_append_left _ (List.mem_map.2 ⟨_, this, rfl⟩))
    · exact h (.rw r s) (List.mem_append_right _ (by rw [hr, hs]; simp))
  · rintro ⟨h1, h2⟩ t ht
    rcases List.mem_append.1 ht with q | q
    · obtain ⟨⟨a, b⟩, hp, rfl⟩ := List.mem_map.1 q
      obtain ⟨i, hi⟩ := List.getElem?_of_mem hp
      rw [List.getElem?_zip_eq_some] at hi
      exact h1 i a b hi.1 hi.2
    · split at q
      · rename_i r s hr hs
        rw [List.mem_singleton.1 q]; exact h2 r s hr hs
      · cases q
structure Sol (g : Gr) (F : Rel) (ρ : Nat → V) : Prop where
  eqv : Eqv F
  kd : ∀ x y, ¬ g.var x → ¬ g.var y → F x y → g.kd x = g.kd y
  al : ∀ x y, ¬ g.var x → ¬ g.var y → F x y → Alike g F ρ x y
/-- Whatever makes all the same holds what the run tells; and the run does not fail. -/
theorem Run.least {g : Gr} {E E' : Rel} {S S' : (Nat → V) → Prop} {ts : List Tk} {r : Bool} (h : Run g E S ts r E' S') {F : Rel} {ρ : Nat → V} (hF : Sol g F ρ) (hE : ∀ x y, E x y → F x y) (hS : S ρ) (ht : ∀ t ∈ ts, t.holds F ρ) : r = true ∧ (∀ x y, E' x y → F x y) ∧ S' ρ := by
  induction h with
  | nil => exact ⟨rfl, hE, hS⟩
  | eq _ _ ih => exact ih hE hS fun t h => ht t (.tail _ h)
  | var _ _ ih => exact ih (join_sub hF.eqv hE (ht _ (.head _))) hS fun t h => ht t (.tail _ h)
  | clash hx hy vx vy hk =>
    have hab := ht _ (.head _)
    exact absurd (hF.kd _ _ vx vy (hF.eqv.trans _ _ _ (hF.eqv.symm _ _ (hE _ _ hx)) (hF.eqv.trans _ _ _ hab (hE _ _ hy)))) hk
  | node hx hy vx vy hk _ ih =>
    have hab := ht _ (.head _)
    refine ih (join_sub hF.eqv hE hab) hS fun t h => ?_
    rcases List.mem_append.1 h with q | q
    · exact hF.al _ _ vx vy (hF.eqv.trans _ _ _ (hF.eqv.symm _ _ (hE _ _ hx)) (hF.eqv.trans _ _ _ hab (hE _ _ hy))) t q
    · exact ht t (.tail _ q)
  | rowOk _ ih => exact ih hE ⟨hS, ht _ (.head _)⟩ fun t h => ht t (.tail _ h)
  | rowNo h => exact absurd (ht _ (.head _)) (h _ hS)
/-- Closed but for what is to be done. -/
structure Upto (g : Gr) (E : Rel) (S : (Nat → V) → Prop) (ts : List Tk) : Prop where
  eqv : Eqv E
  kd : ∀ x y, ¬ g.var x → ¬ g.var y → E x y → g.kd x = g.kd y
  al : ∀ F ρ, Eqv F → (∀ x y, E x y → F x y) → S ρ → (∀ t ∈ ts, t.holds F ρ) → ∀ x y, ¬ g.var x → ¬ g.var y → E x y → Alike g F ρ x y
theorem Alike.trans {g : Gr} {F : Rel} {ρ : Nat → V} (hF : Eqv F) {x y z : Nat} (vx : ¬ g.var x) (vy : ¬ g.var y) (hk : g.kd x = g.kd y) (h : Alike g F ρ x y) (k : Alike g F ρ y z) : Alike g F ρ x z := by
  rw [alike_iff] at *
  have har := g.ar x y vx vy hk
  refine ⟨fun i a b ha hb => ?_, fun r s hr hs => ?_⟩
  · have hi := (List.getElem?_eq_some_iff.1 ha).1
    rw [har.1] at hi
    exact hF.trans _ _ _ (h.1 i a _ ha (List.getElem?_eq_getElem hi)) (k.1 i _ b (List.getElem?_eq_getElem hi) hb)
  · have h2 := har.2
    rw [hr] at h2
    obtain ⟨p, hp⟩ := Option.isSome_iff_exists.1 h2.symm
    exact (h.2 r p hr hp).trans (k.2 p s hp hs)
theorem Run.closed {g : Gr} {E E' : Rel} {S S' : (Nat → V) → Prop} {ts : List Tk} {r : Bool} (h : Run g E S ts r E' S') (hr : r = true) (hU : Upto g E S ts) : Upto g E' S' [] ∧ (∀ x y, E x y → E' x y) ∧ (∀ ρ, S' ρ → S ρ) ∧ ∀ ρ, S' ρ → ∀ t ∈ ts, t.holds E' ρ := by
  induction h with
  | nil => exact ⟨hU, fun _ _ h => h, fun _ h => h, fun _ _ t h => by cases h⟩
  | @eq E S a b ts r E' S' hab _ ih =>
    obtain ⟨h1, h2, h3, h4⟩ := ih hr ⟨hU.eqv, hU.kd, fun F ρ hF hE hS ht => hU.al F ρ hF hE hS fun t h => by
      rcases List.mem_cons.1 h with rfl | q
      · exact hE _ _ hab
      · exact ht t q⟩
    refine ⟨h1, h2, h3, fun ρ hρ t h => ?_⟩
    rcases List.mem_cons.1 h with rfl | q
    · exact h2 _ _ hab
    · exact h4 ρ hρ t q
  | @var E S a b ts r E' S' hv _ ih =>
    have hj : join E a b a b := .inr (.inl ⟨hU.eqv.refl a, hU.eqv.refl b⟩)
    have old : ∀ x y, ¬ g.var x → ¬ g.var y → join E a b x y → E x y := fun x y vx vy h => by
      rcases h with q | ⟨q, s⟩ | ⟨q, s⟩
      · exact q
      · rcases hv with hv | hv
        · exact absurd (hv x (hU.eqv.symm _ _ q)) vx
        · exact absurd (hv y s) vy
      · rcases hv with hv | hv
        · exact absurd (hv y s) vy
        · exact absurd (hv x (hU.eqv.symm _ _ q)) vx
    obtain ⟨h1, h2, h3, h4⟩ := ih hr ⟨join_eqv hU.eqv a b, fun x y vx vy h => hU.kd x y vx vy (old x y vx vy h), fun F ρ hF hE hS ht x y vx vy h => hU.al F ρ hF (fun x y h => hE x y (.inl h)) hS (fun t h => by
      rcases List.mem_cons.1 h with rfl | q
      · exact hE _ _ hj
      · exact ht t q) x y vx vy (old x y vx vy h)⟩
    refine ⟨h1, fun x y h => h2 x y (.inl h), h3, fun ρ hρ t h => ?_⟩
    rcases List.mem_cons.1 h with rfl | q
    · exact h2 _ _ hj
    · exact h4 ρ hρ t q
  | clash => cases hr
  | @node E S a b ts r E' S' x y hx hy vx vy hk _ ih =>
    have hj : join E a b a b := .inr (.inl ⟨hU.eqv.refl a, hU.eqv.refl b⟩)
    have kk : ∀ u v, ¬ g.var u → ¬ g.var v → join E a b u v → g.kd u = g.kd v := fun u v vu vv h => by
      rcases h with q | ⟨q, s⟩ | ⟨q, s⟩
      · exact hU.kd u v vu vv q
      · rw [hU.kd u x vu vx (hU.eqv.trans _ _ _ q hx), hk, hU.kd y v vy vv (hU.eqv.trans _ _ _ (hU.eqv.symm _ _ hy) s)]
      · rw [hU.kd u y vu vy (hU.eqv.trans _ _ _ q hy), ← hk, hU.kd x v vx vv (hU.eqv.trans _ _ _ (hU.eqv.symm _ _ hx) s)]
    obtain ⟨h1, h2, h3, h4⟩ := ih hr ⟨join_eqv hU.eqv a b, kk, fun F ρ hF hE hS ht u v vu vv h => by
      have hal : ∀ p q, ¬ g.var p → ¬ g.var q → E p q → Alike g F ρ p q := hU.al F ρ hF (fun x y h => hE x y (.inl h)) hS fun t h => by
        rcases List.mem_cons.1 h with rfl | q
        · exact hE _ _ hj
        · exact ht t (List.mem_append_right _ q)
      have hxy : Alike g F ρ x y := fun t h => ht t (List.mem_append_left _ h)
      have hyx : Alike g F ρ y x := by
        rw [alike_iff] at hxy ⊢
        exact ⟨fun i a b ha hb => hF.symm _ _ (hxy.1 i b a hb ha), fun r s hr hs => (hxy.2 s r hs hr).symm⟩
      rcases h with q | ⟨q, s⟩ | ⟨q, s⟩
      · exact hal u v vu vv q
      · have e1 := hU.eqv.trans _ _ _ q hx
        have e2 := hU.eqv.trans _ _ _ (hU.eqv.symm _ _ hy) s
        exact (hal u x vu vx e1).trans hF vu vx (hU.kd u x vu vx e1) (hxy.trans hF vx vy hk (hal y v vy vv e2))
      · have e1 := hU.eqv.trans _ _ _ q hy
        have e2 := hU.eqv.trans _ _ _ (hU.eqv.symm _ _ hx) s
        exact (hal u y vu vy e1).trans hF vu vy (hU.kd u y vu vy e1) (hyx.trans hF vy vx hk.symm (hal x v vx vv e2))⟩
    refine ⟨h1, fun x y h => h2 x y (.inl h), h3, fun ρ hρ t h => ?_⟩
    rcases List.mem_cons.1 h with rfl | q
    · exact h2 _ _ hj
    · exact h4 ρ hρ t (List.mem_append_right _ q)
  | @rowOk E S p q ts r E' S' _ ih =>
    obtain ⟨h1, h2, h3, h4⟩ := ih hr ⟨hU.eqv, hU.kd, fun F ρ hF hE hS ht => hU.al F ρ hF hE hS.1 fun t h => by
      rcases List.mem_cons.1 h with rfl | q
      · exact hS.2
      · exact ht t q⟩
    refine ⟨h1, h2, fun ρ h => (h3 ρ h).1, fun ρ hρ t h => ?_⟩
    rcases List.mem_cons.1 h with rfl | q
    · exact (h3 ρ hρ).2
    · exact h4 ρ hρ t q
  | rowNo => cases hr
theorem Upto.sol {g : Gr} {E : Rel} {S : (Nat → V) → Prop} (h : Upto g E S []) {ρ : Nat → V} (hρ : S ρ) : Sol g E ρ :=
  ⟨h.eqv, h.kd, fun x y vx vy e => h.al E ρ h.eqv (fun _ _ h => h) hρ (fun t h => by cases h) x y vx vy e⟩
/-- Two runs over the same tell the same, if what one leaves has a solution of its rows. -/
theorem Run.both {g : Gr} {E E1 E2 : Rel} {S S1 S2 : (Nat → V) → Prop} {ts : List Tk} {r1 r2 : Bool} (h1 : Run g E S ts r1 E1 S1) (h2 : Run g E S ts r2 E2 S2) (hU : Upto g E S ts) (n1 : r1 = true → ∃ ρ, S1 ρ) (n2 : r2 = true → ∃ ρ, S2 ρ) :
    r1 = r2 ∧ (r1 = true → (∀ x y, E1 x y ↔ E2 x y) ∧ ∀ ρ, S1 ρ ↔ S2 ρ) := by
  have side : ∀ {ra rb : Bool} {Ea Eb : Rel} {Sa Sb : (Nat → V) → Prop}, Run g E S ts ra Ea Sa → Run g E S ts rb Eb Sb → ra = true → (∃ ρ, Sa ρ) → rb = true ∧ (∀ x y, Eb x y → Ea x y) ∧ ∀ ρ, Sa ρ → Sb ρ := fun {ra rb Ea Eb Sa Sb} ha hb hra hne => by
    obtain ⟨c1, c2, c3, c4⟩ := ha.closed hra hU
    have key := fun ρ hρ => hb.least (c1.sol (ρ := ρ) hρ) c2 (c3 ρ hρ) (c4 ρ hρ)
    obtain ⟨ρ, hρ⟩ := hne
    exact ⟨(key ρ hρ).1, (key ρ hρ).2.1, fun ρ hρ => (key ρ hρ).2.2⟩
  cases r1 with
  | true =>
    obtain ⟨a, b, c⟩ := side h1 h2 rfl (n1 rfl)
    obtain ⟨_, b2, c2⟩ := side h2 h1 a (n2 a)
    exact ⟨a.symm, fun _ => ⟨fun x y => ⟨b2 x y, b x y⟩, fun ρ => ⟨c ρ, c2 ρ⟩⟩⟩
  | false =>
    cases r2 with
    | true => exact absurd (side h2 h1 rfl (n2 rfl)).1 (by decide)
    | false => exact ⟨rfl, fun h => by cases h⟩
end Go.Ucl
set_option linter.unusedVariables false
set_option linter.unusedSimpArgs false
namespace Go.Slv
open Go.Inf Go.Urw
/-- Answers r, with enough fuel. -/
def Ev {α : Type} (f : Nat → Option α) (r : α) : Prop := ∃ k0, ∀ k, k0 ≤ k → f k = some r
theorem Ev.step {α : Type} {f F : Nat → Option α} {r : α} (h : ∀ k, f (k + 1) = F k) (e : Ev F r) : Ev f r := by
  obtain ⟨k0, hk⟩ := e
  refine ⟨k0 + 1, fun k h1 => ?_⟩
  obtain ⟨m, rfl⟩ : ∃ m, k = m + 1 := ⟨k - 1, by omega⟩
  rw [h]; exact hk m (by omega)
theorem Ev.pure {α : Type} (r : α) : Ev (fun _ => some r) r := ⟨0, fun _ _ => rfl⟩
theorem Ev.of {α β : Type} {f : Nat → Option β} {F : Nat → Option α} {r : α} {b : β} (h : Ev F r) (e : ∀ k, F k = some r → f k = some b) : Ev f b := by
  obtain ⟨k0, hk⟩ := h
  exact ⟨k0, fun k h1 => e k (hk k h1)⟩
theorem Ev.and {α β : Type} {f : Nat → Option α} {g : Nat → Option β} {a : α} {b : β} (h : Ev f a) (k : Ev g b) : ∃ k0, ∀ k, k0 ≤ k → f k = some a ∧ g k = some b := by
  obtain ⟨p, hp⟩ := h
  obtain ⟨q, hq⟩ := k
  exact ⟨max p q, fun k h => ⟨hp k (by omega), hq k (by omega)⟩⟩
theorem Ev.of2 {α β γ : Type} {f : Nat → Option α} {g : Nat → Option β} {F : Nat → Option γ} {a : α} {b : β} {c : γ} (h : Ev f a) (k : Ev g b) (e : ∀ k, f k = some a → g k = some b → F k = some c) : Ev F c := by
  obtain ⟨k0, hk⟩ := h.and k
  exact ⟨k0, fun k h => e k (hk k h).1 (hk k h).2⟩
theorem Ev.det {α : Type} {f : Nat → Option α} {r s : α} (h : Ev f r) (k : Ev f s) : r = s := by
  obtain ⟨k0, hk⟩ := h.and k
  have := hk k0 (Nat.le_refl _)
  rw [this.1] at this; exact Option.some.inj this.2
/-! ### Nodes -/
/-- n has become e. -/
inductive En (is : List (Option Nat)) : Nat → Nat → Prop
  | here {n} (h : is[n]? = some none) : En is n n
  | on {n m e} (h : is[n]? = some (some m)) (k : En is m e) : En is n e
theorem find_En {k : Nat} {g : G} {n e : Nat} (h : find k g n = some e) : En g.link n e := by
  induction k generalizing n with
  | zero => cases h
  | succ k ih =>
    unfold find at h
    split at h
    · rename_i m hm; exact .on hm (ih h)
    · rename_i hm; cases h; exact .here hm
    · cases h
theorem En.find {g : G} {n e : Nat} (h : En g.link n e) : Ev (fun k => find k g n) e := by
  induction h with
  | here h => exact (Ev.pure _).step fun k => by rw [Inf.find, h]
  | @on n m e h _ ih => exact ih.step fun k => by rw [Inf.find, h]
theorem En.det {is : List (Option Nat)} {n e e' : Nat} (h : En is n e) (k : En is n e') : e = e' := by
  induction h with
  | here h => cases k with
    | here _ => rfl
    | on k _ => rw [h] at k; cases k
  | on h _ ih => cases k with
    | here k => rw [h] at k; cases k
    | on k k2 => rw [h] at k; cases k; exact ih k2
theorem En.last {is : List (Option Nat)} {n e : Nat} (h : En is n e) : is[e]? = some none := by
  induction h with
  | here h => exact h
  | on _ _ ih => exact ih
theorem En.end {is : List (Option Nat)} {n e : Nat} (h : En is n e) : En is e e := .here h.last
theorem En.lt {is : List (Option Nat)} {n e : Nat} (h : En is n e) : n < is.length := by
  cases h with
  | here h => exact (List.getElem?_eq_some_iff.1 h).1
  | on h _ => exact (List.getElem?_eq_some_iff.1 h).1
theorem En.lt2 {is : List (Option Nat)} {n e : Nat} (h : En is n e) : e < is.length := h.end.lt
/-- A node on the way is told its end at once: nothing is another's. -/
theorem En.short {is : List (Option Nat)} {n m e : Nat} (hn : is[n]? = some (some m)) (hm : En is n e) {x y : Nat} (h : En is x y) : En (is.set n (some e)) x y := by
  have he : e ≠ n := fun q => by have := hm.last; rw [q, hn] at this; cases this
  induction h with
  | @here x hx =>
    refine .here ?_
    rw [List.getElem?_set_ne (fun q => by rw [← q, hn] at hx; cases hx)]; exact hx
  | @on x z y hx hz ih =>
    by_cases q : x = n
    · subst q
      have hl := (List.getElem?_eq_some_iff.1 hn).1
      have e2 : y = e := (En.on hx hz).det hm
      subst e2
      refine .on (m := y) (by rw [List.getElem?_set_self hl]) (.here ?_)
      rw [List.getElem?_set_ne (Ne.symm he)]; exact hm.last
    · exact .on (by rw [List.getElem?_set_ne (Ne.symm q)]; exact hx) ih
/-- One end is told another one. -/
theorem En.link {is : List (Option Nat)} {a b : Nat} (ha : is[a]? = some none) (hb : is[b]? = some none) (hne : a ≠ b) {x e : Nat} (h : En is x e) : En (is.set a (some b)) x (if e = a then b else e) := by
  have hl := (List.getElem?_eq_some_iff.1 ha).1
  have hb2 : En (is.set a (some b)) b b := .here (by rw [List.getElem?_set_ne hne]; exact hb)
  induction h with
  | @here x hx =>
    by_cases q : x = a
    · subst q; rw [if_pos rfl]; exact .on (by rw [List.getElem?_set_self hl]) hb2
    · rw [if_neg q]; exact .here (by rw [List.getElem?_set_ne (Ne.symm q)]; exact hx)
  | @on x m e hx _ ih =>
    have q : x ≠ a := fun q => by rw [q, ha] at hx; cases hx
    exact .on (by rw [List.getElem?_set_ne (Ne.symm q)]; exact hx) ih
/-- All nodes have become something. -/
def All (is : List (Option Nat)) : Prop := ∀ n, n < is.length → ∃ e, En is n e
theorem All.link {is : List (Option Nat)} (h : All is) {a b : Nat} (ha : is[a]? = some none) (hb : is[b]? = some none) (hne : a ≠ b) : All (is.set a (some b)) := fun n hn => by
  rw [List.length_set] at hn
  obtain ⟨e, he⟩ := h n hn
  exact ⟨_, he.link ha hb hne⟩
theorem En.app {is : List (Option Nat)} {n e : Nat} (h : En is n e) (t : List (Option Nat)) : En (is ++ t) n e := by
  induction h with
  | here h => exact .here (by rw [List.getElem?_append_left (List.getElem?_eq_some_iff.1 h).1]; exact h)
  | on h _ ih => exact .on (by rw [List.getElem?_append_left (List.getElem?_eq_some_iff.1 h).1]; exact h) ih
theorem En.app_back {is : List (Option Nat)} (hA : All is) {t : List (Option Nat)} {n e : Nat} (h : En (is ++ t) n e) (hn : n < is.length) : En is n e := by
  obtain ⟨d, hd⟩ := hA n hn
  rw [h.det (hd.app t)]; exact hd
theorem All.app {is : List (Option Nat)} (h : All is) : All (is ++ [none]) := fun n hn => by
  rcases Nat.lt_or_ge n is.length with q | q
  · obtain ⟨e, he⟩ := h n q; exact ⟨e, he.app _⟩
  · have : n = is.length := by simp at hn; omega
    exact ⟨n, .here (by rw [this]; simp)⟩
/-- Which nodes are one. -/
def Eq1 (is : List (Option Nat)) : Ucl.Rel := fun x y => x = y ∨ ∃ e, En is x e ∧ En is y e
theorem eq1_eqv (is : List (Option Nat)) : Ucl.Eqv (Eq1 is) := by
  refine ⟨fun x => .inl rfl, fun x y => ?_, fun x y z => ?_⟩
  · rintro (rfl | ⟨e, h, k⟩)
    · exact .inl rfl
    · exact .inr ⟨e, k, h⟩
  · rintro (rfl | ⟨e, h, k⟩) (rfl | ⟨d, p, q⟩)
    · exact .inl rfl
    · exact .inr ⟨d, p, q⟩
    · exact .inr ⟨e, h, k⟩
    · have := k.det p; subst this; exact .inr ⟨e, h, q⟩
theorem En.eq1 {is : List (Option Nat)} {n e : Nat} (h : En is n e) : Eq1 is n e := .inr ⟨e, h, h.end⟩
theorem Eq1.en {is : List (Option Nat)} {x y e : Nat} (h : Eq1 is x y) (k : En is x e) : En is y e := by
  rcases h with rfl | ⟨d, p, q⟩
  · exact k
  · rw [k.det p]; exact q
theorem Eq1.lt {is : List (Option Nat)} {x y : Nat} (h : Eq1 is x y) : x = y ∨ x < is.length ∧ y < is.length := by
  rcases h with h | ⟨d, p, q⟩
  · exact .inl h
  · exact .inr ⟨p.lt, q.lt⟩
theorem eq1_app {is : List (Option Nat)} (hA : All is) : Eq1 (is ++ [none]) = Eq1 is := by
  funext x y
  apply propext
  constructor
  · rintro (h | ⟨e, h, k⟩)
    · exact .inl h
    · rcases Nat.lt_or_ge x is.length with q | q
      · have h1 := h.app_back hA q
        rcases Nat.lt_or_ge y is.length with r | r
        · exact .inr ⟨e, h1, k.app_back hA r⟩
        · exfalso
          have hy : y = is.length := by have := k.lt; simp at this; omega
          subst hy
          have := k.det (.here (by simp))
          have := h1.lt2; omega
      · have hx : x = is.length := by have := h.lt; simp at this; omega
        subst hx
        have he := h.det (.here (by simp))
        subst he
        rcases Nat.lt_or_ge y is.length with r | r
        · have := (k.app_back hA r).lt2; omega
        · left; have := k.lt; simp at this; omega
  · rintro (h | ⟨e, h, k⟩)
    · exact .inl h
    · exact .inr ⟨e, h.app _, k.app _⟩
theorem En.unlink {is : List (Option Nat)} {a b : Nat} (ha : is[a]? = some none) (hb : is[b]? = some none) (hne : a ≠ b) {x e : Nat} (h : En (is.set a (some b)) x e) : ∃ d, En is x d ∧ e = if d = a then b else d := by
  have hl := (List.getElem?_eq_some_iff.1 ha).1
  induction h with
  | @here x hx =>
    have q : x ≠ a := fun q => by rw [q, List.getElem?_set_self hl] at hx; cases hx
    rw [List.getElem?_set_ne (Ne.symm q)] at hx
    exact ⟨x, .here hx, by rw [if_neg q]⟩
  | @on x m e hx hk ih =>
    by_cases q : x = a
    · subst q
      rw [List.getElem?_set_self hl] at hx
      cases hx
      obtain ⟨d, h1, h2⟩ := ih
      have := h1.det (.here hb)
      subst this
      rw [if_neg (Ne.symm hne)] at h2
      exact ⟨x, .here ha, by rw [if_pos rfl, h2]⟩
    · rw [List.getElem?_set_ne (Ne.symm q)] at hx
      obtain ⟨d, h1, h2⟩ := ih
      exact ⟨d, .on hx h1, h2⟩
theorem eq1_link {is : List (Option Nat)} {a b : Nat} (ha : is[a]? = some none) (hb : is[b]? = some none) (hne : a ≠ b) : Eq1 (is.set a (some b)) = Ucl.join (Eq1 is) a b := by
  funext x y
  apply propext
  have ea : En is a a := .here ha
  have eb : En is b b := .here hb
  constructor
  · rintro (rfl | ⟨e, h, k⟩)
    · exact .inl (.inl rfl)
    · obtain ⟨d, h1, h2⟩ := En.unlink ha hb hne h
      obtain ⟨d', k1, k2⟩ := En.unlink ha hb hne k
      by_cases p : d = a <;> by_cases q : d' = a
      · subst p; subst q; exact .inl (.inr ⟨_, h1, k1⟩)
      · subst p; rw [if_pos rfl] at h2; rw [if_neg q] at k2; subst h2; subst k2; exact .inr (.inl ⟨.inr ⟨_, h1, ea⟩, .inr ⟨_, eb, k1⟩⟩)
      · subst q; rw [if_pos rfl] at k2; rw [if_neg p] at h2; subst k2; subst h2; exact .inr (.inr ⟨.inr ⟨_, h1, eb⟩, .inr ⟨_, ea, k1⟩⟩)
      · rw [if_neg p] at h2; rw [if_neg q] at k2; subst h2; subst k2; exact .inl (.inr ⟨_, h1, k1⟩)
  · have lk := fun {x e} (h : En is x e) => En.link ha hb hne h
    have la := lk ea
    rw [if_pos rfl] at la
    have lb := lk eb
    rw [if_neg (Ne.symm hne)] at lb
    have one : Eq1 (is.set a (some b)) a b := .inr ⟨b, la, lb⟩
    have sub : ∀ x y, Eq1 is x y → Eq1 (is.set a (some b)) x y := fun x y h => by
      rcases h with rfl | ⟨e, h, k⟩
      · exact .inl rfl
      · exact .inr ⟨_, lk h, lk k⟩
    exact Ucl.join_sub (eq1_eqv _) sub one x y
/-! ### Rows -/
/-- All that a row has, as it lies, and its variable (0: none). -/
inductive WhL (ops : List (List Nm)) (nx : List (Option Nat)) : Nat → List Nm → Nat → Prop
  | nil {r l} (h : nx[r]? = some (some 0)) (ho : ops[r]? = some l) : WhL ops nx r l 0
  | opn {r} (h : nx[r]? = some none) (ho : ops[r]? = some []) : WhL ops nx r [] r
  | row {r q l m v} (h : nx[r]? = some (some (q + 1))) (ho : ops[r]? = some l) (k : WhL ops nx (q + 1) m v) : WhL ops nx r (l ++ m) v
section
variable {ops : List (List Nm)} {nx : List (Option Nat)}
theorem WhL.det {r : Nat} {l l' : List Nm} {v v' : Nat} (h : WhL ops nx r l v) (k : WhL ops nx r l' v') : l = l' ∧ v = v' := by
  induction h generalizing l' v' with
  | nil h ho => cases k with
    | nil k ko => rw [ho] at ko; cases ko; exact ⟨rfl, rfl⟩
    | opn k _ => rw [h] at k; cases k
    | row k _ _ => rw [h] at k; cases k
  | opn h ho => cases k with
    | nil k ko => rw [h] at k; cases k
    | opn k _ => exact ⟨rfl, rfl⟩
    | row k _ _ => rw [h] at k; cases k
  | row h ho _ ih => cases k with
    | nil k ko => rw [h] at k; cases k
    | opn k _ => rw [h] at k; cases k
    | row k ko k2 => rw [h] at k; cases k; rw [ho] at ko; cases ko; obtain ⟨rfl, rfl⟩ := ih k2; exact ⟨rfl, rfl⟩
theorem WhL.lt {r v : Nat} {l : List Nm} (h : WhL ops nx r l v) : r < nx.length := by
  cases h with
  | nil h _ => exact (List.getElem?_eq_some_iff.1 h).1
  | opn h _ => exact (List.getElem?_eq_some_iff.1 h).1
  | row h _ _ => exact (List.getElem?_eq_some_iff.1 h).1
theorem WhL.var {r v : Nat} {l : List Nm} (h : WhL ops nx r l v) : v = 0 ∨ nx[v]? = some none := by
  induction h with
  | nil _ _ => exact .inl rfl
  | opn h _ => exact .inr h
  | row _ _ _ ih => exact ih
end
theorem WhL.ev {g : G} {r v : Nat} {l : List Nm} (h : WhL g.ops g.next r l v) (acc : List Nm) (hb : acc.length + l.length < big) : Ev (fun k => Inf.whole k g r acc) (putAll acc l, v) := by
  induction h generalizing acc with
  | nil h ho => exact (Ev.pure _).step fun k => by rw [Inf.whole]; simp only [ho, h, if_pos hb]
  | opn h ho =>
    exact (Ev.pure _).step fun k => by rw [Inf.whole]; simp only [ho, h, if_pos hb]
  | @row r q l m v h ho _ ih =>
    rw [List.length_append] at hb
    have h1 : acc.length + l.length < big := by omega
    have := ih (putAll acc l) (by rw [(putAll_perm acc l).length_eq, List.length_append]; omega)
    rw [putAll_putAll] at this
    exact this.step fun k => by rw [Inf.whole]; simp only [ho, h, if_pos h1]
/-- The rows as bags. -/
def stR (ops : List (List Nm)) (nx : List (Option Nat)) : St Nm := ⟨fun r => bag ((ops[r]?).getD []), fun r => match nx[r]? with
  | some (some 0) => .none
  | some (some (q + 1)) => .row (q + 1)
  | _ => .opn⟩
def vO (v : Nat) : Option Nat := if v = 0 then none else some v
theorem vO_inj {v w : Nat} (h : vO v = vO w) : v = w := by
  unfold vO at h; split at h <;> split at h <;> simp_all
theorem vO_none {v : Nat} : vO v = none ↔ v = 0 := by unfold vO; split <;> simp_all
theorem WhL.wh {ops : List (List Nm)} {nx : List (Option Nat)} (h0 : nx[0]? = some (some 0)) {r v : Nat} {l : List Nm} (h : WhL ops nx r l v) : Wh (stR ops nx) r (bag l) (vO v) := by
  induction h with
  | @nil r l h ho =>
    have : bag l = (stR ops nx).o r := by simp [stR, ho]
    rw [this]; exact .none (by simp [stR, h])
  | @opn r h ho =>
    have : vO r = some r := by unfold vO; rw [if_neg]; rintro rfl; rw [h] at h0; cases h0
    rw [this]; exact .opn (by simp [stR, h])
  | @row r q l m v h ho k ih =>
    have : bag l = (stR ops nx).o r := by simp [stR, ho]
    rw [bag_app, this]; exact .row (by simp [stR, h]) ih
def sumW (W : Nat → Nat) (n : Nat) : Nat := ((List.range n).map W).sum
theorem sumW_succ (W : Nat → Nat) (n : Nat) : sumW W (n + 1) = sumW W n + W n := by simp [sumW, List.range_succ]
theorem sumW_congr {W V : Nat → Nat} {n : Nat} (h : ∀ u, u < n → W u = V u) : sumW W n = sumW V n := by
  induction n with
  | zero => rfl
  | succ n ih => rw [sumW_succ, sumW_succ, ih fun u hu => h u (by omega), h n (by omega)]
theorem sumW_upd (W : Nat → Nat) {n v : Nat} (c : Nat) (h : v < n) : sumW (fun u => if u = v then c else W u) n + W v = sumW W n + c := by
  induction n with
  | zero => omega
  | succ n ih =>
    rw [sumW_succ, sumW_succ]
    by_cases e : n = v
    · subst e; rw [if_pos rfl, sumW_congr (V := W) (fun u hu => by rw [if_neg (by omega)])]; omega
    · rw [if_neg e]; have := ih (by omega); omega
theorem sumW_le (W : Nat → Nat) {n v : Nat} (h : v < n) : W v ≤ sumW W n := by
  have := sumW_upd W 0 h; omega
theorem sumW_move (W : Nat → Nat) {n v w : Nat} (hv : v < n) (hw : w < n) (h : v ≠ w) : sumW (fun u => if u = v then W v + W w else if u = w then 0 else W u) n = sumW W n := by
  have a := sumW_upd (fun u => if u = w then 0 else W u) (W v + W w) hv
  have b := sumW_upd W 0 hw
  simp only [if_neg h] at a
  omega
/-- What is true of the rows at all times. -/
structure RI (ops : List (List Nm)) (nx : List (Option Nat)) (T : Nat) : Prop where
  len : ops.length = nx.length
  z : nx[0]? = some (some 0)
  op : ∀ r : Nat, nx[r]? = some none → ops[r]? = some []
  all : ∀ r, r < nx.length → ∃ l v, WhL ops nx r l v
  ms : ∃ W : Nat → Nat, (∀ r l v, WhL ops nx r l v → l.length ≤ W v) ∧ sumW W nx.length ≤ T
section
variable {ops : List (List Nm)} {nx : List (Option Nat)} {T : Nat}
theorem RI.bound (h : RI ops nx T) {r v : Nat} {l : List Nm} (k : WhL ops nx r l v) : l.length ≤ T := by
  obtain ⟨W, h1, h2⟩ := h.ms
  have hv : v < nx.length := by
    rcases k.var with e | e
    · subst e; exact (List.getElem?_eq_some_iff.1 h.z).1
    · exact (List.getElem?_eq_some_iff.1 e).1
  exact Nat.le_trans (h1 _ _ _ k) (Nat.le_trans (sumW_le W hv) h2)
theorem WhL.set1 {v : Nat} {d : List Nm} {t : Option Nat} (hv : nx[v]? = some none) {r u : Nat} {l : List Nm} (h : WhL ops nx r l u) (hu : u ≠ v) : WhL (ops.set v d) (nx.set v t) r l u := by
  induction h with
  | @nil r l h ho =>
    have e : v ≠ r := by rintro rfl; rw [hv] at h; cases h
    exact .nil (by rw [List.getElem?_set_ne e]; exact h) (by rw [List.getElem?_set_ne e]; exact ho)
  | @opn r h ho =>
    have e : v ≠ r := Ne.symm hu
    exact .opn (by rw [List.getElem?_set_ne e]; exact h) (by rw [List.getElem?_set_ne e]; exact ho)
  | @row r q l m u h ho _ ih =>
    have e : v ≠ r := by rintro rfl; rw [hv] at h; cases h
    exact .row (by rw [List.getElem?_set_ne e]; exact h) (by rw [List.getElem?_set_ne e]; exact ho) (ih hu)
theorem WhL.set2 {v : Nat} {d : List Nm} {t : Option Nat} (hv : nx[v]? = some none) {r : Nat} {l : List Nm} (h : WhL ops nx r l v) {m : List Nm} {w : Nat} (hm : WhL (ops.set v d) (nx.set v t) v m w) (h0 : nx[0]? = some (some 0)) : WhL (ops.set v d) (nx.set v t) r (l ++ m) w := by
  generalize e : v = u at h
  induction h with
  | nil h ho => subst e; rw [hv] at h0; cases h0
  | opn h ho => subst e; exact hm
  | @row r q l p u h ho _ ih =>
    subst e
    have e2 : v ≠ r := by rintro rfl; rw [hv] at h; cases h
    rw [List.append_assoc]
    exact .row (by rw [List.getElem?_set_ne e2]; exact h) (by rw [List.getElem?_set_ne e2]; exact ho) (ih rfl)
theorem WhL.app {r v : Nat} {l : List Nm} (h : WhL ops nx r l v) (o : List (List Nm)) (t : List (Option Nat)) : WhL (ops ++ o) (nx ++ t) r l v := by
  have ap : ∀ {α : Type} {x y : List α} {i : Nat} {a : α}, x[i]? = some a → (x ++ y)[i]? = some a := fun h => by rw [List.getElem?_append_left (List.getElem?_eq_some_iff.1 h).1]; exact h
  induction h with
  | nil h ho => exact .nil (ap h) (ap ho)
  | opn h ho => exact .opn (ap h) (ap ho)
  | row h ho _ ih => exact .row (ap h) (ap ho) ih
theorem RI.lt {r v : Nat} {l : List Nm} (h : RI ops nx T) (k : WhL ops nx r l v) : v < nx.length := by
  rcases k.var with e | e
  · subst e; exact (List.getElem?_eq_some_iff.1 h.z).1
  · exact (List.getElem?_eq_some_iff.1 e).1
theorem RI.zpos (h : RI ops nx T) : 0 < nx.length := (List.getElem?_eq_some_iff.1 h.z).1
/-- A variable becomes closed. -/
theorem RI.close (h : RI ops nx T) {w r : Nat} {d a : List Nm} (hw : nx[w]? = some none) (ha : WhL ops nx r a 0) (hd : d.length ≤ a.length) : RI (ops.set w d) (nx.set w (some 0)) T := by
  have hwl := (List.getElem?_eq_some_iff.1 hw).1
  have hw0 : w ≠ 0 := by rintro rfl; rw [h.z] at hw; cases hw
  have own : WhL (ops.set w d) (nx.set w (some 0)) w d 0 := .nil (List.getElem?_set_self hwl) (List.getElem?_set_self (by rw [h.len]; exact hwl))
  have key : ∀ {r l u}, WhL ops nx r l u → (u ≠ w → WhL (ops.set w d) (nx.set w (some 0)) r l u) ∧ (u = w → WhL (ops.set w d) (nx.set w (some 0)) r (l ++ d) 0) := fun k => ⟨fun e => k.set1 hw e, fun e => by subst e; exact k.set2 hw own h.z⟩
  refine ⟨by simp [h.len], by rw [List.getElem?_set_ne hw0]; exact h.z, fun r hr => ?_, fun r hr => ?_, ?_⟩
  · have e : w ≠ r := by rintro rfl; rw [List.getElem?_set_self hwl] at hr; cases hr
    rw [List.getElem?_set_ne e] at hr ⊢; exact h.op r hr
  · rw [List.length_set] at hr
    obtain ⟨l, u, k⟩ := h.all r hr
    by_cases e : u = w
    · exact ⟨_, _, (key k).2 e⟩
    · exact ⟨_, _, (key k).1 e⟩
  · obtain ⟨W, h1, h2⟩ := h.ms
    refine ⟨fun u => if u = 0 then W 0 + W w else if u = w then 0 else W u, fun r l u k => ?_, ?_⟩
    · obtain ⟨l0, u0, k0⟩ := h.all r (by have := k.lt; rwa [List.length_set] at this)
      have a0 := h1 _ _ _ ha
      have b0 := h1 _ _ _ k0
      by_cases e : u0 = w
      · obtain ⟨rfl, rfl⟩ := k.det ((key k0).2 e)
        subst e
        simp only [if_true, List.length_append]; omega
      · obtain ⟨rfl, rfl⟩ := k.det ((key k0).1 e)
        show l.length ≤ if u = 0 then W 0 + W w else if u = w then 0 else W u
        rw [if_neg e]
        split
        · rename_i e2; subst e2; omega
        · exact b0
    · rw [List.length_set, sumW_move W h.zpos hwl (Ne.symm hw0)]; exact h2
/-- A new variable. -/
theorem RI.open (h : RI ops nx T) : RI (ops ++ [[]]) (nx ++ [none]) T := by
  have hl : (ops ++ [[]])[nx.length]? = some [] := by rw [← h.len]; simp
  have own : WhL (ops ++ [[]]) (nx ++ [none]) nx.length [] nx.length := .opn (by simp) hl
  refine ⟨by simp [h.len], by rw [List.getElem?_append_left h.zpos]; exact h.z, fun r hr => ?_, fun r hr => ?_, ?_⟩
  · rcases Nat.lt_or_ge r nx.length with q | q
    · rw [List.getElem?_append_left q] at hr
      rw [List.getElem?_append_left (by rw [h.len]; exact q)]; exact h.op r hr
    · have := (List.getElem?_eq_some_iff.1 hr).1
      have e : r = nx.length := by simp at this; omega
      subst e; exact hl
  · rcases Nat.lt_or_ge r nx.length with q | q
    · obtain ⟨l, u, k⟩ := h.all r q; exact ⟨l, u, k.app _ _⟩
    · have e : r = nx.length := by simp at hr; omega
      subst e; exact ⟨_, _, own⟩
  · obtain ⟨W, h1, h2⟩ := h.ms
    refine ⟨fun u => if u = nx.length then 0 else W u, fun r l u k => ?_, ?_⟩
    · rcases Nat.lt_or_ge r nx.length with q | q
      · obtain ⟨l0, u0, k0⟩ := h.all r q
        obtain ⟨rfl, rfl⟩ := k.det (k0.app _ _)
        have : u ≠ nx.length := by have := h.lt k0; omega
        show l.length ≤ if u = nx.length then 0 else W u
        rw [if_neg this]; exact h1 _ _ _ k0
      · have e : r = nx.length := by have := k.lt; simp at this; omega
        subst e
        obtain ⟨rfl, rfl⟩ := k.det own
        exact Nat.zero_le _
    · rw [List.length_append, List.length_singleton, sumW_succ, if_pos rfl, sumW_congr (V := W) (fun u hu => by rw [if_neg (by omega)])]; omega
/-- Two variables become one that comes behind. -/
theorem RI.two (h : RI ops nx T) {v w r s : Nat} {d e a b : List Nm} (hv : nx[v]? = some none) (hw : nx[w]? = some none) (hne : v ≠ w) (ha : WhL ops nx r a v) (hb : WhL ops nx s b w) (hd : d.length ≤ a.length) (he : e.length ≤ b.length) :
    RI (((ops ++ [[]]).set v e).set w d) (((nx ++ [none]).set v (some nx.length)).set w (some nx.length)) T := by
  have hvl := (List.getElem?_eq_some_iff.1 hv).1
  have hwl := (List.getElem?_eq_some_iff.1 hw).1
  have hv0 : v ≠ 0 := by rintro rfl; rw [h.z] at hv; cases hv
  have hw0 : w ≠ 0 := by rintro rfl; rw [h.z] at hw; cases hw
  have h1 := h.open
  have hn := h.zpos
  obtain ⟨x, hx⟩ : ∃ x, nx.length = x + 1 := ⟨nx.length - 1, by omega⟩
  have own : WhL (ops ++ [[]]) (nx ++ [none]) nx.length [] nx.length := .opn (by simp) (by rw [← h.len]; simp)
  have hv1 : (nx ++ [none])[v]? = some none := by rw [List.getElem?_append_left hvl]; exact hv
  have hw1 : (nx ++ [none])[w]? = some none := by rw [List.getElem?_append_left hwl]; exact hw
  have ol : ops.length = nx.length := h.len
  -- v
  have ownv : WhL ((ops ++ [[]]).set v e) ((nx ++ [none]).set v (some nx.length)) v e nx.length := by
    have := WhL.row (ops := (ops ++ [[]]).set v e) (nx := (nx ++ [none]).set v (some nx.length)) (r := v) (q := x) (l := e) (m := []) (v := nx.length) (by rw [List.getElem?_set_self (by simp; omega), hx]) (List.getElem?_set_self (by simp; omega)) (by rw [← hx]; exact own.set1 hv1 (by omega))
    rwa [List.append_nil] at this
  have hw2 : ((nx ++ [none]).set v (some nx.length))[w]? = some none := by rw [List.getElem?_set_ne hne]; exact hw1
  have z2 : ((nx ++ [none]).set v (some nx.length))[0]? = some (some 0) := by rw [List.getElem?_set_ne hv0]; exact h1.z
  have kx : WhL (((ops ++ [[]]).set v e).set w d) (((nx ++ [none]).set v (some nx.length)).set w (some nx.length)) nx.length [] nx.length := (own.set1 hv1 (by omega)).set1 hw2 (by omega)
  have ownw : WhL (((ops ++ [[]]).set v e).set w d) (((nx ++ [none]).set v (some nx.length)).set w (some nx.length)) w d nx.length := by
    have := WhL.row (ops := ((ops ++ [[]]).set v e).set w d) (nx := ((nx ++ [none]).set v (some nx.length)).set w (some nx.length)) (r := w) (q := x) (l := d) (m := []) (v := nx.length) (by rw [List.getElem?_set_self (by simp; omega), hx]) (List.getElem?_set_self (by simp; omega)) (by rw [← hx]; exact kx)
    rwa [List.append_nil] at this
  have key : ∀ {r l u}, WhL ops nx r l u → (u ≠ v → u ≠ w → WhL (((ops ++ [[]]).set v e).set w d) (((nx ++ [none]).set v (some nx.length)).set w (some nx.length)) r l u) ∧
      (u = v → WhL (((ops ++ [[]]).set v e).set w d) (((nx ++ [none]).set v (some nx.length)).set w (some nx.length)) r (l ++ e) nx.length) ∧
      (u = w → WhL (((ops ++ [[]]).set v e).set w d) (((nx ++ [none]).set v (some nx.length)).set w (some nx.length)) r (l ++ d) nx.length) := fun {r l u} k => by
    have k1 := k.app [[]] [none]
    refine ⟨fun a b => (k1.set1 hv1 a).set1 hw2 b, fun a => ?_, fun a => ?_⟩
    · subst a; exact (k1.set2 hv1 ownv h1.z).set1 hw2 (by omega)
    · subst a; exact (k1.set1 hv1 (Ne.symm hne)).set2 hw2 ownw z2
  refine ⟨by simp [h.len], by rw [List.getElem?_set_ne hw0]; exact z2, fun r hr => ?_, fun r hr => ?_, ?_⟩
  · have e1 : w ≠ r := by rintro rfl; rw [List.getElem?_set_self (by simp; omega)] at hr; cases hr
    rw [List.getElem?_set_ne e1] at hr ⊢
    have e2 : v ≠ r := by rintro rfl; rw [List.getElem?_set_self (by simp; omega)] at hr; cases hr
    rw [List.getElem?_set_ne e2] at hr ⊢
    exact h1.op r hr
  · simp only [List.length_set, List.length_append, List.length_singleton] at hr
    rcases Nat.lt_or_ge r nx.length with q | q
    · obtain ⟨l, u, k⟩ := h.all r q
      by_cases e1 : u = v
      · exact ⟨_, _, (key k).2.1 e1⟩
      · by_cases e2 : u = w
        · exact ⟨_, _, (key k).2.2 e2⟩
        · exact ⟨_, _, (key k).1 e1 e2⟩
    · have : r = nx.length := by omega
      subst this; exact ⟨_, _, kx⟩
  · obtain ⟨W, m1, m2⟩ := h.ms
    refine ⟨fun u => if u = nx.length then W v + W w else if u = v then 0 else if u = w then 0 else W u, fun r l u k => ?_, ?_⟩
    · have a0 := m1 _ _ _ ha
      have b0 := m1 _ _ _ hb
      rcases Nat.lt_or_ge r nx.length with q | q
      · obtain ⟨l0, u0, k0⟩ := h.all r q
        have c0 := m1 _ _ _ k0
        by_cases e1 : u0 = v
        · obtain ⟨rfl, rfl⟩ := k.det ((key k0).2.1 e1)
          subst e1
          simp only [if_true, List.length_append]; omega
        · by_cases e2 : u0 = w
          · obtain ⟨rfl, rfl⟩ := k.det ((key k0).2.2 e2)
            subst e2
            simp only [if_true, List.length_append]; omega
          · obtain ⟨rfl, rfl⟩ := k.det ((key k0).1 e1 e2)
            have : u ≠ nx.length := by have := h.lt k0; omega
            show l.length ≤ if u = nx.length then W v + W w else if u = v then 0 else if u = w then 0 else W u
            rw [if_neg this, if_neg e1, if_neg e2]; exact c0
      · have e0 : r = nx.length := by have := k.lt; simp at this; omega
        subst e0
        obtain ⟨rfl, rfl⟩ := k.det kx
        exact Nat.zero_le _
    · simp only [List.length_set, List.length_append, List.length_singleton]
      rw [sumW_succ, if_pos rfl, sumW_congr (V := fun u => if u = v then 0 else if u = w then 0 else W u) (fun u hu => by rw [if_neg (by omega)])]
      have a := sumW_upd (fun u => if u = w then 0 else W u) 0 hvl
      have b := sumW_upd W 0 hwl
      simp only [if_neg hne] at a
      omega
theorem RI.ok (h : RI ops nx T) : Ok (stR ops nx) := fun r => by
  rcases Nat.lt_or_ge r nx.length with q | q
  · obtain ⟨l, v, k⟩ := h.all r q; exact ⟨_, _, k.wh h.z⟩
  · exact ⟨_, _, .opn (by simp [stR, List.getElem?_eq_none q])⟩
theorem stR_set (hl : ops.length = nx.length) {v : Nat} (hv : v < nx.length) (d : List Nm) (t : Option Nat) : stR (ops.set v d) (nx.set v t) = put (stR ops nx) v (bag d) (match t with | some 0 => .none | some (q + 1) => .row (q + 1) | none => .opn) := by
  unfold stR put
  congr 1
  · funext r
    by_cases e : r = v
    · subst e; rw [if_pos rfl, List.getElem?_set_self (by omega)]; rfl
    · rw [if_neg e, List.getElem?_set_ne (Ne.symm e)]
  · funext r
    by_cases e : r = v
    · subst e; rw [if_pos rfl, List.getElem?_set_self hv]; rcases t with _ | _ | t <;> rfl
    · rw [if_neg e, List.getElem?_set_ne (Ne.symm e)]
theorem stR_open (hl : ops.length = nx.length) : stR (ops ++ [[]]) (nx ++ [none]) = stR ops nx := by
  unfold stR
  congr 1
  · funext r
    rcases Nat.lt_or_ge r ops.length with q | q
    · rw [List.getElem?_append_left q]
    · rw [List.getElem?_append_right q, List.getElem?_eq_none q]
      cases r - ops.length <;> rfl
  · funext r
    rcases Nat.lt_or_ge r nx.length with q | q
    · rw [List.getElem?_append_left q]
    · rw [List.getElem?_append_right q, List.getElem?_eq_none q]
      cases r - nx.length <;> rfl
/-- What the rows stand for: of the given ones. -/
def SolR (ops : List (List Nm)) (nx : List (Option Nat)) (e : List Nat) (ρ : Nat → Bag Nm) : Prop := ∃ ρ', (∀ j x, e[j]? = some x → ρ' x = ρ j) ∧ Sat (stR ops nx) ρ'
theorem SolR.two {e : List Nat} {og : Nat → Prop} (hog : ∀ x, og x ↔ x ∈ e) {ops' : List (List Nm)} {nx' : List (Option Nat)} {p q r s : Nat} (hp : e[p]? = some r) (hq : e[q]? = some s)
    (h : ∀ ρ, Sol (stR ops' nx') og ρ ↔ Sol (stR ops nx) og ρ ∧ ρ r = ρ s) (ρ : Nat → Bag Nm) : SolR ops' nx' e ρ ↔ SolR ops nx e ρ ∧ ρ p = ρ q := by
  constructor
  · rintro ⟨ρ', h1, h2⟩
    obtain ⟨⟨ρ2, h3, h4⟩, h5⟩ := (h ρ').1 ⟨ρ', fun _ _ => rfl, h2⟩
    refine ⟨⟨ρ2, fun j x hj => ?_, h4⟩, ?_⟩
    · rw [h3 x ((hog x).2 (List.mem_of_getElem? hj))]; exact h1 j x hj
    · rw [← h1 p r hp, ← h1 q s hq]; exact h5
  · rintro ⟨⟨ρ', h1, h2⟩, h5⟩
    obtain ⟨ρ2, h3, h4⟩ := (h ρ').2 ⟨⟨ρ', fun _ _ => rfl, h2⟩, by rw [h1 p r hp, h1 q s hq]; exact h5⟩
    refine ⟨ρ2, fun j x hj => ?_, h4⟩
    rw [h3 x ((hog x).2 (List.mem_of_getElem? hj))]; exact h1 j x hj
end
theorem sameRow_spec {g : G} {T : Nat} (h : RI g.ops g.next T) (hT : T < big) (hb : g.ops.length < big) {r s : Nat} (hr : r < g.next.length) (hs : s < g.next.length) {e : List Nat} (he : ∀ x ∈ e, x < g.next.length) :
    ∃ o n t, Ev (fun k => sameRow k g r s) ({ g with ops := o, next := n }, t) ∧ RI o n T ∧ o.length ≤ g.ops.length + 1 ∧ (∀ x ∈ e, x < n.length) ∧
      ∀ p q, e[p]? = some r → e[q]? = some s → (t = true → ∀ ρ, SolR o n e ρ ↔ SolR g.ops g.next e ρ ∧ ρ p = ρ q) ∧ (t = false → o = g.ops ∧ n = g.next ∧ ∀ ρ, SolR g.ops g.next e ρ → ρ p ≠ ρ q) := by
  obtain ⟨la, v, ka⟩ := h.all r hr
  obtain ⟨lb, w, kb⟩ := h.all s hs
  have wa := ka.ev [] (by simp; exact Nat.lt_of_le_of_lt (h.bound ka) hT)
  have wb := kb.ev [] (by simp; exact Nat.lt_of_le_of_lt (h.bound kb) hT)
  have pa := putAll_perm [] la
  have pb := putAll_perm [] lb
  rw [List.nil_append] at pa pb
  generalize putAll [] la = a at *
  generalize putAll [] lb = b at *
  have fa := ka.wh h.z
  have fb := kb.wh h.z
  rw [← bag_perm pa] at fa
  rw [← bag_perm pb] at fb
  have ld : (less a b).length ≤ la.length := by rw [← pa.length_eq]; exact less_le a b
  have le : (less b a).length ≤ lb.length := by rw [← pb.length_eq]; exact less_le b a
  have no : ∀ {ρ : Nat → Bag Nm} {p q : Nat}, e[p]? = some r → e[q]? = some s → SolR g.ops g.next e ρ → ∃ ρ', Sat (stR g.ops g.next) ρ' ∧ ρ' r = ρ p ∧ ρ' s = ρ q := fun hp hq ⟨ρ', h1, h2⟩ => ⟨ρ', h2, h1 _ _ hp, h1 _ _ hq⟩
  by_cases e1 : v = w
  · subst e1
    refine ⟨g.ops, g.next, (less a b).isEmpty && (less b a).isEmpty, wa.of2 wb fun k h1 h2 => ?_, h, by omega, he, fun p q hp hq => ⟨fun ht ρ => ?_, fun ht => ⟨rfl, rfl, fun ρ hρ => ?_⟩⟩⟩
    · unfold sameRow; rw [h1, h2]; simp
    · rw [Bool.and_eq_true, less_emp, less_emp] at ht
      refine ⟨fun hρ => ⟨hρ, ?_⟩, fun hρ => hρ.1⟩
      obtain ⟨ρ', h1, h2, h3⟩ := no hp hq hρ
      rw [← h2, ← h3, same_var fa fb h1]
      funext k
      have := congrFun ht.1 k
      have := congrFun ht.2 k
      simp only [sub, zb] at *; omega
    · obtain ⟨ρ', h1, h2, h3⟩ := no hp hq hρ
      rw [← h2, ← h3]
      intro hh
      have := (same_var fa fb h1).1 hh
      rw [← Bool.not_eq_true, Bool.and_eq_true, less_emp, less_emp, this] at ht
      exact ht ⟨funext fun k => by simp [sub, zb], funext fun k => by simp [sub, zb]⟩
  · by_cases e2 : ((v == 0 && !(less b a).isEmpty) || (w == 0 && !(less a b).isEmpty)) = true
    · refine ⟨g.ops, g.next, false, wa.of2 wb fun k h1 h2 => ?_, h, by omega, he, fun p q hp hq => ⟨(by intro h; cases h), fun ht => ⟨rfl, rfl, fun ρ hρ => ?_⟩⟩⟩
      · unfold sameRow; rw [h1, h2]; simp only [if_neg e1, if_pos e2]
      · obtain ⟨ρ', h1, h2, h3⟩ := no hp hq hρ
        rw [← h2, ← h3]
        simp only [Bool.or_eq_true, Bool.and_eq_true, beq_iff_eq, Bool.not_eq_true'] at e2
        rcases e2 with ⟨rfl, q⟩ | ⟨rfl, q⟩
        · have : vO w = some w := by unfold vO; rw [if_neg (Ne.symm e1)]
          rw [this] at fb
          exact closed_no fa fb (by rw [Ne, ← less_emp, q]; simp) h1
        · have : vO v = some v := by unfold vO; rw [if_neg e1]
          rw [this] at fa
          exact (closed_no fb fa (by rw [Ne, ← less_emp, q]; simp) h1).symm
    · by_cases e3 : v = 0
      · subst e3
        have hw0 : w ≠ 0 := Ne.symm e1
        have hw : g.next[w]? = some none := kb.var.resolve_left hw0
        have hwl := (List.getElem?_eq_some_iff.1 hw).1
        have vw : vO w = some w := by unfold vO; rw [if_neg hw0]
        rw [vw] at fb
        have q : (less b a).isEmpty = true := by cases q : (less b a).isEmpty with | true => rfl | false => simp [q] at e2
        rw [less_emp] at q
        refine ⟨g.ops.set w (less a b), g.next.set w (some 0), true, wa.of2 wb fun k h1 h2 => ?_, h.close hw ka ld, by simp, by simpa using he, fun p q' hp hq => ⟨fun ht ρ => ?_, by intro h; cases h⟩⟩
        · unfold sameRow; rw [h1, h2]; simp only [if_neg e1, if_neg e2, if_true, G.stands, wL_eq, wO_eq, wN_eq]
        · refine SolR.two (og := fun x => x ∈ e) (fun _ => Iff.rfl) hp hq (fun ρ => ?_) ρ
          rw [stR_set h.len hwl, less_bag]
          constructor
          · rintro ⟨ρ', h1, h2⟩
            obtain ⟨h3, h4⟩ := (closed_yes fa fb q).1 h2
            exact ⟨⟨ρ', h1, h3⟩, by rw [← h1 r (List.mem_of_getElem? hp), ← h1 s (List.mem_of_getElem? hq)]; exact h4⟩
          · rintro ⟨⟨ρ', h1, h3⟩, h4⟩
            exact ⟨ρ', h1, (closed_yes fa fb q).2 ⟨h3, by rw [h1 r (List.mem_of_getElem? hp), h1 s (List.mem_of_getElem? hq)]; exact h4⟩⟩
      · have hv : g.next[v]? = some none := ka.var.resolve_left e3
        have hvl := (List.getElem?_eq_some_iff.1 hv).1
        have vv : vO v = some v := by unfold vO; rw [if_neg e3]
        rw [vv] at fa
        by_cases e4 : w = 0
        · subst e4
          have q : (less a b).isEmpty = true := by cases q : (less a b).isEmpty with | true => rfl | false => simp [q] at e2
          rw [less_emp] at q
          refine ⟨g.ops.set v (less b a), g.next.set v (some 0), true, wa.of2 wb fun k h1 h2 => ?_, h.close hv kb le, by simp, by simpa using he, fun p q' hp hq => ⟨fun ht ρ => ?_, by intro h; cases h⟩⟩
          · unfold sameRow; rw [h1, h2]; simp only [if_neg e1, if_neg e2, if_neg e3, if_true, G.stands, wL_eq, wO_eq, wN_eq]
          · refine SolR.two (og := fun x => x ∈ e) (fun _ => Iff.rfl) hp hq (fun ρ => ?_) ρ
            rw [stR_set h.len hvl, less_bag]
            constructor
            · rintro ⟨ρ', h1, h2⟩
              obtain ⟨h3, h4⟩ := (closed_yes fb fa q).1 h2
              exact ⟨⟨ρ', h1, h3⟩, by rw [← h1 r (List.mem_of_getElem? hp), ← h1 s (List.mem_of_getElem? hq)]; exact h4.symm⟩
            · rintro ⟨⟨ρ', h1, h3⟩, h4⟩
              exact ⟨ρ', h1, (closed_yes fb fa q).2 ⟨h3, by rw [h1 r (List.mem_of_getElem? hp), h1 s (List.mem_of_getElem? hq)]; exact h4.symm⟩⟩
        · have hw : g.next[w]? = some none := kb.var.resolve_left e4
          have hwl := (List.getElem?_eq_some_iff.1 hw).1
          have vw : vO w = some w := by unfold vO; rw [if_neg e4]
          rw [vw] at fb
          have hxp := h.zpos
          obtain ⟨x, hx⟩ : ∃ x, g.next.length = x + 1 := ⟨g.next.length - 1, by omega⟩
          refine ⟨((g.ops ++ [[]]).set v (less b a)).set w (less a b), ((g.next ++ [none]).set v (some g.next.length)).set w (some g.next.length), true, wa.of2 wb fun k h1 h2 => ?_, h.two hv hw e1 ka kb ld le, by simp, fun x hx => by have := he x hx; simp; omega, fun p q' hp hq => ⟨fun ht ρ => ?_, by intro h; cases h⟩⟩
          · unfold sameRow; rw [h1, h2]; simp only [if_neg e1, if_neg e2, if_neg e3, if_neg e4, G.opn, G.putRow, if_pos hb, G.stands, wL_eq, wO_eq, wN_eq]; rw [h.len]
          · refine SolR.two (og := fun x => x ∈ e) (fun _ => Iff.rfl) hp hq (fun ρ => ?_) ρ
            have l1 : ((g.ops ++ [[]]).set v (less b a)).length = ((g.next ++ [none]).set v (some g.next.length)).length := by simp [h.len]
            rw [stR_set l1 (by simp; omega), stR_set (by simp [h.len]) (by simp; omega), stR_open h.len, less_bag, less_bag, hx]
            refine two_vars fa fb e1 (by simp [stR, ← hx]) (by omega) (by omega) (fun hh => by have := he _ hh; omega) (fun q hq => ?_) ⟨List.mem_of_getElem? hp, List.mem_of_getElem? hq⟩
            simp only [stR] at hq
            split at hq
            · cases hq
            · rename_i q2 h9
              cases hq
              obtain ⟨l, u, k⟩ := h.all q (List.getElem?_eq_some_iff.1 h9).1
              cases k with
              | nil k _ => rw [h9] at k; cases k
              | opn k _ => rw [h9] at k; cases k
              | row k _ k2 => rw [h9] at k; cases k; have := k2.lt; omega
            · cases hq
end Go.Slv
set_option linter.unusedVariables false
set_option linter.unusedSimpArgs false
namespace Go.Slv
open Go.Inf Go.Urw Go.Ucl
/-- Whether the second or the first of two nodes is kept. -/
def lkX (d : Bool) (g : G) (m n : Nat) : G := if d then g.lnk n m else g.lnk m n
def argX (f : G → Nat → Nat → Option (G × Bool)) (g : G) (x y : Option (Option Nat)) : Option (G × Bool) := match x, y with
  | some none, _ => some (g, true)
  | some (some p), some (some q) => f g p q
  | _, _ => none
def rwX (k : Nat) (g : G) (km : Nat) (m n : Nat) : Option (G × Bool) := if km = 6 then (match g.row[m]?, g.row[n]? with
  | some r, some s => sameRow k g r s
  | _, _ => none) else some (g, true)
/-- Both programs' Same: they keep different nodes. -/
def sameX (d : Bool) : Nat → G → Nat → Nat → Option (G × Bool)
  | 0, _, _, _ => none
  | k + 1, g, m, n => match find k g m, find k g n with
    | some m, some n =>
      if m = n then some (g, true) else
      match g.kind[m]?, g.kind[n]? with
      | some km, some kn =>
        if km = 0 then some (g.lnk m n, true)
        else if kn = 0 then some (g.lnk n m, true)
        else if km ≠ kn then some (g, false)
        else
          let g := lkX d g m n
          match argX (sameX d k) g g.a[m]? g.a[n]? with
          | some (g, false) => some (g, false)
          | some (g, true) => match argX (sameX d k) g g.b[m]? g.b[n]? with
            | some (g, false) => some (g, false)
            | some (g, true) => rwX k g km m n
            | none => none
          | none => none
      | _, _ => none
    | _, _ => none
/-! ### What does not change -/
structure AG where
  kind : List Nat
  a : List (Option Nat)
  b : List (Option Nat)
  rj : List Nat
def AG.kd (A : AG) (x : Nat) : Nat := (A.kind[x]?).getD 0
def AG.pa (A : AG) (x : Nat) : Nat := ((A.a[x]?).getD none).getD 0
def AG.pb (A : AG) (x : Nat) : Nat := ((A.b[x]?).getD none).getD 0
def kidsK (k p q : Nat) : List Nat := if k = 4 then [p] else if k = 5 ∨ k = 6 then [p, q] else []
def grA (A : AG) : Gr where
  var x := A.kd x = 0
  kd := A.kd
  kids x := kidsK (A.kd x) (A.pa x) (A.pb x)
  row x := if A.kd x = 6 then some ((A.rj[x]?).getD 0) else none
  ar x y _ _ h := by
    simp only [h]
    refine ⟨by unfold kidsK; repeat' split
               all_goals rfl, by split <;> rfl⟩
structure AG.WF (A : AG) (nj : Nat) : Prop where
  la : A.a.length = A.kind.length
  lb : A.b.length = A.kind.length
  lr : A.rj.length = A.kind.length
  a1 : ∀ (x k : Nat), A.kind[x]? = some k → (k = 4 ∨ k = 5 ∨ k = 6) → ∃ p, A.a[x]? = some (some p) ∧ p < x
  a0 : ∀ (x k : Nat), A.kind[x]? = some k → ¬ (k = 4 ∨ k = 5 ∨ k = 6) → A.a[x]? = some none
  b1 : ∀ (x k : Nat), A.kind[x]? = some k → (k = 5 ∨ k = 6) → ∃ p, A.b[x]? = some (some p) ∧ p < x
  b0 : ∀ (x k : Nat), A.kind[x]? = some k → ¬ (k = 5 ∨ k = 6) → A.b[x]? = some none
  rj : ∀ (x j : Nat), A.rj[x]? = some j → j < nj
/-- How a graph lies to what does not change: the rows that there were at first have the numbers e. -/
structure Inv (A : AG) (e : List Nat) (T : Nat) (g : G) : Prop where
  kind : g.kind = A.kind
  a : g.a = A.a
  b : g.b = A.b
  row : g.row = A.rj.map fun j => (e[j]?).getD 0
  ll : g.link.length = A.kind.length
  all : All g.link
  ri : RI g.ops g.next T
  el : ∀ x ∈ e, x < g.next.length
  wf : A.WF e.length
  vr : ∀ x z, En g.link x z → A.kd z = 0 → A.kd x = 0
def U (l : List (Option Nat)) : Nat := l.countP fun o => o.isNone
theorem U_set {l : List (Option Nat)} {a b : Nat} (h : l[a]? = some none) : U (l.set a (some b)) + 1 = U l := by
  have hl := (List.getElem?_eq_some_iff.1 h).1
  have h2 : l[a] = none := by rw [List.getElem?_eq_getElem hl] at h; exact Option.some.inj h
  unfold U
  rw [List.countP_set hl, h2]
  have : 0 < l.countP fun o => o.isNone := List.countP_pos_iff.2 ⟨none, h2 ▸ List.getElem_mem hl, rfl⟩
  simp; omega
theorem join_congr {E : Rel} (h : Eqv E) {a b a' b' : Nat} (ha : E a a') (hb : E b b') : join E a b = join E a' b' := by
  funext x y
  apply propext
  have e1 : ∀ z, E z a ↔ E z a' := fun z => ⟨fun k => h.trans _ _ _ k ha, fun k => h.trans _ _ _ k (h.symm _ _ ha)⟩
  have e2 : ∀ z, E b z ↔ E b' z := fun z => ⟨fun k => h.trans _ _ _ (h.symm _ _ hb) k, fun k => h.trans _ _ _ hb k⟩
  have e3 : ∀ z, E z b ↔ E z b' := fun z => ⟨fun k => h.trans _ _ _ k hb, fun k => h.trans _ _ _ k (h.symm _ _ hb)⟩
  have e4 : ∀ z, E a z ↔ E a' z := fun z => ⟨fun k => h.trans _ _ _ (h.symm _ _ ha) k, fun k => h.trans _ _ _ ha k⟩
  unfold join
  rw [e1, e2, e3, e4]
theorem join_comm (E : Rel) (a b : Nat) : join E a b = join E b a := by
  funext x y
  apply propext
  unfold join
  have : ∀ p q r : Prop, p ∨ q ∨ r → p ∨ r ∨ q := fun _ _ _ h => h.imp_right Or.symm
  exact ⟨this _ _ _, this _ _ _⟩
abbrev ES (e : List Nat) (g : G) : (Nat → Bag Nm) → Prop := SolR g.ops g.next e
/-- From a graph to the next one: these tasks are done. -/
structure Q (A : AG) (e : List Nat) (g g' : G) (t : Bool) (ts : List Tk) : Prop where
  yes : t = true → ∀ us r E S, Run (grA A) (Eq1 g'.link) (ES e g') us r E S → Run (grA A) (Eq1 g.link) (ES e g) (ts ++ us) r E S
  no : t = false → ∀ us, ∃ E S, Run (grA A) (Eq1 g.link) (ES e g) (ts ++ us) false E S
structure Post (A : AG) (e : List Nat) (T c : Nat) (g g' : G) (t : Bool) (ts : List Tk) : Prop where
  inv : Inv A e T g'
  tv : g'.tv = g.tv
  rv : g'.rv = g.rv
  u : U g'.link ≤ U g.link
  o : g'.ops.length + U g'.link ≤ g.ops.length + U g.link + c
  q : Q A e g g' t ts
section
variable {A : AG} {e : List Nat} {T : Nat}
theorem Q.seq {g g1 g2 : G} {t : Bool} {ts us : List Tk} (h : Q A e g g1 true ts) (k : Q A e g1 g2 t us) : Q A e g g2 t (ts ++ us) :=
  ⟨fun ht vs r E S hr => by rw [List.append_assoc]; exact h.yes rfl _ _ _ _ (k.yes ht vs r E S hr), fun ht vs => by
    obtain ⟨E, S, hr⟩ := k.no ht vs
    exact ⟨E, S, by rw [List.append_assoc]; exact h.yes rfl _ _ _ _ hr⟩⟩
theorem Q.cut {g g1 : G} {ts : List Tk} (h : Q A e g g1 false ts) (us : List Tk) : Q A e g g1 false (ts ++ us) :=
  ⟨fun q => (by cases q), fun _ vs => by rw [List.append_assoc]; exact h.no rfl _⟩
theorem Post.refl {g : G} (h : Inv A e T g) : Post A e T 0 g g true [] := ⟨h, rfl, rfl, Nat.le_refl _, Nat.le_refl _, ⟨fun _ us r E S hr => hr, fun q => by cases q⟩⟩
theorem Post.seq {g g1 g2 : G} {c c' : Nat} {t : Bool} {ts us : List Tk} (h : Post A e T c g g1 true ts) (k : Post A e T c' g1 g2 t us) : Post A e T (c + c') g g2 t (ts ++ us) :=
  ⟨k.inv, k.tv.trans h.tv, k.rv.trans h.rv, Nat.le_trans k.u h.u, by have := h.o; have := k.o; omega, h.q.seq k.q⟩
theorem Post.cut {g g1 : G} {c c' : Nat} {ts : List Tk} (h : Post A e T c g g1 false ts) (us : List Tk) (hc : c ≤ c') : Post A e T c' g g1 false (ts ++ us) :=
  ⟨h.inv, h.tv, h.rv, h.u, by have := h.o; omega, h.q.cut us⟩
theorem Inv.lnk {g : G} (h : Inv A e T g) {m n : Nat} (hm : g.link[m]? = some none) (hn : g.link[n]? = some none) (hne : m ≠ n) (hk : A.kd n = 0 → A.kd m = 0) : Inv A e T (g.lnk m n) ∧ Eq1 (g.lnk m n).link = join (Eq1 g.link) m n ∧ U (g.lnk m n).link + 1 = U g.link ∧ (g.lnk m n).ops = g.ops ∧ (g.lnk m n).next = g.next ∧ (g.lnk m n).tv = g.tv ∧ (g.lnk m n).rv = g.rv := by
  simp only [G.lnk, wN_eq, wL_eq]
  refine ⟨⟨h.kind, h.a, h.b, h.row, by rw [List.length_set]; exact h.ll, h.all.link hm hn hne, h.ri, h.el, h.wf, fun x z hz k0 => ?_⟩, eq1_link hm hn hne, U_set hm, trivial, trivial, trivial, trivial⟩
  obtain ⟨y, h1, h2⟩ := hz.unlink hm hn hne
  by_cases q : y = m
  · subst q; rw [if_pos rfl] at h2; subst h2; exact h.vr x _ h1 (hk k0)
  · rw [if_neg q] at h2; subst h2; exact h.vr x _ h1 k0
theorem Inv.lkX {g : G} (h : Inv A e T g) (d : Bool) {m n : Nat} (hm : g.link[m]? = some none) (hn : g.link[n]? = some none) (hne : m ≠ n) (km : A.kd m ≠ 0) (kn : A.kd n ≠ 0) : Inv A e T (lkX d g m n) ∧ Eq1 (lkX d g m n).link = join (Eq1 g.link) m n ∧ U (lkX d g m n).link + 1 = U g.link ∧ (lkX d g m n).ops = g.ops ∧ (lkX d g m n).next = g.next ∧ (lkX d g m n).tv = g.tv ∧ (lkX d g m n).rv = g.rv := by
  cases d with
  | false => exact h.lnk hm hn hne (fun q => absurd q kn)
  | true => rw [join_comm]; exact h.lnk hn hm (Ne.symm hne) (fun q => absurd q km)
theorem AG.WF.pa1 (h : A.WF e.length) {x : Nat} (hx : A.kd x = 4 ∨ A.kd x = 5 ∨ A.kd x = 6) : A.a[x]? = some (some (A.pa x)) ∧ A.pa x < x := by
  cases hk : A.kind[x]? with
  | none => simp [AG.kd, hk] at hx
  | some k =>
    obtain ⟨p, h1, h2⟩ := h.a1 x k hk (by simpa [AG.kd, hk] using hx)
    simp [AG.pa, h1, h2]
theorem AG.WF.pb1 (h : A.WF e.length) {x : Nat} (hx : A.kd x = 5 ∨ A.kd x = 6) : A.b[x]? = some (some (A.pb x)) ∧ A.pb x < x := by
  cases hk : A.kind[x]? with
  | none => simp [AG.kd, hk] at hx
  | some k =>
    obtain ⟨p, h1, h2⟩ := h.b1 x k hk (by simpa [AG.kd, hk] using hx)
    simp [AG.pb, h1, h2]
theorem AG.WF.pa0 (h : A.WF e.length) {x : Nat} (hl : x < A.kind.length) (hx : ¬ (A.kd x = 4 ∨ A.kd x = 5 ∨ A.kd x = 6)) : A.a[x]? = some none :=
  h.a0 x _ (List.getElem?_eq_getElem hl) (by simpa [AG.kd, hl] using hx)
theorem AG.WF.pb0 (h : A.WF e.length) {x : Nat} (hl : x < A.kind.length) (hx : ¬ (A.kd x = 5 ∨ A.kd x = 6)) : A.b[x]? = some none :=
  h.b0 x _ (List.getElem?_eq_getElem hl) (by simpa [AG.kd, hl] using hx)
theorem AG.kd_some {x : Nat} (hl : x < A.kind.length) : A.kind[x]? = some (A.kd x) := by simp [AG.kd, hl]
end
/-- What is asked of two nodes of one kind. -/
abbrev tsA (A : AG) (m n : Nat) : List Tk := if A.kd m = 4 ∨ A.kd m = 5 ∨ A.kd m = 6 then [.ty (A.pa m) (A.pa n)] else []
abbrev tsB (A : AG) (m n : Nat) : List Tk := if A.kd m = 5 ∨ A.kd m = 6 then [.ty (A.pb m) (A.pb n)] else []
abbrev tsC (A : AG) (m n : Nat) : List Tk := if A.kd m = 6 then [.rw ((A.rj[m]?).getD 0) ((A.rj[n]?).getD 0)] else []
theorem kts_eq {A : AG} {m n : Nat} (h : A.kd m = A.kd n) : kts (grA A) m n = tsA A m n ++ tsB A m n ++ tsC A m n := by
  unfold kts
  show List.map _ (List.zip (kidsK (A.kd m) (A.pa m) (A.pb m)) (kidsK (A.kd n) (A.pa n) (A.pb n))) ++ (match (if A.kd m = 6 then some ((A.rj[m]?).getD 0) else none), (if A.kd n = 6 then some ((A.rj[n]?).getD 0) else none) with | some r, some s => [Tk.rw r s] | _, _ => []) = _
  rw [← h]
  unfold tsA tsB tsC kidsK
  by_cases h4 : A.kd m = 4
  · simp [h4]
  · by_cases h5 : A.kd m = 5
    · simp [h5]
    · by_cases h6 : A.kd m = 6
      · simp [h6]
      · simp [h4, h5, h6]
section
variable {A : AG} {e : List Nat} {T : Nat}
def Good (A : AG) (e : List Nat) (T : Nat) (d : Bool) (N : Nat) : Prop := ∀ (g : G) (m n : Nat), Inv A e T g → U g.link ≤ N → g.ops.length + U g.link < big → m < A.kind.length → n < A.kind.length →
  ∃ g' t, Ev (fun k => sameX d k g m n) (g', t) ∧ Post A e T 0 g g' t [.ty m n]
theorem argA_spec {d : Bool} {N : Nat} (ih : Good A e T d N) {g : G} (h : Inv A e T g) (hu : U g.link ≤ N) (hb : g.ops.length + U g.link < big) {m n : Nat} (hm : m < A.kind.length) (hn : n < A.kind.length) (hk : A.kd m = A.kd n) :
    ∃ g' t, Ev (fun k => argX (sameX d k) g g.a[m]? g.a[n]?) (g', t) ∧ Post A e T 0 g g' t (tsA A m n) := by
  unfold tsA
  by_cases q : A.kd m = 4 ∨ A.kd m = 5 ∨ A.kd m = 6
  · rw [if_pos q, h.a, (h.wf.pa1 q).1, (h.wf.pa1 (hk ▸ q)).1]
    exact ih g _ _ h hu hb (by have := (h.wf.pa1 q).2; omega) (by have := (h.wf.pa1 (x := n) (hk ▸ q)).2; omega)
  · rw [if_neg q, h.a, h.wf.pa0 hm q]
    exact ⟨g, true, Ev.pure _, Post.refl h⟩
theorem argB_spec {d : Bool} {N : Nat} (ih : Good A e T d N) {g : G} (h : Inv A e T g) (hu : U g.link ≤ N) (hb : g.ops.length + U g.link < big) {m n : Nat} (hm : m < A.kind.length) (hn : n < A.kind.length) (hk : A.kd m = A.kd n) :
    ∃ g' t, Ev (fun k => argX (sameX d k) g g.b[m]? g.b[n]?) (g', t) ∧ Post A e T 0 g g' t (tsB A m n) := by
  unfold tsB
  by_cases q : A.kd m = 5 ∨ A.kd m = 6
  · rw [if_pos q, h.b, (h.wf.pb1 q).1, (h.wf.pb1 (hk ▸ q)).1]
    exact ih g _ _ h hu hb (by have := (h.wf.pb1 q).2; omega) (by have := (h.wf.pb1 (x := n) (hk ▸ q)).2; omega)
  · rw [if_neg q, h.b, h.wf.pb0 hm q]
    exact ⟨g, true, Ev.pure _, Post.refl h⟩
theorem rwX_spec {g : G} (h : Inv A e T g) (hT : T < big) (hb : g.ops.length < big) {m n : Nat} (hm : m < A.kind.length) (hn : n < A.kind.length) :
    ∃ g' t, Ev (fun k => rwX k g (A.kd m) m n) (g', t) ∧ Post A e T 1 g g' t (tsC A m n) := by
  unfold tsC rwX
  by_cases q : A.kd m = 6
  · simp only [if_pos q]
    have hx : ∀ {x}, x < A.kind.length → A.rj[x]? = some ((A.rj[x]?).getD 0) ∧ ∃ r, e[(A.rj[x]?).getD 0]? = some r ∧ g.row[x]? = some r ∧ r < g.next.length := fun {x} hx => by
      have hl : x < A.rj.length := by rw [h.wf.lr]; exact hx
      have h1 : A.rj[x]? = some A.rj[x] := List.getElem?_eq_getElem hl
      have h2 := h.wf.rj x _ h1
      refine ⟨by simp [hl], e[A.rj[x]], by simp [hl, h2], ?_, h.el _ (List.getElem_mem h2)⟩
      rw [h.row, List.getElem?_map, h1]; simp [h2]
    obtain ⟨_, r, hr1, hr2, hr3⟩ := hx hm
    obtain ⟨_, s, hs1, hs2, hs3⟩ := hx hn
    rw [hr2, hs2]
    obtain ⟨o, nn, t, hE, hR, hlen, hel, hh⟩ := sameRow_spec h.ri hT hb hr3 hs3 h.el
    obtain ⟨h1, h2⟩ := hh _ _ hr1 hs1
    refine ⟨_, t, hE, ⟨h.kind, h.a, h.b, h.row, h.ll, h.all, hR, hel, h.wf, h.vr⟩, rfl, rfl, Nat.le_refl _, (by show o.length + U g.link ≤ _; omega), fun ht us r' E S hr => ?_, fun ht us => ?_⟩
    · refine .rowOk ?_
      have : (fun ρ => ES e g ρ ∧ ρ ((A.rj[m]?).getD 0) = ρ ((A.rj[n]?).getD 0)) = ES e { g with ops := o, next := nn } := by
        funext ρ; exact propext (h1 ht ρ).symm
      rw [this]; exact hr
    · exact ⟨_, _, .rowNo (h2 ht).2.2⟩
  · simp only [if_neg q]
    obtain ⟨a, b, c, d, f, i⟩ := Post.refl h
    exact ⟨g, true, Ev.pure _, a, b, c, d, by omega, i⟩
theorem same_spec (hT : T < big) (d : Bool) : ∀ N, Good A e T d N := by
  intro N
  induction N using Nat.strongRecOn with
  | _ N ih =>
  intro g m n h hu hb hm hn
  obtain ⟨m1, hm1⟩ := h.all m (by rw [h.ll]; exact hm)
  obtain ⟨n1, hn1⟩ := h.all n (by rw [h.ll]; exact hn)
  have fm := hm1.find
  have fn := hn1.find
  have eqv := eq1_eqv g.link
  have Em := hm1.eq1
  have En1 := hn1.eq1
  by_cases e1 : m1 = n1
  · subst e1
    refine ⟨g, true, (fm.of2 fn fun k h1 h2 => ?_ : Ev (fun k => sameX d (k + 1) g m n) (g, true)).step fun _ => rfl, ?_⟩
    · unfold sameX; rw [h1, h2]; simp
    · exact ⟨h, rfl, rfl, Nat.le_refl _, Nat.le_refl _, fun _ us r E S hr => .eq (eqv.trans _ _ _ Em (eqv.symm _ _ En1)) hr, fun q => by cases q⟩
  · have lm : m1 < A.kind.length := by rw [← h.ll]; exact hm1.lt2
    have ln : n1 < A.kind.length := by rw [← h.ll]; exact hn1.lt2
    have km : g.kind[m1]? = some (A.kd m1) := by rw [h.kind]; exact AG.kd_some lm
    have kn : g.kind[n1]? = some (A.kd n1) := by rw [h.kind]; exact AG.kd_some ln
    have jn : join (Eq1 g.link) m n = join (Eq1 g.link) m1 n1 := join_congr eqv Em En1
    have cls : ∀ {x x1}, En g.link x x1 → A.kd x1 = 0 → ∀ y, Eq1 g.link x y → (grA A).var y := fun hx h0 y hy => h.vr y _ (hy.en hx) h0
    by_cases k0 : A.kd m1 = 0
    · obtain ⟨i1, i2, i3, i4, i5, i6, i7⟩ := h.lnk hm1.last hn1.last e1 (fun _ => k0)
      refine ⟨g.lnk m1 n1, true, (fm.of2 fn fun k h1 h2 => ?_ : Ev (fun k => sameX d (k + 1) g m n) (g.lnk m1 n1, true)).step fun _ => rfl, i1, i6, i7, by omega, by rw [i4]; omega, fun _ us r E S hr => ?_, fun q => by cases q⟩
      · unfold sameX; simp only [h1, h2, if_neg e1, km, kn, if_pos k0]
      · refine .var (.inl (cls hm1 k0)) ?_
        rw [jn, ← i2]
        unfold ES at hr ⊢
        rw [i4, i5] at hr; exact hr
    · by_cases k1 : A.kd n1 = 0
      · obtain ⟨i1, i2, i3, i4, i5, i6, i7⟩ := h.lnk hn1.last hm1.last (Ne.symm e1) (fun q => absurd q k0)
        refine ⟨g.lnk n1 m1, true, (fm.of2 fn fun k h1 h2 => ?_ : Ev (fun k => sameX d (k + 1) g m n) (g.lnk n1 m1, true)).step fun _ => rfl, i1, i6, i7, by omega, by rw [i4]; omega, fun _ us r E S hr => ?_, fun q => by cases q⟩
        · unfold sameX; simp only [h1, h2, if_neg e1, km, kn, if_neg k0, if_pos k1]
        · refine .var (.inr (cls hn1 k1)) ?_
          rw [jn, join_comm, ← i2]
          unfold ES at hr ⊢
          rw [i4, i5] at hr; exact hr
      · by_cases k2 : A.kd m1 = A.kd n1
        · obtain ⟨i1, i2, i3, i4, i5, i6, i7⟩ := h.lkX d hm1.last hn1.last e1 k0 k1
          have key : ∀ {g' : G} {t : Bool} {c : Nat}, Post A e T c (lkX d g m1 n1) g' t (tsA A m1 n1 ++ tsB A m1 n1 ++ tsC A m1 n1) → c ≤ 1 → Post A e T 0 g g' t [.ty m n] := fun {g' t c} hp hc => by
            refine ⟨hp.inv, hp.tv.trans i6, hp.rv.trans i7, by have := hp.u; omega, by have := hp.o; rw [i4] at this; omega, fun ht us r E S hr => ?_, fun ht us => ?_⟩
            · refine .node Em En1 k0 k1 k2 ?_
              rw [jn, ← i2, kts_eq k2]
              have := hp.q.yes ht us r E S hr
              unfold ES at this ⊢
              rw [i4, i5] at this; exact this
            · obtain ⟨E, S, hr⟩ := hp.q.no ht us
              refine ⟨E, S, .node Em En1 k0 k1 k2 ?_⟩
              rw [jn, ← i2, kts_eq k2]
              unfold ES at hr ⊢
              rw [i4, i5] at hr; exact hr
          have hu1 : U (lkX d g m1 n1).link ≤ N - 1 := by omega
          have hb1 : (lkX d g m1 n1).ops.length + U (lkX d g m1 n1).link < big := by rw [i4]; omega
          obtain ⟨g2, t2, ⟨pa, ha⟩, PA⟩ := argA_spec (ih (N - 1) (by omega)) i1 hu1 hb1 lm ln k2
          obtain ⟨pm, fm⟩ := fm
          obtain ⟨pn, fn⟩ := fn
          have enter : ∀ {g' : G} {t : Bool} (K : Nat), (∀ k, K ≤ k → sameX d (k + 1) g m n = some (g', t)) → Ev (fun k => sameX d k g m n) (g', t) := fun {g' t} K hK => Ev.step (F := fun k => sameX d (k + 1) g m n) (fun _ => rfl) ⟨K, hK⟩
          cases t2 with
          | false =>
            refine ⟨g2, false, enter (pm + pn + pa) (fun k hk => ?_), key (by rw [List.append_assoc]; exact PA.cut _ (Nat.le_refl _)) (Nat.zero_le _)⟩
            have h3 := ha k (by omega)
            unfold sameX; simp only [fm k (by omega), fn k (by omega), if_neg e1, km, kn, if_neg k0, if_neg k1, if_neg (not_not_intro k2), h3]
          | true =>
            obtain ⟨g3, t3, ⟨pb, hb'⟩, PB⟩ := argB_spec (ih (N - 1) (by omega)) PA.inv (Nat.le_trans PA.u hu1) (by have := PA.o; omega) lm ln k2
            have PAB := PA.seq PB
            cases t3 with
            | false =>
              refine ⟨g3, false, enter (pm + pn + pa + pb) (fun k hk => ?_), key (PAB.cut _ (Nat.le_refl _)) (Nat.zero_le _)⟩
              have h3 := ha k (by omega)
              have h4 := hb' k (by omega)
              unfold sameX; simp only [fm k (by omega), fn k (by omega), if_neg e1, km, kn, if_neg k0, if_neg k1, if_neg (not_not_intro k2), h3, h4]
            | true =>
              obtain ⟨g4, t4, ⟨pc, hc'⟩, PC⟩ := rwX_spec PAB.inv hT (by have := PAB.o; omega) lm ln
              refine ⟨g4, t4, enter (pm + pn + pa + pb + pc) (fun k hk => ?_), key (PAB.seq PC) (Nat.le_refl _)⟩
              have h3 := ha k (by omega)
              have h4 := hb' k (by omega)
              have h5 := hc' k (by omega)
              unfold sameX; simp only [fm k (by omega), fn k (by omega), if_neg e1, km, kn, if_neg k0, if_neg k1, if_neg (not_not_intro k2), h3, h4, h5]
        · refine ⟨g, false, (fm.of2 fn fun k h1 h2 => ?_ : Ev (fun k => sameX d (k + 1) g m n) (g, false)).step fun _ => rfl, h, rfl, rfl, Nat.le_refl _, Nat.le_refl _, fun q => (by cases q), fun _ us => ⟨_, _, .clash Em En1 k0 k1 k2⟩⟩
          unfold sameX; simp only [h1, h2, if_neg e1, km, kn, if_neg k0, if_neg k1, ne_eq, k2, not_false_eq_true, if_true]
end
end Go.Slv
set_option linter.unusedVariables false
set_option linter.unusedSimpArgs false
namespace Go.Urw
variable {K : Type}
/-- Two rows that are the same in every solution. -/
theorem same_whole {σ : St K} (hσ : Ok σ) (k0 : K) {r s : Nat} (h : ∀ ρ, Sat σ ρ → ρ r = ρ s) {a b : Bag K} {v w : Option Nat} (h1 : Wh σ r a v) (h2 : Wh σ s b w) : a = b ∧ v = w := by
  have go : ∀ α : Nat → Bag K, add a (ov α v) = add b (ov α w) := fun α => by
    obtain ⟨ρ, hρ, hv⟩ := hσ.ex α
    rw [← hv _ _ _ h1, ← hv _ _ _ h2]; exact h ρ hρ
  have hz : ∀ v : Option Nat, ov (fun _ => (zb : Bag K)) v = zb := fun v => by cases v <;> rfl
  have e0 := go fun _ => zb
  rw [hz, hz, add_zb, add_zb] at e0
  subst e0
  have key : ∀ α : Nat → Bag K, ov α v = ov α w := fun α => funext fun k => by have := congrFun (go α) k; simp only [add] at this; omega
  have one : (fun _ => 1 : Bag K) ≠ zb := fun e => by have := congrFun e k0; simp [zb] at this
  refine ⟨rfl, ?_⟩
  cases v with
  | none => cases w with
    | none => rfl
    | some w => exact absurd (key fun _ _ => 1).symm one
  | some v => cases w with
    | none => exact absurd (key fun _ _ => 1) one
    | some w =>
      by_cases e : v = w
      · rw [e]
      · have := key fun q => if q = v then (fun _ => 1) else zb
        simp only [ov, if_true] at this
        rw [if_neg (Ne.symm e)] at this
        exact absurd this one
end Go.Urw
namespace Go.Slv
open Go.Inf Go.Urw Go.Ucl
def AG.ka (A : AG) (x : Nat) : Option Nat := if A.kd x = 4 ∨ A.kd x = 5 ∨ A.kd x = 6 then some (A.pa x) else none
def AG.kb (A : AG) (x : Nat) : Option Nat := if A.kd x = 5 ∨ A.kd x = 6 then some (A.pb x) else none
theorem countP_drop {n r : Nat} {P P' : Nat → Bool} (h : ∀ x, P' x = true → P x = true) (hr : r < n) (h1 : P r = true) (h2 : P' r = false) : (List.range n).countP P' + 1 ≤ (List.range n).countP P := by
  induction n with
  | zero => omega
  | succ n ih =>
    rw [List.range_succ, List.countP_append, List.countP_append, List.countP_singleton, List.countP_singleton]
    by_cases e : r = n
    · subst e
      have := List.countP_mono_left (l := List.range r) (fun x _ => h x)
      rw [h1, h2]; simp; omega
    · have := ih (by omega)
      cases hp : P' n with
      | false => simp; split <;> omega
      | true => rw [h n hp]; simp; omega
section
variable {A : AG} {e : List Nat} {T : Nat} {g : G}
theorem Inv.ga (h : Inv A e T g) {x : Nat} (hx : x < A.kind.length) : g.a[x]? = some (A.ka x) := by
  rw [h.a]; unfold AG.ka; split
  · rename_i q; exact (h.wf.pa1 q).1
  · rename_i q; exact h.wf.pa0 hx q
theorem Inv.gb (h : Inv A e T g) {x : Nat} (hx : x < A.kind.length) : g.b[x]? = some (A.kb x) := by
  rw [h.b]; unfold AG.kb; split
  · rename_i q; exact (h.wf.pb1 q).1
  · rename_i q; exact h.wf.pb0 hx q
theorem Inv.gk (h : Inv A e T g) {x : Nat} (hx : x < A.kind.length) : g.kind[x]? = some (A.kd x) := by rw [h.kind]; exact AG.kd_some hx
def AG.j (A : AG) (x : Nat) : Nat := (A.rj[x]?).getD 0
theorem Inv.gr (h : Inv A e T g) {x : Nat} (hx : x < A.kind.length) : ∃ r, e[A.j x]? = some r ∧ g.row[x]? = some r ∧ r < g.next.length := by
  have hl : x < A.rj.length := by rw [h.wf.lr]; exact hx
  have h1 : A.rj[x]? = some A.rj[x] := List.getElem?_eq_getElem hl
  have h2 := h.wf.rj x _ h1
  refine ⟨e[A.rj[x]], by simp [AG.j, hl, h2], ?_, h.el _ (List.getElem_mem h2)⟩
  rw [h.row, List.getElem?_map, h1]; simp [h2]
theorem Inv.root (h : Inv A e T g) {x : Nat} (hx : x < A.kind.length) : ∃ r, En g.link x r ∧ r < A.kind.length ∧ En g.link r r ∧ Eq1 g.link x r := by
  obtain ⟨r, hr⟩ := h.all x (by rw [h.ll]; exact hx)
  exact ⟨r, hr, by rw [← h.ll]; exact hr.lt2, hr.end, hr.eq1⟩
theorem Inv.ne (h : Inv A e T g) : ∃ ρ, ES e g ρ := by
  obtain ⟨ρ, h1, _⟩ := h.ri.ok.ex fun _ => zb
  exact ⟨fun j => ρ ((e[j]?).getD 0), ρ, fun j x hj => by simp [hj], h1⟩
end
theorem ka_nz {A : AG} {x p : Nat} (h : A.ka x = some p ∨ A.kb x = some p) : A.kd x ≠ 0 := by
  intro h0; unfold AG.ka AG.kb at h; rw [h0] at h; simp at h
section
variable {A : AG} {E : Rel} {S : (Nat → Bag Nm) → Prop}
/-- The parts of two nodes that are one are one. -/
theorem up_kids (h : Upto (grA A) E S []) (hne : ∃ ρ, S ρ) {x y : Nat} (hxy : E x y) (hx : A.kd x ≠ 0) (hy : A.kd y ≠ 0) :
    A.kd x = A.kd y ∧ (∀ p, A.ka x = some p → ∃ q, A.ka y = some q ∧ E p q) ∧ (∀ p, A.kb x = some p → ∃ q, A.kb y = some q ∧ E p q) ∧ (A.kd x = 6 → ∀ ρ, S ρ → ρ (A.j x) = ρ (A.j y)) := by
  have hk := h.kd x y hx hy hxy
  have al := fun ρ (hρ : S ρ) => alike_iff.1 ((h.sol hρ).al x y hx hy hxy)
  obtain ⟨ρ, hρ⟩ := hne
  have a1 := (al ρ hρ).1
  change A.kd x = A.kd y at hk
  refine ⟨hk, fun p hp => ?_, fun p hp => ?_, fun h6 ρ hρ => ?_⟩
  · unfold AG.ka at hp ⊢
    rw [hk] at hp
    split at hp
    · rename_i q; cases hp
      rw [if_pos q]
      refine ⟨_, rfl, a1 0 _ _ ?_ ?_⟩
      · show (kidsK (A.kd x) _ _)[0]? = _
        rw [hk]; rcases q with q | q | q <;> simp [kidsK, q]
      · show (kidsK (A.kd y) _ _)[0]? = _
        rcases q with q | q | q <;> simp [kidsK, q]
    · cases hp
  · unfold AG.kb at hp ⊢
    rw [hk] at hp
    split at hp
    · rename_i q; cases hp
      rw [if_pos q]
      refine ⟨_, rfl, a1 1 _ _ ?_ ?_⟩
      · show (kidsK (A.kd x) _ _)[1]? = _
        rw [hk]; rcases q with q | q <;> simp [kidsK, q]
      · show (kidsK (A.kd y) _ _)[1]? = _
        rcases q with q | q <;> simp [kidsK, q]
    · cases hp
  · refine (al ρ hρ).2 _ _ ?_ ?_
    · show (if A.kd x = 6 then _ else _) = _; rw [if_pos h6]; rfl
    · show (if A.kd y = 6 then _ else _) = _; rw [if_pos (hk ▸ h6)]; rfl
/-- A type has at most this height. -/
def Ht (A : AG) (E : Rel) : Nat → Nat → Prop
  | 0, _ => False
  | h + 1, n => ∀ x, E n x → ∀ p, A.ka x = some p ∨ A.kb x = some p → Ht A E h p
theorem Ht.eqv (hE : Eqv E) {h n m : Nat} (k : Ht A E h n) (hnm : E n m) : Ht A E h m := by
  cases h with
  | zero => exact k
  | succ h => exact fun x hx => k x (hE.trans _ _ _ hnm hx)
theorem Ht.mono {h n : Nat} (k : Ht A E h n) : Ht A E (h + 1) n := by
  induction h generalizing n with
  | zero => exact k.elim
  | succ h ih => exact fun x hx p hp => ih (k x hx p hp)
theorem Ht.up {h h' n : Nat} (k : Ht A E h n) (hh : h ≤ h') : Ht A E h' n := by
  induction hh with
  | refl => exact k
  | step _ ih => exact ih.mono
def Ac (A : AG) (E : Rel) (n : Nat) : Prop := ∃ h, Ht A E h n
end
section
variable {A : AG} {e : List Nat} {T : Nat} {g : G}
/-- A node's height by its root's parts. -/
theorem Inv.ac (hI : Inv A e T g) (up : Upto (grA A) (Eq1 g.link) (ES e g) []) {n r : Nat} (hr : En g.link n r) (k : ∀ p, A.ka r = some p ∨ A.kb r = some p → Ac A (Eq1 g.link) p) : Ac A (Eq1 g.link) n := by
  have eqv := eq1_eqv g.link
  obtain ⟨H, hH⟩ : ∃ H, ∀ p, A.ka r = some p ∨ A.kb r = some p → Ht A (Eq1 g.link) H p := by
    have one : ∀ o : Option Nat, (∀ p, o = some p → Ac A (Eq1 g.link) p) → ∃ H, ∀ p, o = some p → Ht A (Eq1 g.link) H p := fun o ho => by
      cases o with
      | none => exact ⟨0, fun p q => by cases q⟩
      | some p => obtain ⟨H, hH⟩ := ho p rfl; exact ⟨H, fun q hq => by cases hq; exact hH⟩
    obtain ⟨H1, h1⟩ := one _ fun p hp => k p (.inl hp)
    obtain ⟨H2, h2⟩ := one _ fun p hp => k p (.inr hp)
    exact ⟨max H1 H2, fun p hp => hp.elim (fun q => (h1 p q).up (Nat.le_max_left _ _)) (fun q => (h2 p q).up (Nat.le_max_right _ _))⟩
  refine ⟨H + 1, fun x hx p hp => ?_⟩
  have hx0 := ka_nz hp
  have hxr : Eq1 g.link x r := eqv.trans _ _ _ (eqv.symm _ _ hx) hr.eq1
  have hr0 : A.kd r ≠ 0 := fun h0 => hx0 (hI.vr x r (hx.en hr) h0)
  obtain ⟨_, k1, k2, _⟩ := up_kids up hI.ne hxr hx0 hr0
  rcases hp with hp | hp
  · obtain ⟨q, hq, hpq⟩ := k1 p hp
    exact (hH q (.inl hq)).eqv eqv (eqv.symm _ _ hpq)
  · obtain ⟨q, hq, hpq⟩ := k2 p hp
    exact (hH q (.inr hq)).eqv eqv (eqv.symm _ _ hpq)
end
/-- Two graphs that stand for the same. -/
structure Two (A : AG) (e d : List Nat) (T T' : Nat) (g f : G) : Prop where
  ig : Inv A e T g
  jf : Inv A d T' f
  n : e.length = d.length
  E : Eq1 g.link = Eq1 f.link
  S : ∀ ρ, ES e g ρ ↔ ES d f ρ
  up : Upto (grA A) (Eq1 g.link) (ES e g) []
/-- A row's variable (0: none). -/
def VR (g : G) (e : List Nat) (j v : Nat) : Prop := ∃ r l, e[j]? = some r ∧ WhL g.ops g.next r l v
section
variable {A : AG} {e d : List Nat} {T T' : Nat} {g f : G}
theorem Two.symm (h : Two A e d T T' g f) : Two A d e T' T f g := by
  have e1 : ES e g = ES d f := funext fun ρ => propext (h.S ρ)
  exact ⟨h.jf, h.ig, h.n.symm, h.E.symm, fun ρ => (h.S ρ).symm, by rw [← h.E, ← e1]; exact h.up⟩
theorem Two.tell (h : Two A e d T T' g f) {i j r s r' s' : Nat} {a a' b b' : List Nm} {v v' w w' : Nat} (hi : e[i]? = some r) (hi' : d[i]? = some r') (hj : e[j]? = some s) (hj' : d[j]? = some s')
    (h1 : WhL g.ops g.next r a v) (h2 : WhL f.ops f.next r' a' v') (k1 : WhL g.ops g.next s b w) (k2 : WhL f.ops f.next s' b' w') : bag a = bag a' ∧ (v = 0 ↔ v' = 0) ∧ (v = w → v' = w') := by
  have gi : ∀ {l : List Nat} {i x : Nat}, l[i]? = some x → (l[i]?).getD 0 = x := fun h => by rw [h]; rfl
  have key := Urw.tell h.ig.ri.ok h.jf.ri.ok ⟨#[]⟩ (e := fun i => (e[i]?).getD 0) (d := fun i => (d[i]?).getD 0) (og := fun i => i < e.length) (fun ρ => ?_) (List.getElem?_eq_some_iff.1 hi).1 (List.getElem?_eq_some_iff.1 hj).1
    (show Wh _ ((e[i]?).getD 0) _ _ by rw [gi hi]; exact h1.wh h.ig.ri.z) (show Wh _ ((d[i]?).getD 0) _ _ by rw [gi hi']; exact h2.wh h.jf.ri.z)
    (show Wh _ ((e[j]?).getD 0) _ _ by rw [gi hj]; exact k1.wh h.ig.ri.z) (show Wh _ ((d[j]?).getD 0) _ _ by rw [gi hj']; exact k2.wh h.jf.ri.z)
  · refine ⟨key.1, by rw [vO_none, vO_none] at key; exact key.2.1, fun q => vO_inj (key.2.2 (by rw [q]))⟩
  · have conv : ∀ (g : G) (e : List Nat), (∃ ρ' : Nat → Bag Nm, (∀ r, r < e.length → ρ' ((e[r]?).getD 0) = ρ r) ∧ Sat (stR g.ops g.next) ρ') ↔ ES e g ρ := fun g e => by
      constructor
      · rintro ⟨ρ', h1, h2⟩; exact ⟨ρ', fun j x hj => by have := h1 j (List.getElem?_eq_some_iff.1 hj).1; rwa [gi hj] at this, h2⟩
      · rintro ⟨ρ', h1, h2⟩; exact ⟨ρ', fun j hj => h1 j _ (by simp [hj]), h2⟩
    rw [conv, h.S, ← conv, h.n]
/-- A class's root here and there. -/
theorem Two.node (h : Two A e d T T' g f) {n r s : Nat} (hr : En g.link n r) (hs : En f.link n s) :
    A.kd r = A.kd s ∧ (∀ p, A.ka r = some p → ∃ q, A.ka s = some q ∧ Eq1 g.link p q) ∧ (A.ka r = none → A.ka s = none) ∧ (∀ p, A.kb r = some p → ∃ q, A.kb s = some q ∧ Eq1 g.link p q) ∧ (A.kb r = none → A.kb s = none) ∧ (A.kd r = 6 → ∀ ρ, ES e g ρ → ρ (A.j r) = ρ (A.j s)) := by
  have eqv := eq1_eqv g.link
  have hrs : Eq1 g.link r s := eqv.trans _ _ _ (eqv.symm _ _ hr.eq1) (by rw [h.E]; exact hs.eq1)
  by_cases h0 : A.kd r = 0
  · have hs0 : A.kd s = 0 := h.ig.vr s r (hrs.en hr.end) h0
    have n1 : A.ka s = none := by unfold AG.ka; rw [hs0]; rfl
    have n2 : A.kb s = none := by unfold AG.kb; rw [hs0]; rfl
    have n3 : A.ka r = none := by unfold AG.ka; rw [h0]; rfl
    have n4 : A.kb r = none := by unfold AG.kb; rw [h0]; rfl
    rw [n1, n2, n3, n4, h0, hs0]
    exact ⟨rfl, fun p hp => (by cases hp), fun _ => rfl, fun p hp => (by cases hp), fun _ => rfl, fun h => (by omega)⟩
  · have hs0 : A.kd s ≠ 0 := fun q => h0 (h.jf.vr r s (by
      have : Eq1 f.link s r := by rw [← h.E]; exact eqv.symm _ _ hrs
      exact this.en hs.end) q)
    obtain ⟨k1, k2, k3, k4⟩ := up_kids h.up h.ig.ne hrs h0 hs0
    refine ⟨k1, k2, fun q => ?_, k3, fun q => ?_, k4⟩
    · unfold AG.ka at q ⊢; rw [← k1]; split at q
      · cases q
      · rename_i q2; rw [if_neg q2]
    · unfold AG.kb at q ⊢; rw [← k1]; split at q
      · cases q
      · rename_i q2; rw [if_neg q2]
theorem Inv.wh (hI : Inv A e T g) (hT : T < big) {j r : Nat} (hj : e[j]? = some r) : ∃ l v, WhL g.ops g.next r l v ∧ Ev (fun k => whole k g r []) (putAll [] l, v) ∧ l.length ≤ T ∧ VR g e j v := by
  obtain ⟨l, v, hw⟩ := hI.ri.all r (hI.el _ (List.mem_of_getElem? hj))
  have hb := hI.ri.bound hw
  exact ⟨l, v, hw, hw.ev [] (by simp; omega), hb, r, l, hj, hw⟩
theorem VR.det {j v w : Nat} (h : VR g e j v) (k : VR g e j w) : v = w := by
  obtain ⟨r, l, h1, h2⟩ := h
  obtain ⟨s, m, k1, k2⟩ := k
  rw [h1] at k1; cases k1
  exact (h2.det k2).2
/-- The rows of a class's roots: the same names in order; their variables. -/
theorem Two.rows (h : Two A e d T T' g f) (hT : T < big) (hT' : T' < big) {n r s : Nat} (hr : En g.link n r) (hs : En f.link n s) (h6 : A.kd r = 6) :
    ∃ x y l v w, g.row[r]? = some x ∧ f.row[s]? = some y ∧ Ev (fun k => whole k g x []) (l, v) ∧ Ev (fun k => whole k f y []) (l, w) ∧ VR g e (A.j r) v ∧ VR f d (A.j r) w ∧ (v = 0 ↔ w = 0) ∧ l.length ≤ T := by
  have lr : r < A.kind.length := by rw [← h.ig.ll]; exact hr.lt2
  have ls : s < A.kind.length := by rw [← h.jf.ll]; exact hs.lt2
  obtain ⟨x, hx1, hx2, _⟩ := h.ig.gr lr
  obtain ⟨y, hy1, hy2, _⟩ := h.jf.gr ls
  obtain ⟨z, hz⟩ : ∃ z, d[A.j r]? = some z := ⟨d[A.j r]'(by rw [← h.n]; exact (List.getElem?_eq_some_iff.1 hx1).1), by simp⟩
  obtain ⟨la, v, ka, ea, ba, va⟩ := h.ig.wh hT hx1
  obtain ⟨lb, w, kb, eb, bb, vb⟩ := h.jf.wh hT' hy1
  obtain ⟨lc, u, kc, ec, bc, vc⟩ := h.jf.wh hT' hz
  obtain ⟨t1, t2, _⟩ := h.tell hx1 hz hx1 hz ka kc ka kc
  obtain ⟨_, _, _, _, _, hρ⟩ := h.node hr hs
  have sm := same_whole h.jf.ri.ok ⟨#[]⟩ (r := z) (s := y) (fun ρ' hρ' => by
    have := hρ h6 (fun j => ρ' ((d[j]?).getD 0)) ((h.S _).2 ⟨ρ', fun j x hj => by simp [hj], hρ'⟩)
    simpa [hz, hy1] using this) (kc.wh h.jf.ri.z) (kb.wh h.jf.ri.z)
  have e2 := vO_inj sm.2
  subst e2
  have el : putAll [] lb = putAll [] la := srt_eq (putAll_srt .nil _) (putAll_srt .nil _) (by
    rw [bag_perm (putAll_perm [] lb), bag_perm (putAll_perm [] la), List.nil_append, List.nil_append, ← sm.1, ← t1])
  rw [el] at eb
  exact ⟨x, y, _, v, u, hx2, hy2, ea, eb, va, vc, t2, by rw [(putAll_perm [] la).length_eq]; simpa using ba⟩
end
end Go.Slv
