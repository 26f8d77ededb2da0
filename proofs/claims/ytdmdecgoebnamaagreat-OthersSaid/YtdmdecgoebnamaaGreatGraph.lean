/- The document's types as nodes and rows (chapter 3), in plain Lean. -/
import GoSem.Op.String
import Derived.Test.YtdmdecgoebnamaaGreatSx4
import Derived.Test.YtdmdecgoebnamaaGreatGx
import Derived.Maps.RangeRun
set_option linter.unusedVariables false
set_option linter.unusedSimpArgs false
namespace Go.Inf
/-- A name's bytes. -/
abbrev Nm := ByteArray
/-- Is a name at most another one? -/
def leN (a b : Nm) : Bool := Go.Op.bytesLess a.data.toList b.data.toList || (a.data.toList == b.data.toList)
def eqN (a b : Nm) : Bool := a.data.toList == b.data.toList
structure G where
  kind : List Nat
  a : List (Option Nat)
  b : List (Option Nat)
  row : List Nat
  link : List (Option Nat)
  ops : List (List Nm)
  next : List (Option Nat)
  tv : List (Int × Nat)
  rv : List (Int × Nat)
/-- Numbers and lists that are reckoned out before one goes on (a matter of the kernel's alone). -/
def wN {β : Type} (n : Nat) (k : Nat → β) : β := match n with
  | 0 => k 0
  | m + 1 => k (m + 1)
def wO {β : Type} (o : Option Nat) (k : Option Nat → β) : β := match o with
  | none => k none
  | some n => wN n fun n => k (some n)
def wL {α β : Type} : List α → (List α → β) → β
  | [], k => k []
  | x :: l, k => wL l fun l => k (x :: l)
theorem wN_eq {β : Type} (n : Nat) (k : Nat → β) : wN n k = k n := by cases n <;> rfl
theorem wO_eq {β : Type} (o : Option Nat) (k : Option Nat → β) : wO o k = k o := by cases o <;> simp [wO, wN_eq]
theorem wL_eq {α β : Type} (l : List α) (k : List α → β) : wL l k = k l := by
  induction l generalizing k with
  | nil => rfl
  | cons x l ih => simp [wL, ih]
def big : Nat := 1000000000
def G.new : G := ⟨[], [], [], [], [], [[]], [some 0], [], []⟩
def G.put (g : G) (kd : Nat) (a b : Option Nat) (r : Nat) : Option (G × Nat) :=
  if g.kind.length < big then wO a fun a => wO b fun b => wN r fun r => wN g.kind.length fun n => wL (g.kind ++ [kd]) fun k' => wL (g.a ++ [a]) fun a' => wL (g.b ++ [b]) fun b' => wL (g.row ++ [r]) fun r' => wL (g.link ++ [none]) fun l' =>
    some (⟨k', a', b', r', l', g.ops, g.next, g.tv, g.rv⟩, n) else none
def G.putRow (g : G) (l : List Nm) (nx : Option Nat) : Option (G × Nat) :=
  if g.ops.length < big then wL l fun l => wO nx fun nx => wN g.ops.length fun n => wL (g.ops ++ [l]) fun o' => wL (g.next ++ [nx]) fun n' => some (⟨g.kind, g.a, g.b, g.row, g.link, o', n', g.tv, g.rv⟩, n) else none
def G.var (g : G) : Option (G × Nat) := g.put 0 none none 0
def G.opn (g : G) : Option (G × Nat) := g.putRow [] none
def find : Nat → G → Nat → Option Nat
  | 0, _, _ => none
  | k + 1, g, n => match g.link[n]? with
    | some (some m) => find k g m
    | some none => some n
    | none => none
/-- A name joins names in order. -/
def putN : List Nm → Nm → List Nm
  | [], s => [s]
  | x :: l, s => if leN x s then x :: putN l s else s :: x :: l
def putAll (l : List Nm) : List Nm → List Nm
  | [] => l
  | s :: r => putAll (putN l s) r
def whole : Nat → G → Nat → List Nm → Option (List Nm × Nat)
  | 0, _, _, _ => none
  | k + 1, g, r, acc => match g.ops[r]? with
    | some l => if acc.length + l.length < big then (match g.next[r]? with
      | some none => some (putAll acc l, r)
      | some (some 0) => some (putAll acc l, 0)
      | some (some (q + 1)) => whole k g (q + 1) (putAll acc l)
      | none => none) else none
    | none => none
/-- The first of b that is s and not used. -/
def firstN (s : Nm) : List (Nm × Bool) → Option Nat
  | [] => none
  | (x, u) :: r => if !u && eqN x s then some 0 else (firstN s r).map (· + 1)
def lessG : List Nm → List (Nm × Bool) → List Nm
  | [], _ => []
  | s :: a, b => match firstN s b with
    | none => s :: lessG a b
    | some j => lessG a (b.set j (s, true))
def less (a b : List Nm) : List Nm := lessG a (b.map fun x => (x, false))
def G.stands (g : G) (v : Nat) (l : List Nm) (nx : Option Nat) : G := wN v fun v => wL l fun l => wO nx fun nx => wL (g.ops.set v l) fun o' => wL (g.next.set v nx) fun n' => ⟨g.kind, g.a, g.b, g.row, g.link, o', n', g.tv, g.rv⟩
def G.lnk (g : G) (m n : Nat) : G := wN m fun m => wN n fun n => wL (g.link.set m (some n)) fun l' => ⟨g.kind, g.a, g.b, g.row, l', g.ops, g.next, g.tv, g.rv⟩
def sameRow (k : Nat) (g : G) (r s : Nat) : Option (G × Bool) :=
  match whole k g r [], whole k g s [] with
  | some (a, v), some (b, w) =>
    let d := less a b
    let e := less b a
    if v = w then some (g, d.isEmpty && e.isEmpty)
    else if (v == 0 && !e.isEmpty) || (w == 0 && !d.isEmpty) then some (g, false)
    else if v = 0 then some (g.stands w d (some 0), true)
    else if w = 0 then some (g.stands v e (some 0), true)
    else match g.opn with
      | some (g, x) => some ((g.stands v e (some x)).stands w d (some x), true)
      | none => none
  | _, _ => none
def same : Nat → G → Nat → Nat → Option (G × Bool)
  | 0, _, _, _ => none
  | k + 1, g, m, n => match find k g m, find k g n with
    | some m, some n =>
      if m = n then some (g, true) else
      match g.kind[m]?, g.kind[n]? with
      | some km, some kn =>
        if km = 0 then some (g.lnk m n, true)
        else if kn = 0 then some (g.lnk n m, true)
        else if km ≠ kn then some (g, false)
        else
          let g := g.lnk m n
          let arg (g : G) (x y : Option (Option Nat)) : Option (G × Bool) := match x, y with
            | some none, _ => some (g, true)
            | some (some p), some (some q) => same k g p q
            | _, _ => none
          match arg g g.a[m]? g.a[n]? with
          | some (g, false) => some (g, false)
          | some (g, true) => match arg g g.b[m]? g.b[n]? with
            | some (g, false) => some (g, false)
            | some (g, true) => if km = 6 then (match g.row[m]?, g.row[n]? with
              | some r, some s => sameRow k g r s
              | _, _ => none) else some (g, true)
            | none => none
          | none => none
      | _, _ => none
    | _, _ => none
/-- seen: 1: it is being looked at, 2: it was. -/
abbrev Seen := List (Nat × Nat)
def Seen.at (s : Seen) (n : Nat) : Nat := match s with
  | [] => 0
  | (m, v) :: r => if m = n then v else Seen.at r n
def Seen.put (s : Seen) (n v : Nat) : Seen := match s with
  | [] => [(n, v)]
  | (m, u) :: r => if m = n then (n, v) :: r else (m, u) :: Seen.put r n v
def round : Nat → G → Nat → Seen → Option (Bool × Seen)
  | 0, _, _, _ => none
  | k + 1, g, n, s => match find k g n with
    | some n =>
      if 0 < s.at n then some (s.at n == 1, s) else
      let s := s.put n 1
      let arg (x : Option (Option Nat)) (s : Seen) : Option (Bool × Seen) := match x with
        | some none => some (false, s)
        | some (some m) => round k g m s
        | none => none
      match arg g.a[n]? s with
      | some (true, s) => some (true, s)
      | some (false, s) => match arg g.b[n]? s with
        | some (true, s) => some (true, s)
        | some (false, s) => some (false, s.put n 2)
        | none => none
      | none => none
    | none => none
def parts : Nat → G → Nat → Seen → Option (Nat × Seen)
  | 0, _, _, _ => none
  | k + 1, g, n, s => match find k g n with
    | some n =>
      if 0 < s.at n then some (s.at n, s) else
      let arg (x : Option (Option Nat)) (c : Nat) (s : Seen) : Option (Nat × Seen) := match x with
        | some none => some (c, s)
        | some (some m) => match parts k g m s with
          | some (j, s) => some (c + j, s)
          | none => none
        | none => none
      match arg g.a[n]? 1 s with
      | some (c, s) => match arg g.b[n]? c s with
        | some (c, s) =>
          let own : Option Nat := match g.kind[n]? with
            | some 6 => (match g.row[n]? with
              | some r => (whole k g r []).map fun p => p.1.length
              | none => none)
            | some _ => some 0
            | none => none
          match own with
          | some j => if c + j ≤ 2147483647 then some (min (c + j) 1000000, s.put n (min (c + j) 1000000)) else none
          | none => none
        | none => none
      | none => none
    | none => none
/-- A type as plain data. -/
inductive Ty
  | mk (kind n row : Nat) (ops : List Nm) (args : List Ty)
def Ty.kind : Ty → Nat | .mk k _ _ _ _ => k
structure Nams where
  t : List (Int × Nat)
  r : List (Int × Nat)
def lookI (n : Int) : List (Int × Nat) → Option Nat
  | [] => none
  | (m, v) :: r => if m = n then some v else lookI n r
/-- The number of a variable, a new one perhaps. -/
def numb (m : List (Int × Nat)) (n : Nat) : List (Int × Nat) × Nat := match lookI n m with
  | some k => (m, k)
  | none => (m ++ [((n : Int), m.length + 1)], m.length + 1)
def told : Nat → G → Nat → Nams → Option (Ty × Nams)
  | 0, _, _, _ => none
  | k + 1, g, n, l => match find k g n with
    | some n => match g.kind[n]? with
      | some 0 => if l.t.length < big then (let (t, c) := numb l.t n; some (.mk 0 c 0 [] [], { l with t := t })) else none
      | some kd =>
        let arg (x : Option (Option Nat)) (l : Nams) : Option (List Ty × Nams) := match x with
          | some none => some ([], l)
          | some (some m) => match told k g m l with
            | some (t, l) => some ([t], l)
            | none => none
          | none => none
        match arg g.a[n]? l with
        | some (ta, l) =>
          let rw : Option (List Nm × Nat × Nams) := if kd = 6 then (match g.row[n]? with
            | some r => (match whole k g r [] with
              | some (ops, 0) => some (ops, 0, l)
              | some (ops, v + 1) => if l.r.length < big then (let (t, c) := numb l.r (v + 1); some (ops, c, { l with r := t })) else none
              | none => none)
            | none => none) else some ([], 0, l)
          match rw with
          | some (ops, c, l) => match arg g.b[n]? l with
            | some (tb, l) => some (.mk kd 0 c ops (ta ++ tb), l)
            | none => none
          | none => none
        | none => none
      | none => none
    | none => none
/-- The node of a written type. -/
def ofT : Nat → G → Ty → Option (G × Nat)
  | 0, _, _ => none
  | k + 1, g, .mk kd n row ops args =>
    if kd = 0 then (match lookI n g.tv with
      | some m => some (g, m)
      | none => match g.var with
        | some (g, m) => some ({ g with tv := g.tv ++ [((n : Int), m)] }, m)
        | none => none)
    else
      let arg (g : G) (x : Option Ty) : Option (G × Option Nat) := match x with
        | none => some (g, none)
        | some t => match ofT k g t with
          | some (g, m) => some (g, some m)
          | none => none
      match arg g args[0]? with
      | some (g, a) => match arg g args[1]? with
        | some (g, b) =>
          if kd = 6 then
            let nx : Option (G × Nat) := if 0 < row then (match lookI row g.rv with
              | some m => some (g, m)
              | none => match g.opn with
                | some (g, m) => some ({ g with rv := g.rv ++ [((row : Int), m)] }, m)
                | none => none) else some (g, 0)
            match nx with
            | some (g, m) => match g.putRow ops (some m) with
              | some (g, r) => g.put kd a b r
              | none => none
            | none => none
          else g.put kd a b 0
        | none => none
      | none => none
end Go.Inf
namespace Go.Inf
open Go.RowKit Go.Sx
def nats (l : List Nat) : List Value := l.map fun n : Nat => .int .i64 (n : Int)
def eI : Option Nat → Int
  | none => -1
  | some n => (n : Int)
def onats (l : List (Option Nat)) : List Value := l.map fun o => .int .i64 (eI o)
section
variable {P : Program} {t i : Nat}
theorem nats_at {l : List Nat} {n : Nat} (h : l[i]? = some n) (ht : P.underlying t = some (.int .i64) := by kernel_rfl) : loadX P t (nats l) (i * 1) (.int .i64 (n : Int)) := by
  unfold loadX; rw [ht]; simp [nats, h]
theorem onats_none {l : List (Option Nat)} (h : l[i]? = some none) (ht : P.underlying t = some (.int .i64) := by kernel_rfl) : loadX P t (onats l) (i * 1) (.int .i64 (-1)) := by
  unfold loadX; rw [ht]; simp [onats, eI, h]
theorem onats_some {l : List (Option Nat)} {n : Nat} (h : l[i]? = some (some n)) (ht : P.underlying t = some (.int .i64) := by kernel_rfl) : loadX P t (onats l) (i * 1) (.int .i64 (n : Int)) := by
  unfold loadX; rw [ht]; simp [onats, eI, h]
end
theorem nats_len (l : List Nat) : (nats l).length = l.length := List.length_map _
theorem onats_len (l : List (Option Nat)) : (onats l).length = l.length := List.length_map _
theorem nats_app (l : List Nat) (n : Nat) : nats l ++ [.int .i64 (n : Int)] = nats (l ++ [n]) := by simp [nats]
theorem onats_app (l : List (Option Nat)) {o : Option Nat} {v : Int} (h : v = eI o) : onats l ++ [.int .i64 v] = onats (l ++ [o]) := by simp [onats, h]
theorem onats_set (l : List (Option Nat)) (i : Nat) {o : Option Nat} {v : Int} (h : v = eI o) : (onats l).set (i * 1) (.int .i64 v) = onats (l.set i o) := by simp [onats, h, List.map_set]
/-! ### Lists of names -/
/-- A row of names that is only read. -/
def Strs (w : World) (S : Nat → Prop) (A : Option Addr) (l : List Nm) : Prop := ∀ i s, l[i]? = some s → ∃ a, A = some a ∧ S a.block ∧ w.cells? 0 (a.add (i * 1)) 1 = some [.string s]
theorem cells_same {w w' : World} {a : Addr} {n : Nat} {cs : List Value} (h : w.cells? 0 a n = some cs) (x : w'.heap[a.block]? = w.heap[a.block]?) : w'.cells? 0 a n = some cs := by
  have e : (fun i => w'.cell? (a.add i)) = fun i => w.cell? (a.add i) := funext fun i => by
    unfold World.cell?
    have : (a.add i).block = a.block := by unfold Addr.add; split <;> rfl
    rw [this, x]
  unfold World.cells? at h ⊢
  rw [e]
  exact h
theorem add_block (a : Addr) (n : Nat) : (a.add n).block = a.block := by unfold Addr.add; split <;> rfl
theorem Strs.keep {w w' : World} {S : Nat → Prop} {A : Option Addr} {l : List Nm} (h : Strs w S A l) (k : ∀ c, S c → w'.heap[c]? = w.heap[c]?) : Strs w' S A l := fun i s hs => by
  obtain ⟨a, ha, hS, hc⟩ := h i s hs
  exact ⟨a, ha, hS, cells_same hc (by rw [add_block]; exact k _ hS)⟩
theorem Strs.mono {w : World} {S S' : Nat → Prop} {A : Option Addr} {l : List Nm} (h : Strs w S A l) (k : ∀ c, S c → S' c) : Strs w S' A l := fun i s hs => by
  obtain ⟨a, ha, hS, hc⟩ := h i s hs
  exact ⟨a, ha, k _ hS, hc⟩
/-- A list of names that nobody else has. -/
def strI (S : Nat → Prop) (A : Option Addr) (l : List Nm) : Sx.Item := .abs S (fun w => Strs w S A l)
def strs (l : List Nm) : List Value := l.map Value.string
theorem strI_loc (S : Nat → Prop) (A : Option Addr) (l : List Nm) : Sx.Loc S (fun w => Strs w S A l) := fun _ _ _ hk h => h.keep hk
/-- A list's name at a place. -/
def gn (l : List Nm) (i : Nat) : Nm := (l[i]?).getD ⟨#[]⟩
theorem gn_at {l : List Nm} {i : Nat} (h : i < l.length) : l[i]? = some (gn l i) := by simp [gn, h]
theorem leN_eq (a b : Nm) : leN a b = (Go.Op.bytesLess a.toList b.toList || (a.toList == b.toList)) := by unfold leN; rw [ByteArray.toList_eq, ByteArray.toList_eq]
theorem eqN_eq (a b : Nm) : eqN a b = (a.toList == b.toList) := by unfold eqN; rw [ByteArray.toList_eq, ByteArray.toList_eq]
theorem Strs.nil {w : World} {S : Nat → Prop} {l : List Nm} (h : Strs w S none l) : l = [] := by
  cases l with
  | nil => rfl
  | cons s l => obtain ⟨a, ha, _⟩ := h 0 s rfl; cases ha
theorem strs_app (l : List Nm) (s : Nm) : strs l ++ [.string s] = strs (l ++ [s]) := by simp [strs]
theorem strs_take {l : List Nm} {i : Nat} (h : i < l.length) : strs (l.take i) ++ [.string (gn l i)] = strs (l.take (i + 1)) := by
  rw [strs_app, List.take_add_one, gn_at h]; rfl
theorem strs_cat (l m : List Nm) : strs l ++ strs m = strs (l ++ m) := by simp [strs]
theorem strs_one (l : List Nm) : ∀ u ∈ strs l, u.oneCell' = true := by
  intro u hu
  obtain ⟨s, _, rfl⟩ := List.mem_map.1 hu
  rfl
theorem putN_at {s : Nm} : ∀ {l : List Nm} {i : Nat}, i ≤ l.length → (∀ j, j < i → leN (gn l j) s = true) → (i = l.length ∨ leN (gn l i) s = false) → putN l s = l.take i ++ s :: l.drop i
  | [], i, h, _, _ => by have : i = 0 := by simpa using h
                         subst this; rfl
  | x :: l, 0, _, _, hx => by
    rcases hx with q | q
    · simp at q
    · have : leN x s = false := q
      simp [putN, this]
  | x :: l, i + 1, h, hle, hx => by
    have h0 : leN x s = true := hle 0 (by omega)
    simp only [putN, h0, if_true, List.take_succ_cons, List.drop_succ_cons, List.cons_append]
    have e : gn (x :: l) (i + 1) = gn l i := by simp [gn]
    have hx' : i = l.length ∨ leN (gn l i) s = false := hx.imp (fun q => by simpa using q) (fun q => e ▸ q)
    rw [putN_at (l := l) (i := i) (by simpa using h) (fun j hj => hle (j + 1) (by omega)) hx']
theorem putN_len (l : List Nm) (s : Nm) : (putN l s).length = l.length + 1 := by
  induction l with
  | nil => rfl
  | cons x l ih => unfold putN; split <;> simp [ih]
theorem and2 {a b : Bool} (h : (a && b) = true) : a = true ∧ b = true := by cases a <;> cases b <;> simp_all
theorem and0 {a b : Bool} (h : (a && b) = false) : a = false ∨ b = false := by cases a <;> cases b <;> simp_all
theorem strI_nil {w : World} : (strI (fun _ => False) none []).holds w := ⟨fun _ _ h => by simp at h, fun _ h => h.elim, strI_loc _ _ _⟩
/-- A row of one's own of names, as such a list. -/
theorem own_strI {w : World} {e n cap : Nat} {A : Option Addr} {l : List Nm} (h : w.ownsRow 0 e 1 (.slice A n cap) n (strs l)) : (strI (fun c => (Value.slice A n cap).ownBlock = some c) A l).holds w := by
  refine ⟨fun i s hs => ?_, fun c hc => own_lt h hc, strI_loc _ _ _⟩
  have hn : l.length = n := by have := h.1; simpa [strs] using this
  have hi : i < n := by rw [← hn]; exact (List.getElem?_eq_some_iff.1 hs).1
  rcases h.2 with ⟨_, h0⟩ | ⟨g, cap', cur, hv, _, hg, hnc, _, hcs, ht⟩
  · omega
  · injection hv with h1 h2 h3
    subst h1 h3
    refine ⟨_, rfl, rfl, ?_⟩
    have hc : cur[i]? = some (.string s) := by
      have : (cur.toList.take (n * 1))[i]? = some (.string s) := by rw [ht, strs, List.getElem?_map, hs]; rfl
      rw [List.getElem?_take, if_pos (by omega)] at this
      simpa using this
    have : (⟨g, 0, none⟩ : Addr).add (i * 1) = ⟨g, i, none⟩ := by unfold Addr.add; split <;> simp_all
    rw [this]
    refine ChangeShapes.cells?_of (Nat.zero_le _) rfl (fun j hj => ?_)
    have hj0 : j = 0 := by simpa using hj
    subst hj0
    rw [Nat.add_zero, cell_of_row w g i cur e (0, 0) hg]
    simpa using hc
section
variable {w0 w : World} {L0 L : List Sx.Item}
theorem Hs.toStr (H : Hs w0 L0 w L) (i : Nat) {e n cap : Nat} {A : Option Addr} {l : List Nm} (hi : L[i]? = some (.own e 1 A cap n (strs l))) : Hs w0 L0 w (L.set i (strI (fun c => (Value.slice A n cap).ownBlock = some c) A l)) :=
  H.as i _ hi rfl (own_strI (H.at i hi)) (fun _ h => h)
end
/-! ### The graph -/
abbrev Slot := Option Addr × Nat × Nat
def slV (s : Slot) : Value := .slice s.1 s.2.1 s.2.2
def OpsAt (w : World) (S : Nat → Prop) (sl : List Slot) (ops : List (List Nm)) : Prop := sl.length = ops.length ∧ ∀ (r : Nat) (s : Slot) (l : List Nm), sl[r]? = some s → ops[r]? = some l → s.2.1 = l.length ∧ Strs w S s.1 l
def rowsI (S : Nat → Prop) (sl : List Slot) (ops : List (List Nm)) : Sx.Item := .abs S (fun w => OpsAt w S sl ops)
theorem rowsI_loc (S : Nat → Prop) (sl : List Slot) (ops : List (List Nm)) : Sx.Loc S (fun w => OpsAt w S sl ops) := fun _ _ _ hk h => ⟨h.1, fun r s l h1 h2 => ⟨(h.2 r s l h1 h2).1, (h.2 r s l h1 h2).2.keep hk⟩⟩
abbrev encN (n : Int) : Value := .int .i64 n
def ivs (l : List (Int × Nat)) : List (Int × Value) := l.map fun p => (p.1, .int .i64 (p.2 : Int))
abbrev mapN (b : Nat) (l : List (Int × Nat)) : Sx.Item := mapI (.int .i64) encN b (ivs l)
structure Gm where
  k : Option Addr × Nat
  a : Option Addr × Nat
  b : Option Addr × Nat
  r : Option Addr × Nat
  l : Option Addr × Nat
  o : Option Addr × Nat
  n : Option Addr × Nat
  bt : Nat
  br : Nat
  sl : List Slot
  S : Nat → Prop
  nk : Nat
  no : Nat
/-- The things that a graph is. -/
abbrev gL (bg : Nat) (g : G) (m : Gm) : List Sx.Item :=
  [.blk bg (.cells #[.slice m.k.1 m.nk m.k.2, .slice m.a.1 m.nk m.a.2, .slice m.b.1 m.nk m.b.2, .slice m.r.1 m.nk m.r.2, .slice m.l.1 m.nk m.l.2, .slice m.o.1 m.no m.o.2, .slice m.n.1 m.no m.n.2, .map (some m.bt), .map (some m.br)] 154),
   .own 3 1 m.k.1 m.k.2 m.nk (nats g.kind), .own 3 1 m.a.1 m.a.2 m.nk (onats g.a), .own 3 1 m.b.1 m.b.2 m.nk (onats g.b), .own 3 1 m.r.1 m.r.2 m.nk (nats g.row), .own 3 1 m.l.1 m.l.2 m.nk (onats g.link),
   .own 30 1 m.o.1 m.o.2 m.no (m.sl.map slV), .own 3 1 m.n.1 m.n.2 m.no (onats g.next), mapN m.bt g.tv, mapN m.br g.rv, rowsI m.S m.sl g.ops]
def GI (S : Nat → Prop) (bg : Nat) (g : G) : Sx.Item := comp (fun L => ∃ m, L = gL bg g m) S
section
variable {w0 w : World} {L0 L : List Sx.Item}
theorem G_open (H : Hs w0 L0 w L) (i : Nat) {S : Nat → Prop} {bg : Nat} {g : G} (hi : picked [i] L = some [GI S bg g]) : ∃ m, Hs w0 L0 w (gL bg g m ++ rest [i] L) := by
  obtain ⟨L', ⟨m, rfl⟩, h⟩ := H.opn i hi
  exact ⟨m, h⟩
theorem G_close (H : Hs w0 L0 w L) (I : List Nat) {bg : Nat} {g : G} (m : Gm) (hi : picked I L = some (gL bg g m)) : ∃ S, Hs w0 L0 w (GI S bg g :: rest I L) :=
  ⟨_, H.cls I hi ⟨m, rfl⟩ rfl⟩
/-- The rows are as long as each other. -/
theorem G_len {R : List Sx.Item} {bg : Nat} {g : G} {m : Gm} (h : Hs w0 L0 w (gL bg g m ++ R)) : g.kind.length = m.nk ∧ g.a.length = m.nk ∧ g.b.length = m.nk ∧ g.row.length = m.nk ∧ g.link.length = m.nk ∧ g.ops.length = m.no ∧ g.next.length = m.no ∧ m.sl.length = m.no := by
  have q := (h.at 1 rfl).1
  have a := (h.at 2 rfl).1
  have b := (h.at 3 rfl).1
  have c := (h.at 4 rfl).1
  have d := (h.at 5 rfl).1
  have e := (h.at 7 rfl).1
  have f := (h.at 6 rfl).1
  have r := (h.at 10 rfl).1.1
  simp only [onats_len, nats_len, Nat.mul_one, List.length_map] at a b c d e f q
  exact ⟨q, a, b, c, d, by omega, e, f⟩
theorem sl_app (sl : List Slot) (A : Option Addr) (n c : Nat) : sl.map slV ++ [.slice A n c] = (sl ++ [(A, n, c)]).map slV := by simp [slV]
theorem sl_set (sl : List Slot) (i : Nat) (A : Option Addr) (n c : Nat) : (sl.map slV).set (i * 1) (.slice A n c) = (sl.set i (A, n, c)).map slV := by simp [slV, List.map_set]
theorem sl_at {P : Program} {t i : Nat} {sl : List Slot} {s : Slot} (h : sl[i]? = some s) (ht : (match P.underlying t with | some (.slice _) => true | _ => false) = true := by kernel_rfl) : loadX P t (sl.map slV) (i * 1) (.slice s.1 s.2.1 s.2.2) := by
  unfold loadX
  split at ht
  · rename_i e hu; rw [hu]; simp [h, slV]
  · cases ht
theorem Strs.drop {w : World} {S : Nat → Prop} {A C : Option Addr} {l : List Nm} {k : Nat} (h : Strs w S A l) (hC : ∀ a, C = some a → ∃ a0, A = some a0 ∧ (k < l.length → a = a0.add (k * 1))) (hn : C = none → A = none) : Strs w S C (l.drop k) := fun i s hs => by
  rw [List.getElem?_drop] at hs
  have hk : k < l.length := by have := (List.getElem?_eq_some_iff.1 hs).1; omega
  obtain ⟨a0, ha, hS, hc⟩ := h (k + i) s hs
  cases C with
  | none => rw [hn rfl] at ha; cases ha
  | some a =>
    obtain ⟨a1, h1, h2⟩ := hC a rfl
    rw [ha] at h1; cases h1
    have := h2 hk
    subst this
    refine ⟨_, rfl, by rw [add_block]; exact hS, ?_⟩
    rw [add_add, ← Nat.add_mul]
    exact hc
theorem Strs.cell {w : World} {S : Nat → Prop} {A : Option Addr} {l : List Nm} (h : Strs w S A l) {a : Addr} (ha : A = some a) : ∀ j u, (strs l)[j]? = some u → w.cell? (a.add j) = some u := by
  intro j u hu
  rw [strs, List.getElem?_map] at hu
  cases hs : l[j]? with
  | none => simp [hs] at hu
  | some s =>
    rw [hs, Option.map_some] at hu
    cases hu
    obtain ⟨a', ha', _, hc⟩ := h j s hs
    rw [ha] at ha'; cases ha'
    have := (World.cells?_some hc).2.2 0 (by decide)
    rw [show (a.add (j * 1)).add 0 = a.add j by rw [Nat.mul_one]; simp [Addr.add]] at this
    simpa using this
/-- A new row joins the rows. -/
theorem rows_add (H : Hs w0 L0 w L) (I : List Nat) {S S2 : Nat → Prop} {sl : List Slot} {ops : List (List Nm)} {A : Option Addr} {l : List Nm} {c n : Nat} (hp : picked I L = some [rowsI S sl ops, strI S2 A l]) (hn : n = l.length) :
    ∃ S', Hs w0 L0 w (rowsI S' (sl ++ [(A, n, c)]) (ops ++ [l]) :: rest I L) := by
  have h1 := H.pick I hp
  have a := (h1.at 0 rfl).1
  have b := (h1.at 1 rfl).1
  have k := H.cls I hp (shape := fun L => L = [rowsI S sl ops, strI S2 A l]) rfl rfl
  have e : ∀ q, fpA [rowsI S sl ops, strI S2 A l] q ↔ S q ∨ S2 q := fun q => by simp [fpA, rowsI, strI, Sx.Item.fp]
  refine ⟨fun q => S q ∨ S2 q, k.as 0 (rowsI (fun q => S q ∨ S2 q) (sl ++ [(A, n, c)]) (ops ++ [l])) rfl rfl ⟨⟨by simp [a.1], fun r s l' hs hl => ?_⟩, fun q hq => ?_, rowsI_loc _ _ _⟩ (fun q hq => (e q).2 hq)⟩
  · rcases Nat.lt_or_ge r sl.length with q | q
    · rw [List.getElem?_append_left q] at hs
      rw [List.getElem?_append_left (by rw [← a.1]; exact q)] at hl
      exact ⟨(a.2 r s l' hs hl).1, (a.2 r s l' hs hl).2.mono (fun _ h => .inl h)⟩
    · rw [List.getElem?_append_right q] at hs
      rw [List.getElem?_append_right (by rw [← a.1]; exact q)] at hl
      rw [← a.1] at hl
      cases hr : r - sl.length with
      | zero => rw [hr] at hs hl; simp at hs hl; subst hs hl; exact ⟨hn, b.mono (fun _ h => .inr h)⟩
      | succ j => rw [hr] at hs; simp at hs
  · rcases hq with q' | q'
    · exact (h1.at 0 rfl).2.1 q q'
    · exact (h1.at 1 rfl).2.1 q q'
/-- A row of the rows is another one now. -/
theorem rows_set (H : Hs w0 L0 w L) (I : List Nat) (v : Nat) {S S2 : Nat → Prop} {sl : List Slot} {ops : List (List Nm)} {A : Option Addr} {l : List Nm} {c n : Nat} (hp : picked I L = some [rowsI S sl ops, strI S2 A l]) (hn : n = l.length) :
    ∃ S', Hs w0 L0 w (rowsI S' (sl.set v (A, n, c)) (ops.set v l) :: rest I L) := by
  have h1 := H.pick I hp
  have a := (h1.at 0 rfl).1
  have b := (h1.at 1 rfl).1
  have k := H.cls I hp (shape := fun L => L = [rowsI S sl ops, strI S2 A l]) rfl rfl
  have e : ∀ q, fpA [rowsI S sl ops, strI S2 A l] q ↔ S q ∨ S2 q := fun q => by simp [fpA, rowsI, strI, Sx.Item.fp]
  refine ⟨fun q => S q ∨ S2 q, k.as 0 (rowsI (fun q => S q ∨ S2 q) (sl.set v (A, n, c)) (ops.set v l)) rfl rfl ⟨⟨by simp [a.1], fun r s l' hs hl => ?_⟩, fun q hq => ?_, rowsI_loc _ _ _⟩ (fun q hq => (e q).2 hq)⟩
  · rw [List.getElem?_set] at hs hl
    by_cases q : v = r
    · subst q
      rw [if_pos rfl] at hs hl
      split at hs <;> try contradiction
      split at hl <;> try contradiction
      cases hs; cases hl
      exact ⟨hn, b.mono (fun _ h => .inr h)⟩
    · rw [if_neg q] at hs hl
      exact ⟨(a.2 r s l' hs hl).1, (a.2 r s l' hs hl).2.mono (fun _ h => .inl h)⟩
  · rcases hq with q' | q'
    · exact (h1.at 0 rfl).2.1 q q'
    · exact (h1.at 1 rfl).2.1 q q'
end
theorem onats_at {P : Program} {t i : Nat} {l : List (Option Nat)} {o : Option Nat} (h : l[i]? = some o) (ht : P.underlying t = some (.int .i64) := by kernel_rfl) : loadX P t (onats l) (i * 1) (.int .i64 (eI o)) := by
  unfold loadX; rw [ht]; simp [onats, h]
theorem rows_at {w0 w : World} {L0 L : List Sx.Item} (H : Hs w0 L0 w L) (j : Nat) {S : Nat → Prop} {sl : List Slot} {ops : List (List Nm)} {r : Nat} {s : Slot} {l : List Nm} (hi : L[j]? = some (rowsI S sl ops)) (hs : sl[r]? = some s) (hl : ops[r]? = some l) : s.2.1 = l.length ∧ Strs w S s.1 l := (H.at j hi).1.2 r s l hs hl
theorem eI_none {o : Option Nat} (h : (eI o == (-1 : Int)) = true) : o = none := by
  cases o with
  | none => rfl
  | some n => have := eq_of_beq h; simp only [eI] at this; omega
theorem eI_zero {o : Option Nat} (h : (eI o == (0 : Int)) = true) : o = some 0 := by
  cases o with
  | none => have := eq_of_beq h; simp [eI] at this
  | some n => have := eq_of_beq h; simp only [eI] at this; congr 1; omega
theorem eI_pos {o : Option Nat} (h : (eI o == (-1 : Int)) = false) (h0 : (eI o == (0 : Int)) = false) : ∃ q, o = some (q + 1) := by
  cases o with
  | none => simp [eI] at h
  | some n =>
    cases n with
    | zero => simp [eI] at h0
    | succ q => exact ⟨q, rfl⟩
theorem whole_cases {z r v : Nat} {g : G} {acc l : List Nm} (h : whole (z + 1) g r acc = some (l, v)) :
    ∃ lr nx, g.ops[r]? = some lr ∧ acc.length + lr.length < 1000000000 ∧ g.next[r]? = some nx ∧ (nx = none → putAll acc lr = l ∧ r = v) ∧ (nx = some 0 → putAll acc lr = l ∧ 0 = v) ∧ ∀ q, nx = some (q + 1) → whole z g (q + 1) (putAll acc lr) = some (l, v) := by
  unfold whole at h
  split at h
  · rename_i lr hl
    split at h
    · rename_i hb
      split at h <;> rename_i hn
      · simp at h; exact ⟨lr, _, hl, hb, hn, fun _ => h, by simp, by simp⟩
      · simp at h; exact ⟨lr, _, hl, hb, hn, by simp, fun _ => h, by simp⟩
      · exact ⟨lr, _, hl, hb, hn, by simp, by simp, fun q e => by cases e; exact h⟩
      · cases h
    · cases h
  · cases h
theorem whole_lt {k r : Nat} {g : G} {acc : List Nm} {o : List Nm × Nat} (h : whole k g r acc = some o) : r < g.ops.length := by
  cases k with
  | zero => simp [whole] at h
  | succ z =>
    obtain ⟨l, v⟩ := o
    obtain ⟨lr, _, hl, _⟩ := whole_cases h
    exact (List.getElem?_eq_some_iff.1 hl).1
theorem putAll_step {l : List Nm} {i : Nat} (a : List Nm) (h : i < l.length) : putAll a (l.drop i) = putAll (putN a (gn l i)) (l.drop (i + 1)) := by
  rw [List.drop_eq_getElem_cons h]
  have : gn l i = l[i] := by simp [gn, h]
  rw [this]; rfl
theorem putAll_len (a l : List Nm) : (putAll a l).length = a.length + l.length := by
  induction l generalizing a with
  | nil => rfl
  | cons s l ih => rw [putAll, ih, putN_len, List.length_cons]; omega
abbrev Us := List (Nm × Bool)
def ubs (us : Us) : List Value := us.map fun p => .bool p.2
def ugot (us : Us) (j : Nat) : Bool := ((us[j]?).getD (⟨#[]⟩, true)).2
theorem ub_at {P : Program} {t j : Nat} {u : Bool} {us : Us} (h : j < us.length) (hu : ugot us j = u) (ht : (match P.underlying t with | some .bool => true | _ => false) = true := by kernel_rfl) : loadX P t (ubs us) (j * 1) (.bool u) := by
  unfold loadX
  split at ht
  · rename_i e; rw [e]; subst hu; simp [ubs, ugot, h]
  · cases ht
theorem ubs_len (us : Us) : (ubs us).length = us.length := List.length_map _
theorem ubs_set (us : Us) (j : Nat) (s : Nm) : (ubs us).set (j * 1) (.bool true) = ubs (us.set j (s, true)) := by simp [ubs, List.map_set]
theorem us_drop {us : Us} {b : List Nm} {j : Nat} (hb : us.map (·.1) = b) (h : j < us.length) : us.drop j = (gn b j, ugot us j) :: us.drop (j + 1) := by
  subst hb
  rw [List.drop_eq_getElem_cons h]
  congr 1
  simp [gn, ugot, h]
theorem first_hit {us : Us} {b : List Nm} {j : Nat} {s : Nm} (hb : us.map (·.1) = b) (h : j < us.length) (hu : ugot us j = false) (he : ((gn b j).toList == s.toList) = true) : firstN s (us.drop j) = some 0 := by
  rw [us_drop hb h, hu, firstN, eqN_eq, he]; rfl
theorem first_miss {us : Us} {b : List Nm} {j : Nat} {s : Nm} (hb : us.map (·.1) = b) (h : j < us.length) (hu : ugot us j = true ∨ ((gn b j).toList == s.toList) = false) : firstN s (us.drop j) = (firstN s (us.drop (j + 1))).map (· + 1) := by
  rw [us_drop hb h, firstN, eqN_eq]
  rcases hu with hu | hu <;> rw [hu] <;> simp
/-- How far the search has come. -/
def Fs (s : Nm) (us : Us) (j : Nat) : Option Nat → Prop
  | none => firstN s us = (firstN s (us.drop j)).map (· + j)
  | some q => firstN s us = some q
theorem Fs0 (s : Nm) (us : Us) : Fs s us 0 none := by simp [Fs]
theorem Fs_hit {us : Us} {b : List Nm} {j : Nat} {s : Nm} {o : Option Nat} (ho : o = none) (hf : Fs s us j o) (hb : us.map (·.1) = b) (h : j < us.length) (hu : ugot us j = false) (he : ((gn b j).toList == s.toList) = true) : Fs s us (j + 1) (some j) := by
  subst ho
  have := first_hit hb h hu he
  simp only [Fs, this, Option.map_some, Nat.zero_add] at hf
  exact hf
theorem Fs_miss {us : Us} {b : List Nm} {j : Nat} {s : Nm} {o : Option Nat} (ho : o = none) (hf : Fs s us j o) (hb : us.map (·.1) = b) (h : j < us.length) (hu : ugot us j = true ∨ ((gn b j).toList == s.toList) = false) : Fs s us (j + 1) o := by
  subst ho
  have := first_miss hb h hu
  simp only [Fs, this, Option.map_map] at hf ⊢
  rw [hf]
  congr 1
  funext x
  simp only [Function.comp_apply]
  omega
theorem first_lt {us : Us} {s : Nm} {q : Nat} (h : firstN s us = some q) : q < us.length ∧ ∃ x, (us[q]?).map (·.1) = some x ∧ eqN x s = true := by
  induction us generalizing q with
  | nil => simp [firstN] at h
  | cons p r ih =>
    obtain ⟨x, u⟩ := p
    unfold firstN at h
    split at h
    · rename_i hc
      cases h
      simp only [Bool.and_eq_true] at hc
      exact ⟨by simp, x, by simp, hc.2⟩
    · cases hr : firstN s r with
      | none => simp [hr] at h
      | some q' =>
        simp only [hr, Option.map_some, Option.some.injEq] at h
        subst h
        obtain ⟨h1, x', h2, h3⟩ := ih hr
        exact ⟨by simp; omega, x', by simpa using h2, h3⟩
theorem eqN_spec {a b : Nm} (h : eqN a b = true) : a = b := by
  have := eq_of_beq h
  exact ByteArray.ext (Array.toList_inj.1 this)
theorem first_set {us : Us} {s : Nm} {q : Nat} {b : List Nm} (h : firstN s us = some q) (hb : us.map (·.1) = b) : (us.set q (s, true)).map (·.1) = b := by
  subst hb
  obtain ⟨h1, x, h2, h3⟩ := first_lt h
  have := eqN_spec h3
  subst this
  rw [List.map_set]
  apply List.ext_getElem?
  intro i
  rw [List.getElem?_set]
  split
  · rename_i e; subst e
    rw [List.length_map, if_pos h1, List.getElem?_map, h2]
  · rfl
theorem Fs_end {us : Us} {s : Nm} {j : Nat} {o : Option Nat} (hf : Fs s us j o) (h : us.length ≤ j) : firstN s us = o := by
  cases o with
  | none => simpa [Fs, List.drop_of_length_le h, firstN] using hf
  | some q => exact hf
theorem Fs_end' {us : Us} {s : Nm} {j : Nat} {o : Option Nat} (hf : Fs s us j o) (h : us.length ≤ j ∨ o ≠ none) : firstN s us = o := by
  rcases h with h | h
  · exact Fs_end hf h
  · cases o with
    | none => exact absurd rfl h
    | some q => exact hf
theorem less_drop {a : List Nm} {i : Nat} (us : Us) (h : i < a.length) : lessG (a.drop i) us = match firstN (gn a i) us with
    | none => gn a i :: lessG (a.drop (i + 1)) us
    | some j => lessG (a.drop (i + 1)) (us.set j (gn a i, true)) := by
  rw [List.drop_eq_getElem_cons h]
  have : gn a i = a[i] := by simp [gn, h]
  first | (rw [this, lessG]; done) | (rw [this, lessG]; cases firstN a[i] us <;> rfl)
theorem eI_lt {o : Option Nat} (h : decide (eI o < 0) = true) : o = none := by
  cases o with
  | none => rfl
  | some n => have := of_decide_eq_true h; simp only [eI] at this; omega
theorem eI_ge {o : Option Nat} (h : decide (eI o < 0) = false) : ∃ q, o = some q := by
  cases o with
  | none => simp [eI] at h
  | some n => exact ⟨n, rfl⟩
theorem Strs.one {w : World} {S : Nat → Prop} {A : Option Addr} {l : List Nm} {a : Addr} {i : Nat} {s : Nm} (h : Strs w S A l) (ha : A = some a) (hl : l[i]? = some s) : w.cells? 0 (a.add (i * 1)) 1 = some [.string s] := by
  obtain ⟨a', ha', _, hc⟩ := h i s hl
  rw [ha] at ha'; cases ha'
  exact hc
theorem sp_at {w : World} {L : List Sx.Item} {it : Sx.Item} (h : Sp w L) (j : Nat) (hi : L[j]? = some it) : it.holds w := h.all _ (List.mem_of_getElem? hi)
theorem ubs_new (b : List Nm) : List.replicate b.length (Value.bool false) = ubs (b.map fun x => (x, false)) := by
  simp only [ubs, List.map_map]
  induction b with
  | nil => rfl
  | cons x b ih => simp [List.replicate_succ, ih]
theorem whole_len {k r v : Nat} {g : G} {acc l : List Nm} (h : whole k g r acc = some (l, v)) : l.length < 1000000000 := by
  induction k generalizing r acc with
  | zero => simp [whole] at h
  | succ z ih =>
    obtain ⟨lr, nx, _, hb, _, h1, h2, h3⟩ := whole_cases h
    rcases nx with _ | q
    · rw [← (h1 rfl).1, putAll_len]; exact hb
    · cases q with
      | zero => rw [← (h2 rfl).1, putAll_len]; exact hb
      | succ q => exact ih (h3 q rfl)
abbrev srB (v w : Nat) (d e : List Nm) : Bool := ((v == 0) && !e.isEmpty) || ((w == 0) && !d.isEmpty)
theorem sameRow_cases {k r s : Nat} {g g' : G} {t : Bool} (h : sameRow k g r s = some (g', t)) :
    ∃ a v b u, whole k g r [] = some (a, v) ∧ whole k g s [] = some (b, u) ∧
      (v = u → g = g' ∧ ((less a b).isEmpty && (less b a).isEmpty) = t) ∧
      (v ≠ u → srB v u (less a b) (less b a) = true → g = g' ∧ false = t) ∧
      (v ≠ u → srB v u (less a b) (less b a) = false → v = 0 → g.stands u (less a b) (some 0) = g' ∧ true = t) ∧
      (v ≠ u → srB v u (less a b) (less b a) = false → v ≠ 0 → u = 0 → g.stands v (less b a) (some 0) = g' ∧ true = t) ∧
      (v ≠ u → srB v u (less a b) (less b a) = false → v ≠ 0 → u ≠ 0 → ∃ g1 x, g.opn = some (g1, x) ∧ (g1.stands v (less b a) (some x)).stands u (less a b) (some x) = g' ∧ true = t) := by
  unfold sameRow at h
  split at h <;> try contradiction
  rename_i a v b u h1 h2
  refine ⟨a, v, b, u, h1, h2, ?_⟩
  simp only at h
  split at h
  · rename_i e; cases h; simp [e]
  · rename_i e
    split at h
    · rename_i e2; cases h
      exact ⟨fun q => absurd q e, fun _ _ => ⟨rfl, rfl⟩, fun _ q => by simp [srB, e2] at q, fun _ q => by simp [srB, e2] at q, fun _ q => by simp [srB, e2] at q⟩
    · rename_i e2
      have e2 : srB v u (less a b) (less b a) = false := by simpa using e2
      split at h
      · rename_i e3; cases h
        exact ⟨fun q => absurd q e, fun _ q => by simp [e2] at q, fun _ _ _ => ⟨rfl, rfl⟩, fun _ _ q => absurd e3 q, fun _ _ q => absurd e3 q⟩
      · rename_i e3
        split at h
        · rename_i e4; cases h
          exact ⟨fun q => absurd q e, fun _ q => by simp [e2] at q, fun _ _ q => absurd q e3, fun _ _ _ _ => ⟨rfl, rfl⟩, fun _ _ _ q => absurd e4 q⟩
        · rename_i e4
          split at h <;> try contradiction
          rename_i g1 x h5
          cases h
          exact ⟨fun q => absurd q e, fun _ q => by simp [e2] at q, fun _ _ q => absurd q e3, fun _ _ _ q => absurd q e4, fun _ _ _ _ => ⟨g1, x, h5, rfl, rfl⟩⟩
theorem whole_v {k r v : Nat} {g : G} {acc l : List Nm} (h : whole k g r acc = some (l, v)) : v = 0 ∨ v < g.ops.length := by
  induction k generalizing r acc with
  | zero => simp [whole] at h
  | succ z ih =>
    obtain ⟨lr, nx, ho, hb, _, h1, h2, h3⟩ := whole_cases h
    rcases nx with _ | q
    · rw [← (h1 rfl).2]; exact .inr (List.getElem?_eq_some_iff.1 ho).1
    · cases q with
      | zero => exact .inl (h2 rfl).2.symm
      | succ q => exact ih (h3 q rfl)
theorem len0 (l : List Nm) : (((l.length : Nat) : Int) == (0 : Int)) = l.isEmpty := by cases l <;> simp <;> omega
theorem len1 (l : List Nm) : decide (((l.length : Nat) : Int) > (0 : Int)) = !l.isEmpty := by cases l <;> simp <;> omega
theorem nat0 (v : Nat) : (((v : Nat) : Int) == (0 : Int)) = (v == 0) := by cases v <;> simp <;> omega
theorem opn_len {g g' : G} {n : Nat} (h : g.opn = some (g', n)) : g'.ops.length = g.ops.length + 1 := by
  unfold G.opn G.putRow at h
  split at h
  · simp only [wL_eq, wO_eq, wN_eq, Option.some.injEq, Prod.mk.injEq] at h; obtain ⟨rfl, _⟩ := h; simp
  · cases h
theorem stands_len (g : G) (v : Nat) (l : List Nm) (nx : Option Nat) : (g.stands v l nx).ops.length = g.ops.length := by
  simp only [G.stands, wL_eq, wO_eq, wN_eq, List.length_set]
end Go.Inf
namespace Go.Inf
open Go.RowKit Go.Sx
abbrev lnk0 (g : G) (m n : Nat) : G := ⟨g.kind, g.a, g.b, g.row, g.link.set m (some n), g.ops, g.next, g.tv, g.rv⟩
theorem lnk_eq (g : G) (m n : Nat) : g.lnk m n = lnk0 g m n := by simp only [G.lnk, wN_eq, wL_eq]
def SC (k : Nat) (g : G) (m n km : Nat) (g' : G) (t : Bool) : Prop := (km ≠ 6 → g = g' ∧ true = t) ∧ (km = 6 → ∃ r s, g.row[m]? = some r ∧ g.row[n]? = some s ∧ sameRow k g r s = some (g', t))
def SB (k : Nat) (g : G) (m n km : Nat) (g' : G) (t : Bool) : Prop := ∃ y, g.b[m]? = some y ∧ (y = none → SC k g m n km g' t) ∧ ∀ p, y = some p → ∃ q t2 g2, g.b[n]? = some (some q) ∧ same k g p q = some (g2, t2) ∧ (t2 = false → g2 = g' ∧ false = t) ∧ (t2 = true → SC k g2 m n km g' t)
def SAa (k : Nat) (g : G) (m n km : Nat) (g' : G) (t : Bool) : Prop := ∃ y, g.a[m]? = some y ∧ (y = none → SB k g m n km g' t) ∧ ∀ p, y = some p → ∃ q t2 g2, g.a[n]? = some (some q) ∧ same k g p q = some (g2, t2) ∧ (t2 = false → g2 = g' ∧ false = t) ∧ (t2 = true → SB k g2 m n km g' t)
theorem same_cases {k m n : Nat} {g g' : G} {t : Bool} (h : same (k + 1) g m n = some (g', t)) : ∃ m1 n1, find k g m = some m1 ∧ find k g n = some n1 ∧ (m1 = n1 → g = g' ∧ true = t) ∧
    (m1 ≠ n1 → ∃ km kn, g.kind[m1]? = some km ∧ g.kind[n1]? = some kn ∧ (km = 0 → lnk0 g m1 n1 = g' ∧ true = t) ∧ (km ≠ 0 → kn = 0 → lnk0 g n1 m1 = g' ∧ true = t) ∧ (km ≠ 0 → kn ≠ 0 → km ≠ kn → g = g' ∧ false = t) ∧ (km ≠ 0 → kn ≠ 0 → km = kn → SAa k (lnk0 g m1 n1) m1 n1 km g' t)) := by
  unfold same at h
  split at h <;> try contradiction
  rename_i m1 n1 hm hn
  refine ⟨m1, n1, hm, hn, ?_⟩
  split at h
  · rename_i e; cases h; exact ⟨fun _ => ⟨rfl, rfl⟩, fun q => absurd e q⟩
  · rename_i e
    refine ⟨fun q => absurd q e, fun _ => ?_⟩
    split at h <;> try contradiction
    rename_i km kn hkm hkn
    refine ⟨km, kn, hkm, hkn, ?_⟩
    split at h
    · rename_i e1; cases h; exact ⟨fun _ => ⟨(lnk_eq _ _ _).symm, rfl⟩, fun q => absurd e1 q, fun q => absurd e1 q, fun q => absurd e1 q⟩
    · rename_i e1
      split at h
      · rename_i e2; cases h; exact ⟨fun q => absurd q e1, fun _ _ => ⟨(lnk_eq _ _ _).symm, rfl⟩, fun _ q => absurd e2 q, fun _ q => absurd e2 q⟩
      · rename_i e2
        split at h
        · rename_i e3; cases h; exact ⟨fun q => absurd q e1, fun _ q => absurd q e2, fun _ _ _ => ⟨rfl, rfl⟩, fun _ _ q => absurd q e3⟩
        · rename_i e3
          refine ⟨fun q => absurd q e1, fun _ q => absurd q e2, fun _ _ q => absurd q e3, fun _ _ _ => ?_⟩
          rw [lnk_eq] at h
          generalize lnk0 g m1 n1 = g0 at h ⊢
          simp only at h
          have hC : ∀ g2, (if km = 6 then (match g2.row[m1]?, g2.row[n1]? with | some r, some s => sameRow k g2 r s | _, _ => none) else some (g2, true)) = some (g', t) → SC k g2 m1 n1 km g' t := by
            intro g2 h
            split at h
            · rename_i e6
              split at h <;> try contradiction
              rename_i r s hr hs
              exact ⟨fun q => absurd e6 q, fun _ => ⟨r, s, hr, hs, h⟩⟩
            · rename_i e6; cases h; exact ⟨fun _ => ⟨rfl, rfl⟩, fun q => absurd q e6⟩
          have hA : ∀ (g0 : G) (x y : Option (Option Nat)) (g1 : G) (t1 : Bool), (match x, y with | some none, _ => some (g0, true) | some (some p), some (some q) => same k g0 p q | _, _ => none) = some (g1, t1) →
              ∃ o, x = some o ∧ (o = none → g0 = g1 ∧ true = t1) ∧ ∀ p, o = some p → ∃ q, y = some (some q) ∧ same k g0 p q = some (g1, t1) := by
            intro g0 x y g1 t1 h
            split at h <;> try contradiction
            · cases h; exact ⟨none, rfl, fun _ => ⟨rfl, rfl⟩, fun p q => by cases q⟩
            · rename_i p q; exact ⟨some p, rfl, fun q => (by cases q), fun p' e => by cases e; exact ⟨q, rfl, h⟩⟩
          have hB : ∀ g1, (match (match g1.b[m1]?, g1.b[n1]? with | some none, _ => some (g1, true) | some (some p), some (some q) => same k g1 p q | _, _ => none) with
              | some (g, false) => some (g, false)
              | some (g, true) => if km = 6 then (match g.row[m1]?, g.row[n1]? with | some r, some s => sameRow k g r s | _, _ => none) else some (g, true)
              | none => none) = some (g', t) → SB k g1 m1 n1 km g' t := by
            intro g1 h
            split at h <;> try contradiction
            · rename_i g2 hg
              obtain ⟨o, ho, h1, h2⟩ := hA _ _ _ _ _ hg
              refine ⟨o, ho, fun q => by simp at h1; exact absurd q (fun e => by have := h1 e; simp_all), fun p hp => ?_⟩
              obtain ⟨q, hq, hs⟩ := h2 p hp
              cases h
              exact ⟨q, false, _, hq, hs, fun _ => ⟨rfl, rfl⟩, fun e => by cases e⟩
            · rename_i g2 hg
              obtain ⟨o, ho, h1, h2⟩ := hA _ _ _ _ _ hg
              refine ⟨o, ho, fun q => by rw [(h1 q).1]; exact hC _ h, fun p hp => ?_⟩
              obtain ⟨q, hq, hs⟩ := h2 p hp
              exact ⟨q, true, g2, hq, hs, fun e => (by cases e), fun _ => hC _ h⟩
          split at h <;> try contradiction
          · rename_i g2 hg
            obtain ⟨o, ho, h1, h2⟩ := hA _ _ _ _ _ hg
            refine ⟨o, ho, fun q => by simp at h1; exact absurd q (fun e => by have := h1 e; simp_all), fun p hp => ?_⟩
            obtain ⟨q, hq, hs⟩ := h2 p hp
            cases h
            exact ⟨q, false, _, hq, hs, fun _ => ⟨rfl, rfl⟩, fun e => by cases e⟩
          · rename_i g2 hg
            obtain ⟨o, ho, h1, h2⟩ := hA _ _ _ _ _ hg
            refine ⟨o, ho, fun q => by rw [(h1 q).1]; exact hB _ h, fun p hp => ?_⟩
            obtain ⟨q, hq, hs⟩ := h2 p hp
            exact ⟨q, true, g2, hq, hs, fun e => (by cases e), fun _ => hB _ h⟩
theorem opn_kind {g g' : G} {n : Nat} (h : g.opn = some (g', n)) : g'.kind = g.kind := by
  unfold G.opn G.putRow at h
  split at h
  · simp only [wL_eq, wO_eq, wN_eq, Option.some.injEq, Prod.mk.injEq] at h; obtain ⟨rfl, _⟩ := h; rfl
  · cases h
theorem stands_kind (g : G) (v : Nat) (l : List Nm) (nx : Option Nat) : (g.stands v l nx).kind = g.kind := by simp only [G.stands, wL_eq, wO_eq, wN_eq]
theorem sameRow_kind {k r s : Nat} {g g' : G} {t : Bool} (h : sameRow k g r s = some (g', t)) : g'.kind = g.kind := by
  obtain ⟨a, v, b, u, _, _, h1, h2, h3, h4, h5⟩ := sameRow_cases h
  by_cases e1 : v = u
  · rw [(h1 e1).1]
  · cases e2 : srB v u (less a b) (less b a) with
    | true => rw [(h2 e1 e2).1]
    | false =>
      by_cases e3 : v = 0
      · rw [← (h3 e1 e2 e3).1, stands_kind]
      · by_cases e4 : u = 0
        · rw [← (h4 e1 e2 e3 e4).1, stands_kind]
        · obtain ⟨g1, x, ho, hg, _⟩ := h5 e1 e2 e3 e4
          rw [← hg, stands_kind, stands_kind, opn_kind ho]
theorem SC_kind {k m n km : Nat} {g g' : G} {t : Bool} (h : SC k g m n km g' t) : g'.kind = g.kind := by
  by_cases e : km = 6
  · obtain ⟨r, s, _, _, h⟩ := h.2 e; exact sameRow_kind h
  · rw [(h.1 e).1]
theorem same_kind {k m n : Nat} {g g' : G} {t : Bool} (h : same k g m n = some (g', t)) : g'.kind = g.kind := by
  induction k generalizing g g' m n t with
  | zero => simp [same] at h
  | succ k ih =>
    obtain ⟨m1, n1, _, _, h0, h1⟩ := same_cases h
    by_cases e : m1 = n1
    · rw [(h0 e).1]
    · obtain ⟨km, kn, _, _, a1, a2, a3, a4⟩ := h1 e
      by_cases e1 : km = 0
      · rw [← (a1 e1).1]
      · by_cases e2 : kn = 0
        · rw [← (a2 e1 e2).1]
        · by_cases e3 : km = kn
          · have hb : ∀ g1, SB k g1 m1 n1 km g' t → g'.kind = g1.kind := by
              rintro g1 ⟨y, _, b1, b2⟩
              cases y with
              | none => exact SC_kind (b1 rfl)
              | some p =>
                obtain ⟨q, t2, g2, _, hs, b3, b4⟩ := b2 p rfl
                rw [← ih hs]
                cases t2 with
                | false => rw [(b3 rfl).1]
                | true => exact SC_kind (b4 rfl)
            obtain ⟨y, _, b1, b2⟩ := a4 e1 e2 e3
            cases y with
            | none => exact hb (lnk0 g m1 n1) (b1 rfl)
            | some p =>
              obtain ⟨q, t2, g2, _, hs, b3, b4⟩ := b2 p rfl
              have := ih hs
              cases t2 with
              | false => rw [← (b3 rfl).1]; exact this
              | true => rw [hb _ (b4 rfl)]; exact this
          · rw [(a3 e1 e2 e3).1]
theorem eI_ge1 {o : Option Nat} (h : decide (eI o ≥ 0) = true) : ∃ q, o = some q := by
  cases o with
  | none => simp [eI] at h
  | some n => exact ⟨n, rfl⟩
theorem eI_ge0 {o : Option Nat} (h : decide (eI o ≥ 0) = false) : o = none := by
  cases o with
  | none => rfl
  | some n => have := of_decide_eq_false h; simp only [eI] at this; omega
theorem ne6 {km : Nat} (h : km ≠ 6) : (((km : Nat) : Int) != (6 : Int)) = true := by simp; omega
theorem at_lt {α : Type} {l : List α} {i : Nat} {x : α} (h : l[i]? = some x) : i < l.length := (List.getElem?_eq_some_iff.1 h).1
end Go.Inf
namespace Go.Inf
open Go.RowKit Go.Sx Go.Gx Go.MapKept
theorem keyN (a : Int) : IsKey (.int .i64) (encN a) := rfl
theorem injN (a b : Int) (h : encN a = encN b) : a = b := by simpa [encN] using h
theorem bitsN (a : Int) : Instr.sameBits 10000 (encN a) (encN a) = true := by simp [encN, Instr.sameBits]
def seenI (s : Seen) : List (Int × Nat) := s.map fun p => ((p.1 : Int), p.2)
abbrev seenM (b : Nat) (s : Seen) : Sx.Item := mapN b (seenI s)
theorem look_cons (a : Int) (p : Int × Value) (r : List (Int × Value)) : Sx.look a (p :: r) = if p.1 = a then some p.2 else Sx.look a r := by
  unfold Sx.look
  rw [pos]
  split
  · simp
  · cases pos a r <;> simp
theorem look_ivs (a : Int) (l : List (Int × Nat)) : Sx.look a (ivs l) = (lookI a l).map fun v => .int .i64 (v : Int) := by
  induction l with
  | nil => rfl
  | cons p l ih =>
    obtain ⟨m, v⟩ := p
    rw [show ivs ((m, v) :: l) = (m, Value.int .i64 (v : Int)) :: ivs l from rfl, look_cons, lookI]
    split
    · rfl
    · exact ih
theorem seen_at (s : Seen) (n : Nat) : (Sx.look (n : Int) (ivs (seenI s))).getD (.int .i64 0) = .int .i64 (s.at n : Int) := by
  rw [look_ivs]
  induction s with
  | nil => rfl
  | cons p s ih =>
    obtain ⟨m, v⟩ := p
    rw [show seenI ((m, v) :: s) = ((m : Int), v) :: seenI s from rfl, lookI, Seen.at]
    by_cases e : m = n
    · subst e; simp
    · rw [if_neg (by omega), if_neg e]; exact ih
theorem upd_cons (a : Int) (v : Value) (p : Int × Value) (r : List (Int × Value)) : upd a v (p :: r) = if p.1 = a then (a, v) :: r else p :: upd a v r := by
  unfold upd
  rw [pos]
  by_cases e : p.1 = a
  · rw [if_pos e, if_pos e]; rfl
  · rw [if_neg e, if_neg e]; cases pos a r <;> rfl
theorem seen_put (s : Seen) (n v : Nat) : upd (n : Int) (.int .i64 (v : Int)) (ivs (seenI s)) = ivs (seenI (s.put n v)) := by
  induction s with
  | nil => rfl
  | cons p s ih =>
    obtain ⟨m, u⟩ := p
    rw [show ivs (seenI ((m, u) :: s)) = ((m : Int), Value.int .i64 (u : Int)) :: ivs (seenI s) from rfl, upd_cons, Seen.put]
    by_cases e : m = n
    · subst e; simp; rfl
    · rw [if_neg (by show ¬ ((m : Int) = n); omega), if_neg e, ih]; rfl
theorem upd_new (a : Int) (v : Nat) (l : List (Int × Nat)) (h : lookI a l = none) : upd a (.int .i64 (v : Int)) (ivs l) = ivs (l ++ [(a, v)]) := by
  induction l with
  | nil => rfl
  | cons p l ih =>
    obtain ⟨m, u⟩ := p
    unfold lookI at h
    split at h
    · cases h
    · rename_i e
      rw [show ivs ((m, u) :: l) = (m, Value.int .i64 (u : Int)) :: ivs l from rfl, upd_cons, if_neg e, ih h]; rfl
section
variable {P : Program} {B : Exit → Act → World → Prop} {b : Nat → Value} {n : Nat} {d : List Deferred} {w0 w : World} {x : St} {L0 L : List Sx.Item}
theorem lks (m i bt q : Nat) (s : Seen) (H : Hs w0 L0 w L) {t kt et : Nat} (hi : L[i]? = some (seenM bt s))
    (k : Goal P B b n d (Sx.nx (vX (via P b n m w x (Sx.ask (lkA b n)))).y (vX (via P b n m w x (Sx.ask (lkA b n)))).q (.int .i64 (s.at q : Int))) w)
    (h : vA (via P b n m w x (Sx.ask (lkA b n))) = vB w (via P b n m w x (Sx.ask (lkA b n))) := by kernel_rfl)
    (h2 : ((vX (via P b n m w x (Sx.ask (lkA b n)))).u, (vX (via P b n m w x (Sx.ask (lkA b n)))).t) = ([.map (some bt), .int .i64 (q : Int)], [t, 0]) := by kernel_rfl)
    (ht : mapT P t = some (kt, et) := by kernel_rfl) (hkt : P.underlying kt = some (.int .i64) := by kernel_rfl) (hz : (P.info? et).bind (·.zero) = some (.int .i64 0) := by kernel_rfl) : Goal P B b n d x w :=
  lk (r := 0) m i H (q : Int) (.int .i64 0) hi keyN injN (by rw [seen_at]; exact k) h h2 ht hkt hz
theorem lki (m i bt : Nat) (a : Int) (l : List (Int × Nat)) (o : Option Nat) (ho : lookI a l = o) (H : Hs w0 L0 w L) {t kt et : Nat} (hi : L[i]? = some (mapN bt l))
    (k : Goal P B b n d (Sx.nx (vX (via P b n m w x (Sx.ask (lkA b n)))).y (vX (via P b n m w x (Sx.ask (lkA b n)))).q (.tuple #[.int .i64 (o.getD 0 : Int), .bool o.isSome])) w)
    (h : vA (via P b n m w x (Sx.ask (lkA b n))) = vB w (via P b n m w x (Sx.ask (lkA b n))) := by kernel_rfl)
    (h2 : ((vX (via P b n m w x (Sx.ask (lkA b n)))).u, (vX (via P b n m w x (Sx.ask (lkA b n)))).t) = ([.map (some bt), .int .i64 a], [t, 1]) := by kernel_rfl)
    (ht : mapT P t = some (kt, et) := by kernel_rfl) (hkt : P.underlying kt = some (.int .i64) := by kernel_rfl) (hz : (P.info? et).bind (·.zero) = some (.int .i64 0) := by kernel_rfl) : Goal P B b n d x w := by
  refine lk (r := 1) m i H a (.int .i64 0) hi keyN injN ?_ h h2 ht hkt hz
  subst ho
  show Goal P B b n d (Sx.nx _ _ (.tuple #[(Sx.look a (ivs l)).getD (.int .i64 0), .bool (Sx.look a (ivs l)).isSome])) w
  rw [look_ivs, Option.isSome_map, show (Option.map (fun v : Nat => Value.int .i64 (v : Int)) (lookI a l)).getD (.int .i64 0) = .int .i64 (((lookI a l).getD 0 : Nat) : Int) by cases lookI a l <;> rfl]
  exact k
theorem mus (m i bt q v : Nat) (s : Seen) (H : Hs w0 L0 w L) {t kt et : Nat} (hi : L[i]? = some (seenM bt s))
    (k : ∀ w', Hs w0 L0 w' (L.set i (seenM bt (s.put q v))) → Goal P B b n d (Sx.nx (vX (via P b n m w x (Sx.ask (muA b n)))).y (vX (via P b n m w x (Sx.ask (muA b n)))).q undef) w')
    (h : vA (via P b n m w x (Sx.ask (muA b n))) = vB w (via P b n m w x (Sx.ask (muA b n))) := by kernel_rfl)
    (h2 : ((vX (via P b n m w x (Sx.ask (muA b n)))).u, (vX (via P b n m w x (Sx.ask (muA b n)))).t) = ([.map (some bt), .int .i64 (q : Int), .int .i64 (v : Int)], [t]) := by kernel_rfl)
    (ht : mapT P t = some (kt, et) := by kernel_rfl) (hkt : P.underlying kt = some (.int .i64) := by kernel_rfl) : Goal P B b n d x w :=
  mu m i H (q : Int) (.int .i64 (v : Int)) hi keyN injN bitsN (fun w' H' => by rw [seen_put] at H'; exact k w' H') h h2 ht hkt
theorem mui (m i bt : Nat) (a : Int) (v : Nat) (l : List (Int × Nat)) (ho : lookI a l = none) (H : Hs w0 L0 w L) {t kt et : Nat} (hi : L[i]? = some (mapN bt l))
    (k : ∀ w', Hs w0 L0 w' (L.set i (mapN bt (l ++ [(a, v)]))) → Goal P B b n d (Sx.nx (vX (via P b n m w x (Sx.ask (muA b n)))).y (vX (via P b n m w x (Sx.ask (muA b n)))).q undef) w')
    (h : vA (via P b n m w x (Sx.ask (muA b n))) = vB w (via P b n m w x (Sx.ask (muA b n))) := by kernel_rfl)
    (h2 : ((vX (via P b n m w x (Sx.ask (muA b n)))).u, (vX (via P b n m w x (Sx.ask (muA b n)))).t) = ([.map (some bt), .int .i64 a, .int .i64 (v : Int)], [t]) := by kernel_rfl)
    (ht : mapT P t = some (kt, et) := by kernel_rfl) (hkt : P.underlying kt = some (.int .i64) := by kernel_rfl) : Goal P B b n d x w :=
  mu m i H a (.int .i64 (v : Int)) hi keyN injN bitsN (fun w' H' => by rw [upd_new a v l ho] at H'; exact k w' H') h h2 ht hkt
theorem mli (m i bt : Nat) (l : List (Int × Nat)) (H : Hs w0 L0 w L) {t kt et : Nat} (hi : L[i]? = some (mapN bt l))
    (k : Goal P B b n d (Sx.nx (vX (via P b n m w x (Sx.ask (mlA b n)))).y (vX (via P b n m w x (Sx.ask (mlA b n)))).q (.int .i64 (l.length : Int))) w)
    (h : vA (via P b n m w x (Sx.ask (mlA b n))) = vB w (via P b n m w x (Sx.ask (mlA b n))) := by kernel_rfl)
    (h2 : ((vX (via P b n m w x (Sx.ask (mlA b n)))).u, (vX (via P b n m w x (Sx.ask (mlA b n)))).t) = ([.map (some bt)], [t]) := by kernel_rfl)
    (ht : mapT P t = some (kt, et) := by kernel_rfl) : Goal P B b n d x w :=
  ml m i H hi (by rw [show (ivs l).length = l.length from List.length_map _]; exact k) h h2 ht
end
theorem numb_some {m : List (Int × Nat)} {n q : Nat} (h : lookI n m = some q) : numb m n = (m, q) := by unfold numb; rw [h]
theorem numb_none {m : List (Int × Nat)} {n : Nat} (h : lookI n m = none) : numb m n = (m ++ [((n : Int), m.length + 1)], m.length + 1) := by unfold numb; rw [h]
theorem isSome_f {o : Option Nat} (h : (!o.isSome) = true) : o = none := by cases o <;> simp_all
theorem isSome_t {o : Option Nat} (h : (!o.isSome) = false) : ∃ q, o = some q := by cases o <;> simp_all
end Go.Inf
namespace Go.Inf
open Go.RowKit Go.Sx
theorem rowsI_new {w : World} : (rowsI (fun _ => False) [(none, 0, 0)] [[]]).holds w := by
  refine ⟨⟨rfl, fun r s l hs hl => ?_⟩, fun _ h => h.elim, rowsI_loc _ _ _⟩
  cases r with
  | zero => simp at hs hl; subst hs hl; exact ⟨rfl, fun _ _ h => by simp at h⟩
  | succ r => simp at hs
end Go.Inf
namespace Go.Inf
open Go.RowKit Go.Sx Go.Gx
section
variable {P : Program} {fn : Func} {R : Ending → World → Prop} {b : Nat → Value} {n : Nat} {d : List Deferred} {w0 w : World} {x : St} {L0 L : List Sx.Item}
theorem tvki (i : Nat) (C : List Nat) (jj bt : Nat) (a : Int) (l : List (Int × Nat)) (o : Option Nat) (ho : lookI a l = o) {t kt et : Nat} (hS : clrA x = true → Sp w (LJof x))
    (k : Goal P (bodyPost P fn R) b n d ((vX (via P b n 0 w x (tvR b n i C))).k (.tuple #[.int .i64 (o.getD 0 : Int), .bool o.isSome])) w)
    (hi : (LJof x)[jj]? = some (mapN bt l) := by kernel_rfl)
    (h : vA (via P b n 0 w x (tvR b n i C)) = vB w (via P b n 0 w x (tvR b n i C)) := by kernel_rfl)
    (h2 : lkO b n (vX (via P b n 0 w x (tvR b n i C))) = some ([.map (some bt), .int .i64 a], [t]) := by kernel_rfl)
    (ht : mapT P t = some (kt, et) := by kernel_rfl) (hkt : P.underlying kt = some (.int .i64) := by kernel_rfl) (hz : (P.info? et).bind (·.zero) = some (.int .i64 0) := by kernel_rfl) : Goal P (bodyPost P fn R) b n d x w := by
  refine tvk i C jj a (.int .i64 0) _ keyN injN ?_ hS k hi h h2 ht hkt hz
  subst ho
  rw [look_ivs, Option.isSome_map]
  cases lookI a l <;> rfl
end
end Go.Inf
namespace Go.Inf
open Go.RowKit Go.Sx
def RB (k : Nat) (g : G) (n : Nat) (s : Seen) (r : Bool) (s' : Seen) : Prop := ∃ y, g.b[n]? = some y ∧ (y = none → false = r ∧ s.put n 2 = s') ∧ ∀ p, y = some p → ∃ t s2, round k g p s = some (t, s2) ∧ (t = true → true = r ∧ s2 = s') ∧ (t = false → false = r ∧ s2.put n 2 = s')
def RA (k : Nat) (g : G) (n : Nat) (s : Seen) (r : Bool) (s' : Seen) : Prop := ∃ y, g.a[n]? = some y ∧ (y = none → RB k g n s r s') ∧ ∀ p, y = some p → ∃ t s2, round k g p s = some (t, s2) ∧ (t = true → true = r ∧ s2 = s') ∧ (t = false → RB k g n s2 r s')
theorem round_cases {k n : Nat} {g : G} {s s' : Seen} {r : Bool} (h : round (k + 1) g n s = some (r, s')) :
    ∃ n1, find k g n = some n1 ∧ (0 < s.at n1 → (s.at n1 == 1) = r ∧ s = s') ∧ (s.at n1 = 0 → RA k g n1 (s.put n1 1) r s') := by
  unfold round at h
  split at h <;> try contradiction
  rename_i n1 hn
  refine ⟨n1, hn, ?_⟩
  simp only at h
  split at h
  · rename_i e; cases h; exact ⟨fun _ => ⟨rfl, rfl⟩, fun q => by omega⟩
  · rename_i e
    refine ⟨fun q => absurd q e, fun _ => ?_⟩
    have hA : ∀ (x : Option (Option Nat)) (s : Seen) (t : Bool) (s2 : Seen), (match x with | some none => some (false, s) | some (some m) => round k g m s | none => none) = some (t, s2) →
        ∃ o, x = some o ∧ (o = none → false = t ∧ s = s2) ∧ ∀ p, o = some p → round k g p s = some (t, s2) := by
      intro x s t s2 h
      split at h <;> try contradiction
      · cases h; exact ⟨none, rfl, fun _ => ⟨rfl, rfl⟩, fun p q => by cases q⟩
      · rename_i m; exact ⟨some m, rfl, fun q => (by cases q), fun p e => by cases e; exact h⟩
    have hB : ∀ s, (match (match g.b[n1]? with | some none => some (false, s) | some (some m) => round k g m s | none => none) with
        | some (true, s) => some (true, s) | some (false, s) => some (false, s.put n1 2) | none => none) = some (r, s') → RB k g n1 s r s' := by
      intro s h
      split at h <;> try contradiction
      · rename_i s2 hg
        obtain ⟨o, ho, h1, h2⟩ := hA _ _ _ _ hg
        cases h
        exact ⟨o, ho, fun q => by have := (h1 q).1; simp at this, fun p hp => ⟨true, _, h2 p hp, fun _ => ⟨rfl, rfl⟩, fun e => by cases e⟩⟩
      · rename_i s2 hg
        obtain ⟨o, ho, h1, h2⟩ := hA _ _ _ _ hg
        cases h
        exact ⟨o, ho, fun q => by rw [(h1 q).2]; exact ⟨rfl, rfl⟩, fun p hp => ⟨false, _, h2 p hp, fun e => (by cases e), fun _ => ⟨rfl, rfl⟩⟩⟩
    split at h <;> try contradiction
    · rename_i s2 hg
      obtain ⟨o, ho, h1, h2⟩ := hA _ _ _ _ hg
      cases h
      exact ⟨o, ho, fun q => by have := (h1 q).1; simp at this, fun p hp => ⟨true, _, h2 p hp, fun _ => ⟨rfl, rfl⟩, fun e => by cases e⟩⟩
    · rename_i s2 hg
      obtain ⟨o, ho, h1, h2⟩ := hA _ _ _ _ hg
      exact ⟨o, ho, fun q => by rw [(h1 q).2]; exact hB _ h, fun p hp => ⟨false, _, h2 p hp, fun e => (by cases e), fun _ => hB _ h⟩⟩
def PD (n c j : Nat) (s : Seen) (r : Nat) (s' : Seen) : Prop := c + j ≤ 2147483647 ∧ min (c + j) 1000000 = r ∧ s.put n (min (c + j) 1000000) = s'
def PC (k : Nat) (g : G) (n c : Nat) (s : Seen) (r : Nat) (s' : Seen) : Prop := ∃ kd, g.kind[n]? = some kd ∧ (kd ≠ 6 → PD n c 0 s r s') ∧ (kd = 6 → ∃ q l v, g.row[n]? = some q ∧ whole k g q [] = some (l, v) ∧ PD n c l.length s r s')
def PB (k : Nat) (g : G) (n c : Nat) (s : Seen) (r : Nat) (s' : Seen) : Prop := ∃ y, g.b[n]? = some y ∧ (y = none → PC k g n c s r s') ∧ ∀ p, y = some p → ∃ j s2, parts k g p s = some (j, s2) ∧ PC k g n (c + j) s2 r s'
def PA (k : Nat) (g : G) (n c : Nat) (s : Seen) (r : Nat) (s' : Seen) : Prop := ∃ y, g.a[n]? = some y ∧ (y = none → PB k g n c s r s') ∧ ∀ p, y = some p → ∃ j s2, parts k g p s = some (j, s2) ∧ PB k g n (c + j) s2 r s'
theorem PC_le {k n c r : Nat} {g : G} {s s' : Seen} (h : PC k g n c s r s') : c ≤ 2147483647 := by
  obtain ⟨kd, _, h1, h2⟩ := h
  by_cases e : kd = 6
  · obtain ⟨_, l, _, _, _, h⟩ := h2 e; have := h.1; omega
  · have := (h1 e).1; omega
theorem PB_le {k n c r : Nat} {g : G} {s s' : Seen} (h : PB k g n c s r s') : c ≤ 2147483647 := by
  obtain ⟨y, _, h1, h2⟩ := h
  cases y with
  | none => exact PC_le (h1 rfl)
  | some p => obtain ⟨j, _, _, h⟩ := h2 p rfl; have := PC_le h; omega
theorem parts_cases {k n r : Nat} {g : G} {s s' : Seen} (h : parts (k + 1) g n s = some (r, s')) :
    ∃ n1, find k g n = some n1 ∧ (0 < s.at n1 → s.at n1 = r ∧ s = s') ∧ (s.at n1 = 0 → PA k g n1 1 s r s') := by
  unfold parts at h
  split at h <;> try contradiction
  rename_i n1 hn
  refine ⟨n1, hn, ?_⟩
  simp only at h
  split at h
  · rename_i e; cases h; exact ⟨fun _ => ⟨rfl, rfl⟩, fun q => by omega⟩
  · rename_i e
    refine ⟨fun q => absurd q e, fun _ => ?_⟩
    have hA : ∀ (x : Option (Option Nat)) (c : Nat) (s : Seen) (t : Nat) (s2 : Seen), (match x with | some none => some (c, s) | some (some m) => (match parts k g m s with | some (j, s) => some (c + j, s) | none => none) | none => none) = some (t, s2) →
        ∃ o, x = some o ∧ (o = none → c = t ∧ s = s2) ∧ ∀ p, o = some p → ∃ j, parts k g p s = some (j, s2) ∧ c + j = t := by
      intro x c s t s2 h
      split at h <;> try contradiction
      · cases h; exact ⟨none, rfl, fun _ => ⟨rfl, rfl⟩, fun p q => by cases q⟩
      · rename_i m
        split at h <;> try contradiction
        rename_i j s3 hp
        cases h
        exact ⟨some m, rfl, fun q => (by cases q), fun p e => by cases e; exact ⟨j, hp, rfl⟩⟩
    split at h <;> try contradiction
    rename_i c1 s1 hg
    obtain ⟨o, ho, h1, h2⟩ := hA _ _ _ _ _ hg
    have hB : PB k g n1 c1 s1 r s' := by
      split at h <;> try contradiction
      rename_i c2 s2 hg2
      obtain ⟨o2, ho2, h3, h4⟩ := hA _ _ _ _ _ hg2
      have hC : PC k g n1 c2 s2 r s' := by
        split at h <;> try contradiction
        rename_i j hj
        split at h <;> try contradiction
        rename_i hle
        cases h
        split at hj <;> try contradiction
        · rename_i hk
          split at hj <;> try contradiction
          rename_i q hq
          rw [Option.map_eq_some_iff] at hj
          obtain ⟨⟨l, v⟩, hw, rfl⟩ := hj
          exact ⟨6, hk, fun e => absurd rfl e, fun _ => ⟨q, l, v, hq, hw, hle, rfl, rfl⟩⟩
        · rename_i kd h6 hk
          cases hj
          exact ⟨kd, hk, fun _ => ⟨hle, rfl, rfl⟩, fun e => absurd e (by intro e; subst e; exact h6 rfl)⟩
      exact ⟨o2, ho2, fun q => by obtain ⟨rfl, rfl⟩ := h3 q; exact hC, fun p hp => by obtain ⟨j, hj, rfl⟩ := h4 p hp; exact ⟨j, s2, hj, hC⟩⟩
    exact ⟨o, ho, fun q => by obtain ⟨rfl, rfl⟩ := h1 q; exact hB, fun p hp => by obtain ⟨j, hj, rfl⟩ := h2 p hp; exact ⟨j, s1, hj, hB⟩⟩
end Go.Inf
namespace Go.Inf
theorem seen_beq (v : Nat) : (((v : Nat) : Int) == (1 : Int)) = (v == 1) := by
  by_cases h : v = 1
  · subst h; rfl
  · have h2 : ¬ ((v : Int) = 1) := by omega
    rw [beq_eq_false_iff_ne.2 h, beq_eq_false_iff_ne.2 h2]
structure Tv where
  A : Option Addr
  na : Nat
  ca : Nat
  B : Option Addr
  nb : Nat
  cb : Nat
def tvC (t : Ty) (p : Tv) : List Value := match t with
  | .mk kd n row _ _ => [.int .i64 (kd : Int), .int .i64 (n : Int), .int .i64 (row : Int), .slice p.A p.na p.ca, .slice p.B p.nb p.cb]
/-- A tree of types that is only read. -/
inductive TyIn (w : World) (S : Nat → Prop) : Tv → Ty → Prop
  | mk {kd n row : Nat} {ops : List Nm} {args : List Ty} (p : Tv) (ps : List Tv) (hs : Strs w S p.A ops) (hn : p.na = ops.length) (hc : p.na ≤ p.ca ∧ ops.length < 1000000000 ∧ args.length ≤ 2) (hb : p.nb = args.length) (hl : ps.length = args.length)
      (hm : ∀ (i : Nat) (q : Tv) (t : Ty), ps[i]? = some q → args[i]? = some t → ∃ a, p.B = some a ∧ S a.block ∧ w.cells? 0 (a.add (i * 5)) 5 = some (tvC t q))
      (ht : ∀ (i : Nat) (q : Tv) (t : Ty), ps[i]? = some q → args[i]? = some t → TyIn w S q t) : TyIn w S p (.mk kd n row ops args)
theorem TyIn.keep {w w' : World} {S : Nat → Prop} {p : Tv} {t : Ty} (h : TyIn w S p t) (k : ∀ c, S c → w'.heap[c]? = w.heap[c]?) : TyIn w' S p t := by
  induction h with
  | mk p ps hs hn hc hb hl hm _ ih => exact .mk p ps (hs.keep k) hn hc hb hl (fun i q t h1 h2 => by obtain ⟨a, ha, hS, hcs⟩ := hm i q t h1 h2; exact ⟨a, ha, hS, cells_same hcs (by rw [add_block]; exact k _ hS)⟩) ih
theorem TyIn.mono {w : World} {S S' : Nat → Prop} {p : Tv} {t : Ty} (h : TyIn w S p t) (k : ∀ c, S c → S' c) : TyIn w S' p t := by
  induction h with
  | mk p ps hs hn hc hb hl hm _ ih => exact .mk p ps (hs.mono k) hn hc hb hl (fun i q t h1 h2 => by obtain ⟨a, ha, hS, hcs⟩ := hm i q t h1 h2; exact ⟨a, ha, k _ hS, hcs⟩) ih
theorem tyI_loc (S : Nat → Prop) (p : Tv) (t : Ty) : Sx.Loc S (fun w => TyIn w S p t) := fun _ _ _ hk h => h.keep hk
def tyI (S : Nat → Prop) (p : Tv) (t : Ty) : Sx.Item := .ro S (fun w => TyIn w S p t)
theorem TyIn.open {w : World} {S : Nat → Prop} {p : Tv} {kd n row : Nat} {ops : List Nm} {args : List Ty} (h : TyIn w S p (.mk kd n row ops args)) :
    Strs w S p.A ops ∧ p.na = ops.length ∧ (p.na ≤ p.ca ∧ ops.length < 1000000000 ∧ args.length ≤ 2) ∧ p.nb = args.length ∧ ∀ i t, args[i]? = some t → ∃ (q : Tv) (a : Addr), p.B = some a ∧ w.cells? 0 (a.add (i * 5)) 5 = some (tvC t q) ∧ TyIn w S q t := by
  cases h with
  | mk _ ps hs hn hc hb hl hm ht =>
    refine ⟨hs, hn, hc, hb, fun i t h => ?_⟩
    have hi : i < ps.length := by rw [hl]; exact (List.getElem?_eq_some_iff.1 h).1
    obtain ⟨a, ha, hS, hcs⟩ := hm i _ t (List.getElem?_eq_getElem hi) h
    exact ⟨_, a, ha, hcs, ht i _ t (List.getElem?_eq_getElem hi) h⟩
/-- What one goes on with behind a part of a written type. -/
theorem ofT_var {k n row : Nat} {g g' : G} {ops : List Nm} {args : List Ty} {m : Nat} (h : ofT (k + 1) g (.mk 0 n row ops args) = some (g', m)) :
    (∃ q, lookI n g.tv = some q ∧ g = g' ∧ q = m) ∨ (lookI n g.tv = none ∧ ∃ g1, g.var = some (g1, m) ∧ { g1 with tv := g1.tv ++ [((n : Int), m)] } = g') := by
  simp only [ofT, if_true] at h
  split at h
  · rename_i q hq; cases h; exact .inl ⟨_, hq, rfl, rfl⟩
  · rename_i hq
    split at h <;> try contradiction
    rename_i g1 m1 hv
    cases h; exact .inr ⟨hq, g1, hv, rfl⟩
def OR (kd row : Nat) (ops : List Nm) (g : G) (a b : Option Nat) (g' : G) (m : Nat) : Prop :=
  (kd ≠ 6 → g.put kd a b 0 = some (g', m)) ∧
  (kd = 6 → ∃ g1 x, ((row = 0 ∧ g = g1 ∧ 0 = x) ∨ (0 < row ∧ lookI row g.rv = some x ∧ g = g1) ∨ (0 < row ∧ lookI row g.rv = none ∧ ∃ g2, g.opn = some (g2, x) ∧ { g2 with rv := g2.rv ++ [((row : Int), x)] } = g1)) ∧
    ∃ g3 r, g1.putRow ops (some x) = some (g3, r) ∧ g3.put kd a b r = some (g', m))
def OB (k kd row : Nat) (ops : List Nm) (g : G) (a : Option Nat) (t : Option Ty) (g' : G) (m : Nat) : Prop :=
  (t = none → OR kd row ops g a none g' m) ∧ ∀ u, t = some u → ∃ g1 b, ofT k g u = some (g1, b) ∧ OR kd row ops g1 a (some b) g' m
def OA (k kd row : Nat) (ops : List Nm) (g : G) (t t2 : Option Ty) (g' : G) (m : Nat) : Prop :=
  (t = none → OB k kd row ops g none t2 g' m) ∧ ∀ u, t = some u → ∃ g1 b, ofT k g u = some (g1, b) ∧ OB k kd row ops g1 (some b) t2 g' m
theorem ofT_more {k kd n row : Nat} {g g' : G} {ops : List Nm} {args : List Ty} {m : Nat} (hk : kd ≠ 0) (h : ofT (k + 1) g (.mk kd n row ops args) = some (g', m)) : OA k kd row ops g args[0]? args[1]? g' m := by
  simp only [ofT, if_neg hk] at h
  have hX : ∀ (g : G) (t : Option Ty) (g1 : G) (a : Option Nat), (match t with | none => some (g, none) | some t => (match ofT k g t with | some (g, m) => some (g, some m) | none => none)) = some (g1, a) →
      (t = none → g = g1 ∧ none = a) ∧ ∀ u, t = some u → ∃ b, ofT k g u = some (g1, b) ∧ some b = a := by
    intro g t g1 a h
    cases t with
    | none => cases h; exact ⟨fun _ => ⟨rfl, rfl⟩, fun u e => by cases e⟩
    | some t =>
      simp only at h
      split at h <;> try contradiction
      rename_i g2 b hb
      cases h
      exact ⟨fun e => (by cases e), fun u e => by cases e; exact ⟨b, hb, rfl⟩⟩
  split at h <;> try contradiction
  rename_i g1 a hA
  have hA := hX _ _ _ _ hA
  have hOB : OB k kd row ops g1 a args[1]? g' m := by
    split at h <;> try contradiction
    rename_i g2 b hB
    have hB := hX _ _ _ _ hB
    have hOR : OR kd row ops g2 a b g' m := by
      split at h
      · rename_i h6
        refine ⟨fun e => absurd h6 e, fun _ => ?_⟩
        split at h <;> try contradiction
        rename_i g3 x hx
        split at h <;> try contradiction
        rename_i g4 r hr
        refine ⟨g3, x, ?_, g4, r, hr, h⟩
        split at hx
        · rename_i h0
          split at hx
          · rename_i q hq; cases hx; exact .inr (.inl ⟨h0, hq, rfl⟩)
          · rename_i hq
            split at hx <;> try contradiction
            rename_i g5 q ho
            cases hx
            exact .inr (.inr ⟨h0, hq, g5, ho, rfl⟩)
        · cases hx; exact .inl ⟨by omega, rfl, rfl⟩
      · rename_i h6; exact ⟨fun _ => h, fun e => absurd e h6⟩
    exact ⟨fun e => by obtain ⟨rfl, rfl⟩ := hB.1 e; exact hOR, fun u e => by obtain ⟨q, h1, rfl⟩ := hB.2 u e; exact ⟨g2, q, h1, hOR⟩⟩
  exact ⟨fun e => by obtain ⟨rfl, rfl⟩ := hA.1 e; exact hOB, fun u e => by obtain ⟨q, h1, rfl⟩ := hA.2 u e; exact ⟨g1, q, h1, hOB⟩⟩
end Go.Inf
namespace Go.Inf
open Go.RowKit Go.Sx
theorem put_tv {g g' : G} {kd r n : Nat} {a b : Option Nat} (h : g.put kd a b r = some (g', n)) : g'.tv = g.tv ∧ g'.rv = g.rv := by
  unfold G.put at h
  split at h
  · simp only [wO_eq, wN_eq, wL_eq, Option.some.injEq, Prod.mk.injEq] at h; obtain ⟨rfl, _⟩ := h; exact ⟨rfl, rfl⟩
  · cases h
theorem opn_rv {g g' : G} {n : Nat} (h : g.opn = some (g', n)) : g'.rv = g.rv := by
  unfold G.opn G.putRow at h
  split at h
  · simp only [wO_eq, wN_eq, wL_eq, Option.some.injEq, Prod.mk.injEq] at h; obtain ⟨rfl, _⟩ := h; rfl
  · cases h
theorem some_at {α : Type} {l : List α} {i : Nat} (h : i < l.length) : ∃ x, l[i]? = some x := ⟨_, List.getElem?_eq_getElem h⟩
theorem none_at {α : Type} {l : List α} {i : Nat} (h : l.length ≤ i) : l[i]? = none := List.getElem?_eq_none h
end Go.Inf
namespace Go.Inf
open Go.RowKit Go.Sx
theorem ty_at {w0 w : World} {L0 L : List Sx.Item} {S : Nat → Prop} {p : Tv} {t : Ty} (H : Hs w0 L0 w L) (j : Nat) (hi : L[j]? = some (tyI S p t)) : TyIn w S p t := (H.at j hi).1
end Go.Inf
namespace Go.Lex
open Go.Gx (byteAt)
def digitB (c : UInt8) : Bool := decide ((c.toNat : Int) ≥ 48) && decide ((c.toNat : Int) ≤ 57)
def letterB (c : UInt8) : Bool := ((decide ((c.toNat : Int) ≥ 97) && decide ((c.toNat : Int) ≤ 122)) || (decide ((c.toNat : Int) ≥ 65) && decide ((c.toNat : Int) ≤ 90))) || ((c.toNat : Int) == 95)
def blankB (c : UInt8) : Bool := ((((c.toNat : Int) == 9) || ((c.toNat : Int) == 10)) || ((c.toNat : Int) == 13)) || ((c.toNat : Int) == 32)
abbrev sgB : ByteArray := ⟨#[40, 41, 91, 93, 123, 125, 44, 59, 58, 61, 45, 43, 42, 60, 124, 126]⟩
def signB (c : UInt8) : Bool := (List.range 16).any (fun j => (byteAt sgB j).toNat == c.toNat)
/-- What a byte begins. -/
def cls (c : UInt8) : Nat :=
  if blankB c = true then 1 else if ((c.toNat : Int) == 35) = true then 2 else if digitB c = true then 3 else if letterB c = true then 4 else if signB c = true then 5 else 0
theorem digit_iff (c : UInt8) : digitB c = true ↔ 48 ≤ c.toNat ∧ c.toNat ≤ 57 := by simp [digitB]; omega
theorem blank_iff (c : UInt8) : blankB c = true ↔ c.toNat = 9 ∨ c.toNat = 10 ∨ c.toNat = 13 ∨ c.toNat = 32 := by simp [blankB]; omega
/-! ### Ends of runs -/
/-- The first place from k on whose byte is not p; the end. -/
def stop (p : UInt8 → Bool) (s : ByteArray) (k : Nat) : Nat :=
  if _h : k < s.size ∧ p (byteAt s k) = true then stop p s (k + 1) else k
termination_by s.size - k
theorem stop_go {p : UInt8 → Bool} {s : ByteArray} {k : Nat} (h : k < s.size) (hp : p (byteAt s k) = true) : stop p s k = stop p s (k + 1) := by
  rw [stop, dif_pos ⟨h, hp⟩]
theorem stop_at {p : UInt8 → Bool} {s : ByteArray} {k : Nat} (h : ¬ (k < s.size ∧ p (byteAt s k) = true)) : stop p s k = k := by
  rw [stop, dif_neg h]
theorem le_stop (p : UInt8 → Bool) (s : ByteArray) (k : Nat) : k ≤ stop p s k := by
  rw [stop]
  split
  · have := le_stop p s (k + 1); omega
  · exact Nat.le_refl _
termination_by s.size - k
theorem stop_le (p : UInt8 → Bool) (s : ByteArray) (k : Nat) (h : k ≤ s.size) : stop p s k ≤ s.size := by
  rw [stop]
  split
  · exact stop_le p s (k + 1) (by omega)
  · exact h
termination_by s.size - k
theorem stop_in (p : UInt8 → Bool) (s : ByteArray) (k j : Nat) (h1 : k ≤ j) (h2 : j < stop p s k) : p (byteAt s j) = true := by
  rw [stop] at h2
  split at h2
  · rename_i h
    by_cases e : k = j
    · subst e; exact h.2
    · exact stop_in p s (k + 1) j (by omega) h2
  · omega
termination_by s.size - k
def notNl (c : UInt8) : Bool := (c.toNat : Int) != 10
/-- Behind blanks and remarks. -/
def pass (s : ByteArray) (k : Nat) : Nat :=
  if _h : k < s.size then
    if blankB (byteAt s k) = true then pass s (k + 1)
    else if ((byteAt s k).toNat : Int) == 35 then pass s (stop notNl s (k + 1))
    else k
  else k
termination_by s.size - k
decreasing_by
  all_goals (have := le_stop notNl s (k + 1); omega)
theorem pass_blank {s : ByteArray} {k : Nat} (h : k < s.size) (hb : blankB (byteAt s k) = true) : pass s k = pass s (k + 1) := by
  rw [pass, dif_pos h, if_pos hb]
theorem pass_remark {s : ByteArray} {k : Nat} (h : k < s.size) (hb : ((byteAt s k).toNat : Int) = 35) : pass s k = pass s (stop notNl s (k + 1)) := by
  have hn : ¬ blankB (byteAt s k) = true := by rw [blank_iff]; omega
  rw [pass, dif_pos h, if_neg hn, if_pos (by simpa using hb)]
theorem pass_here {s : ByteArray} {k : Nat} (h : k < s.size) (hb : ¬ blankB (byteAt s k) = true) (hr : ¬ ((byteAt s k).toNat : Int) = 35) : pass s k = k := by
  rw [pass, dif_pos h, if_neg hb, if_neg (by simpa using hr)]
theorem pass_end {s : ByteArray} {k : Nat} (h : ¬ k < s.size) : pass s k = k := by
  rw [pass, dif_neg h]
theorem le_pass (s : ByteArray) (k : Nat) : k ≤ pass s k := by
  rw [pass]
  split
  · split
    · have := le_pass s (k + 1); omega
    · split
      · have h1 := le_stop notNl s (k + 1)
        have := le_pass s (stop notNl s (k + 1)); omega
      · omega
  · omega
termination_by s.size - k
decreasing_by
  all_goals (have := le_stop notNl s (k + 1); omega)
theorem pass_le (s : ByteArray) (k : Nat) (h : k ≤ s.size) : pass s k ≤ s.size := by
  rw [pass]
  split
  · split
    · exact pass_le s (k + 1) (by omega)
    · split
      · exact pass_le s _ (stop_le notNl s (k + 1) (by omega))
      · omega
  · exact h
termination_by s.size - k
decreasing_by
  all_goals (have := le_stop notNl s (k + 1); omega)
/-! ### Numbers -/
def maxInt : Nat := 9223372036854775807
/-- What the first m digits from j on say. -/
def dval (s : ByteArray) (j : Nat) : Nat → Nat
  | 0 => 0
  | m + 1 => dval s j m * 10 + ((byteAt s (j + m)).toNat - 48)
def numOk (s : ByteArray) (j e : Nat) : Bool := !(decide (e - j > 1) && ((byteAt s j).toNat == 48)) && decide (dval s j (e - j) ≤ maxInt)
theorem dval_mono (s : ByteArray) (j : Nat) {m m' : Nat} (h : m ≤ m') : dval s j m ≤ dval s j m' := by
  induction m' with
  | zero => simp_all
  | succ m' ih =>
    rcases Nat.lt_or_ge m (m' + 1) with h1 | h1
    · have := ih (by omega)
      simp only [dval]
      omega
    · obtain rfl : m = m' + 1 := by omega
      exact Nat.le_refl _
theorem dval_over {s : ByteArray} {j k m d : Nat} (hk : k < m) (hd : (byteAt s (j + k)).toNat - 48 = d) (h : dval s j k > (maxInt - d) / 10) (hd9 : d ≤ 9) : ¬ dval s j m ≤ maxInt := by
  have h1 := dval_mono s j (m := k + 1) (m' := m) (by omega)
  simp only [dval, hd] at h1
  unfold maxInt at *
  omega
theorem numOk_over {s : ByteArray} {j e k d : Nat} (hk : k < e - j) (hd : (byteAt s (j + k)).toNat - 48 = d) (h : dval s j k > (maxInt - d) / 10) (hd9 : d ≤ 9) : numOk s j e = false := by
  unfold numOk
  rw [decide_eq_false (dval_over hk hd h hd9), Bool.and_false]
theorem numOk_zero {s : ByteArray} {j e : Nat} (h1 : 1 < e - j) (h2 : (byteAt s j).toNat = 48) : numOk s j e = false := by
  unfold numOk
  simp [h1, h2]
theorem numOk_yes {s : ByteArray} {j e : Nat} (h1 : ¬ (1 < e - j ∧ (byteAt s j).toNat = 48)) (h2 : dval s j (e - j) ≤ maxInt) : numOk s j e = true := by
  unfold numOk
  simp [h2]
  omega
/-! ### Words and signs -/
def wordsL : List ByteArray := [⟨#[111, 112]⟩, ⟨#[111, 110, 99, 101]⟩, ⟨#[109, 97, 110, 121]⟩, ⟨#[100, 101, 102]⟩, ⟨#[114, 101, 99]⟩, ⟨#[109, 97, 105, 110]⟩, ⟨#[108, 101, 116]⟩, ⟨#[105, 110]⟩, ⟨#[102, 110]⟩, ⟨#[105, 102]⟩, ⟨#[116, 104, 101, 110]⟩, ⟨#[101, 108, 115, 101]⟩, ⟨#[99, 97, 115, 101]⟩, ⟨#[111, 102]⟩, ⟨#[101, 110, 100]⟩, ⟨#[100, 111]⟩, ⟨#[102, 115, 116]⟩, ⟨#[115, 110, 100]⟩, ⟨#[104, 97, 110, 100, 108, 101]⟩, ⟨#[115, 104, 97, 108, 108, 111, 119]⟩, ⟨#[119, 105, 116, 104]⟩, ⟨#[114, 101, 116, 117, 114, 110]⟩, ⟨#[116, 114, 117, 101]⟩, ⟨#[102, 97, 108, 115, 101]⟩, ⟨#[105, 110, 116]⟩, ⟨#[98, 111, 111, 108]⟩, ⟨#[117, 110, 105, 116]⟩, ⟨#[108, 105, 115, 116]⟩]
def wordB (s : ByteArray) : Bool := wordsL.any (fun x => s.toList == x.toList)
theorem wordB_yes {s : ByteArray} (i : Nat) (x : ByteArray) (hx : wordsL[i]? = some x) (h : (s.toList == x.toList) = true) : wordB s = true :=
  List.any_eq_true.2 ⟨x, List.mem_of_getElem? hx, h⟩
theorem wordB_at {s : ByteArray} {k : Nat} (hk : k < 28) (h : ((Gx.gs wordsL k).toList == s.toList) = true) : wordB s = true := by
  have hl : k < wordsL.length := hk
  refine wordB_yes k wordsL[k] (List.getElem?_eq_getElem hl) ?_
  have : Gx.gs wordsL k = wordsL[k] := by simp [Gx.gs, hl]
  rw [← this, beq_iff_eq]
  exact (beq_iff_eq.1 h).symm
theorem wordB_none {s : ByteArray} (h : ∀ j, j < 28 → ((Gx.gs wordsL j).toList == s.toList) = false) : wordB s = false := by
  unfold wordB
  rw [List.any_eq_false]
  intro x hx
  obtain ⟨j, hj, rfl⟩ := List.getElem_of_mem hx
  have := h j hj
  have e : Gx.gs wordsL j = wordsL[j] := by simp [Gx.gs, hj]
  rw [beq_eq_false_iff_ne, e] at this
  intro hc
  exact this (beq_iff_eq.1 hc).symm
def signsL : List ByteArray := [⟨#[58, 58]⟩, ⟨#[61, 61]⟩, ⟨#[61, 62]⟩, ⟨#[45, 62]⟩, ⟨#[40]⟩, ⟨#[41]⟩, ⟨#[91]⟩, ⟨#[93]⟩, ⟨#[123]⟩, ⟨#[125]⟩, ⟨#[44]⟩, ⟨#[59]⟩, ⟨#[58]⟩, ⟨#[61]⟩, ⟨#[45]⟩, ⟨#[43]⟩, ⟨#[42]⟩, ⟨#[60]⟩, ⟨#[124]⟩, ⟨#[126]⟩]
def longerB (s : ByteArray) : Bool := (((s.toList == (⟨#[58, 58]⟩ : ByteArray).toList) || (s.toList == (⟨#[61, 61]⟩ : ByteArray).toList)) || (s.toList == (⟨#[61, 62]⟩ : ByteArray).toList)) || (s.toList == (⟨#[45, 62]⟩ : ByteArray).toList)
/-! ### Pieces -/
theorem bytes_ext {a b : ByteArray} (h : a.toList = b.toList) : a = b := by
  rw [ByteArray.toList_eq, ByteArray.toList_eq] at h
  obtain ⟨⟨x⟩⟩ := a
  obtain ⟨⟨y⟩⟩ := b
  simp only at h
  rw [h]
theorem size_ext {s : ByteArray} {a c : Nat} (h : c ≤ s.size) : (s.extract a c).size = c - a := by
  rw [ByteArray.size_extract]; omega
theorem byteAt_ext {s : ByteArray} {a c m : Nat} (hc : c ≤ s.size) (hm : m < c - a) : byteAt (s.extract a c) m = byteAt s (a + m) := by
  unfold byteAt
  have hs : c ≤ s.data.size := hc
  rw [ByteArray.data_extract, Array.getElem?_extract, if_pos (by omega)]
theorem dval_ext {s : ByteArray} {j e : Nat} (he : e ≤ s.size) : ∀ m, m ≤ e - j → dval (s.extract j e) 0 m = dval s j m
  | 0, _ => rfl
  | m + 1, h => by
    simp only [dval, Nat.zero_add]
    rw [dval_ext he m (by omega), byteAt_ext he (by omega)]
theorem numOk_extract {s : ByteArray} {j e : Nat} (hj : j ≤ e) (he : e ≤ s.size) : numOk (s.extract j e) 0 (s.extract j e).size = numOk s j e := by
  unfold numOk
  rw [size_ext he, Nat.sub_zero, dval_ext he _ (Nat.le_refl _)]
  by_cases h : 1 < e - j
  · rw [byteAt_ext he (by omega), Nat.add_zero]
  · simp [h]
theorem numV_extract {s : ByteArray} {j e : Nat} (hj : j ≤ e) (he : e ≤ s.size) (h : numOk (s.extract j e) 0 (s.extract j e).size = true) :
    (bif numOk (s.extract j e) 0 (s.extract j e).size then dval (s.extract j e) 0 (s.extract j e).size else 0) = dval s j (e - j) := by
  rw [h, cond_true, size_ext he, dval_ext he _ (Nat.le_refl _)]
theorem digits_run (s : ByteArray) (j : Nat) (hj : j ≤ s.size) : ∀ m, m < (s.extract j (stop digitB s j)).size → digitB (byteAt (s.extract j (stop digitB s j)) m) = true := by
  intro m hm
  have h2 := stop_le digitB s j hj
  rw [size_ext h2] at hm
  rw [byteAt_ext h2 hm]
  exact stop_in digitB s j (j + m) (by omega) (by omega)
/-- Does sign number r stand at j? -/
def signAt (s : ByteArray) (j r : Nat) : Bool := decide (((j + (Gx.gs signsL r).size : Nat) : Int) ≤ ((s.size : Nat) : Int)) && ((s.extract j (j + (Gx.gs signsL r).size)).toList == (Gx.gs signsL r).toList)
/-! ### The token at a place -/
structure Nx where
  kind : Nat
  at_ : Nat
  text : ByteArray
  n : Nat
  nx : Nat
  fk : Nat
  fa : Nat
def fault (k a : Nat) : Nx := ⟨0, 0, ⟨#[]⟩, 0, 0, k, a⟩
def signLen (s : ByteArray) (j : Nat) : Nat := if (decide (((j + 2 : Nat) : Int) ≤ ((s.size : Nat) : Int)) && longerB (s.extract j (j + 2))) = true then 2 else 1
def numAt (s : ByteArray) (j : Nat) : Nx :=
  if numOk s j (stop digitB s j) = true then ⟨1, j, ⟨#[]⟩, dval s j (stop digitB s j - j), stop digitB s j, 0, 0⟩ else fault 3 j
def nameAt (s : ByteArray) (j : Nat) : Nx :=
  if stop (fun c => letterB c || digitB c) s j - j > 20 then fault 3 j
  else ⟨if wordB (s.extract j (stop (fun c => letterB c || digitB c) s j)) = true then 3 else 2, j, s.extract j (stop (fun c => letterB c || digitB c) s j), 0, stop (fun c => letterB c || digitB c) s j, 0, 0⟩
/-- The token that begins at j. -/
def tokAt (s : ByteArray) (j : Nat) : Nx :=
  if digitB (byteAt s j) = true then numAt s j
  else if letterB (byteAt s j) = true then nameAt s j
  else if signB (byteAt s j) = true then ⟨4, j, s.extract j (j + signLen s j), 0, j + signLen s j, 0, 0⟩
  else fault 2 j
/-- The token at a place or behind it. -/
def next (s : ByteArray) (i : Nat) : Nx :=
  if pass s i < s.size then tokAt s (pass s i) else ⟨0, s.size, ⟨#[]⟩, 0, s.size, 0, 0⟩
def Nx.tokV (x : Nx) : Value := .agg #[.int .i64 (x.kind : Int), .int .i64 (x.at_ : Int), .string x.text, .int .i64 (x.n : Int)]
def Nx.faultV (x : Nx) : Value := .agg #[.int .i64 (x.fk : Int), .int .i64 (x.fa : Int)]
def Nx.V (x : Nx) : Value := .tuple #[x.tokV, .int .i64 (x.nx : Int), x.faultV]
/-! ### Signs: the list of them, and what the byte and the next one say -/
theorem one_ext {s : ByteArray} {j : Nat} (h : j < s.size) : (s.extract j (j + 1)).toList = [byteAt s j] := by
  rw [ByteArray.toList_eq, ByteArray.data_extract]
  have h' : j < s.data.size := h
  apply List.ext_getElem?
  intro i
  rw [Array.getElem?_toList, Array.getElem?_extract]
  by_cases hi : i = 0
  · subst hi
    rw [if_pos (by omega), Nat.add_zero, List.getElem?_cons_zero, byteAt, Array.getElem?_eq_getElem h']
    rfl
  · rw [if_neg (by omega)]
    symm
    rw [List.getElem?_eq_none_iff]
    simp
    omega
theorem longer_of {s : ByteArray} (r : Nat) (hr : r < 4) (h : (s.toList == (Gx.gs signsL r).toList) = true) : longerB s = true := by
  unfold longerB
  match r, hr with
  | 0, _ => rw [show (s.toList == (⟨#[58, 58]⟩ : ByteArray).toList) = true from h]; rfl
  | 1, _ => rw [show (s.toList == (⟨#[61, 61]⟩ : ByteArray).toList) = true from h, Bool.or_true]; rfl
  | 2, _ => rw [show (s.toList == (⟨#[61, 62]⟩ : ByteArray).toList) = true from h, Bool.or_true]; rfl
  | 3, _ => rw [show (s.toList == (⟨#[45, 62]⟩ : ByteArray).toList) = true from h, Bool.or_true]
theorem longer_not {s : ByteArray} (h : ∀ r, r < 4 → (s.toList == (Gx.gs signsL r).toList) = false) : longerB s = false := by
  unfold longerB
  rw [show (s.toList == (⟨#[58, 58]⟩ : ByteArray).toList) = false from h 0 (by omega), show (s.toList == (⟨#[61, 61]⟩ : ByteArray).toList) = false from h 1 (by omega),
    show (s.toList == (⟨#[61, 62]⟩ : ByteArray).toList) = false from h 2 (by omega), show (s.toList == (⟨#[45, 62]⟩ : ByteArray).toList) = false from h 3 (by omega)]
  rfl
theorem signs_len : ∀ r, r < 20 → (Gx.gs signsL r).size = if r < 4 then 2 else 1 := by decide +kernel
theorem signs_first : ∀ r, r < 20 → signB (byteAt (Gx.gs signsL r) 0) = true := by decide +kernel
theorem signs_all : ∀ c : Fin 256, signB (UInt8.ofNat c.val) = true → ∃ r, r < 20 ∧ 4 ≤ r ∧ (Gx.gs signsL r).toList = [UInt8.ofNat c.val] := by decide +kernel
theorem first_of {s t : ByteArray} {j : Nat} (ht : 0 < t.size) (h : j + t.size ≤ s.size) (e : (s.extract j (j + t.size)).toList = t.toList) : byteAt s j = byteAt t 0 := by
  have h1 := byteAt_ext (s := s) (a := j) (c := j + t.size) (m := 0) h (by omega)
  rw [Nat.add_zero] at h1
  rw [← h1, bytes_ext e]
theorem sign_yes {s : ByteArray} {j q : Nat} (hq : q < 20) (hn : ∀ r, r < q → signAt s j r = false) (h : signAt s j q = true) :
    signB (byteAt s j) = true ∧ signLen s j = (Gx.gs signsL q).size ∧ s.extract j (j + (Gx.gs signsL q).size) = Gx.gs signsL q := by
  have h0 := h
  simp only [signAt, Bool.and_eq_true, decide_eq_true_eq, beq_iff_eq] at h
  obtain ⟨h1, h2⟩ := h
  have h1' : j + (Gx.gs signsL q).size ≤ s.size := by omega
  have hl := signs_len q hq
  have hpos : 0 < (Gx.gs signsL q).size := by rw [hl]; split <;> omega
  refine ⟨by rw [first_of hpos h1' h2]; exact signs_first q hq, ?_, bytes_ext h2⟩
  rw [hl]
  unfold signLen
  by_cases h4 : q < 4
  · rw [if_pos h4] at hl ⊢
    rw [hl] at h1' h2
    rw [if_pos]
    rw [decide_eq_true (show ((j + 2 : Nat) : Int) ≤ ((s.size : Nat) : Int) by omega), Bool.true_and]
    exact longer_of q h4 (by simpa using h2)
  · rw [if_neg h4]
    rw [if_neg]
    intro hc
    simp only [Bool.and_eq_true, decide_eq_true_eq] at hc
    obtain ⟨c1, c2⟩ := hc
    have : longerB (s.extract j (j + 2)) = false := longer_not (fun r hr => by
      have := hn r (by omega)
      have hl2 := signs_len r (by omega)
      rw [if_pos hr] at hl2
      simp only [signAt, hl2] at this
      rw [decide_eq_true (show ((j + 2 : Nat) : Int) ≤ ((s.size : Nat) : Int) from c1), Bool.true_and] at this
      exact this)
    rw [this] at c2
    cases c2
theorem sign_no {s : ByteArray} {j : Nat} (hj : j < s.size) (hn : ∀ r, r < 20 → signAt s j r = false) : signB (byteAt s j) = false := by
  cases hb : signB (byteAt s j) with
  | false => rfl
  | true =>
    exfalso
    have hc : UInt8.ofNat (byteAt s j).toNat = byteAt s j := by simp
    obtain ⟨r, hr, h4, he⟩ := signs_all ⟨(byteAt s j).toNat, (byteAt s j).toNat_lt⟩ (by simpa using hb)
    have hl := signs_len r hr
    rw [if_neg (by omega)] at hl
    have := hn r hr
    simp only [signAt, hl] at this
    rw [decide_eq_true (show ((j + 1 : Nat) : Int) ≤ ((s.size : Nat) : Int) by omega), Bool.true_and, one_ext hj, he] at this
    simp at this
/-! ### All tokens -/
theorem next_prog {s : ByteArray} {i : Nat} (hi : i ≤ s.size) (hf : (next s i).fk = 0) (hk : (next s i).kind ≠ 0) : i < (next s i).nx ∧ (next s i).nx ≤ s.size := by
  have h1 := le_pass s i
  have h2 := pass_le s i hi
  unfold next at *
  split at hk
  · rename_i hlt
    rw [if_pos hlt] at hf
    rw [if_pos hlt]
    unfold tokAt at *
    by_cases hd : digitB (byteAt s (pass s i)) = true
    · rw [if_pos hd] at *
      unfold numAt at *
      split at hk
      · rename_i hn
        rw [if_pos hn]
        have a := stop_go hlt hd
        have b := le_stop digitB s (pass s i + 1)
        have c := stop_le digitB s (pass s i) h2
        show i < stop digitB s (pass s i) ∧ stop digitB s (pass s i) ≤ s.size
        omega
      · exact absurd rfl hk
    · rw [if_neg hd] at *
      by_cases hl : letterB (byteAt s (pass s i)) = true
      · rw [if_pos hl] at *
        unfold nameAt at *
        split at hk
        · exact absurd rfl hk
        · rename_i hn
          rw [if_neg hn]
          have a := stop_go (p := fun c => letterB c || digitB c) hlt (by simp [hl])
          have b := le_stop (fun c => letterB c || digitB c) s (pass s i + 1)
          have c := stop_le (fun c => letterB c || digitB c) s (pass s i) h2
          show i < stop _ s (pass s i) ∧ stop _ s (pass s i) ≤ s.size
          omega
      · rw [if_neg hl] at *
        by_cases hs : signB (byteAt s (pass s i)) = true
        · rw [if_pos hs] at *
          show i < pass s i + signLen s (pass s i) ∧ pass s i + signLen s (pass s i) ≤ s.size
          unfold signLen
          split
          · rename_i h
            simp only [Bool.and_eq_true, decide_eq_true_eq] at h
            omega
          · omega
        · rw [if_neg hs] at *
          exact absurd rfl hk
  · exact absurd rfl hk
end Go.Lex
namespace Go.Syn
open Go.Lex
inductive Nd where
  | mk (k a : Nat) (nm : ByteArray) (n : Int) (ks : List Nd)
def Nd.k : Nd → Nat | .mk k _ _ _ _ => k
def Nd.a : Nd → Nat | .mk _ a _ _ _ => a
def Nd.nm : Nd → ByteArray | .mk _ _ x _ _ => x
def Nd.n : Nd → Int | .mk _ _ _ n _ => n
def Nd.ks : Nd → List Nd | .mk _ _ _ _ l => l
def nd0 : Nd := .mk 0 0 (⟨#[]⟩ : ByteArray) 0 []
def two (x : ByteArray) (a b : Nd) : Nd := .mk 18 a.a x 0 [a, b]
/-- How a reader stands. -/
structure Rs where
  k : Nat
  a : Nat
  t : ByteArray
  n : Nat
  e : Nat
  fk : Nat
  fa : Nat
  x : Nat
  y : Nat
def okB (q : Rs) : Bool := ((q.fk : Nat) : Int) == (0 : Int)
def isB (q : Rs) (s : ByteArray) : Bool := okB q && ((((q.k : Nat) : Int) == (3 : Int)) || (((q.k : Nat) : Int) == (4 : Int))) && (q.t.toList == s.toList)
def isNameB (q : Rs) : Bool := okB q && (((q.k : Nat) : Int) == (2 : Int))
def begB (q : Rs) : Bool := okB q && ((((q.k : Nat) : Int) == (2 : Int)) || (((q.k : Nat) : Int) == (1 : Int)) || isB q (⟨#[126]⟩ : ByteArray) || isB q (⟨#[116, 114, 117, 101]⟩ : ByteArray) || isB q (⟨#[102, 97, 108, 115, 101]⟩ : ByteArray) || isB q (⟨#[40]⟩ : ByteArray) || isB q (⟨#[91]⟩ : ByteArray))
def nextR (S : ByteArray) (q : Rs) : Rs := if okB q = true then ⟨(next S q.e).kind, (next S q.e).at_, (next S q.e).text, (next S q.e).n, (next S q.e).nx, (next S q.e).fk, (next S q.e).fa, q.x, q.y⟩ else q
def noR (q : Rs) : Rs := if okB q = true then { q with fk := 4, fa := q.a } else q
def hasR (S : ByteArray) (q : Rs) (s : ByteArray) : Rs := if isB q s = true then nextR S q else q
def mustR (S : ByteArray) (q : Rs) (s : ByteArray) : Rs := if isB q s = true then nextR S q else noR q
def nameR (S : ByteArray) (q : Rs) : (ByteArray × Nat) × Rs := if isNameB q = true then ((q.t, q.a), nextR S q) else (((⟨#[]⟩ : ByteArray), 0), noR q)
/-- What is read. -/
inductive NT where
  | typ | pair | some | listL (a : Nd) | namesL (l : List Nd) | expr | any | params (sign : ByteArray) (first : Bool) | letN (at_ : Nat) | cases (at_ : Nat) | handle (at_ : Nat) | handL (l : List Nd)
  | comp | cons | sum | sumL (a : Nd) | mul | mulL (a : Nd) | app | appL (a : Nd) | atom | round (at_ : Nat) | square (at_ : Nat) | squareL (l : List Nd) | prog | opsL (l : List Nd) | defsL (n : Nat) (l : List Nd)
section
variable (S : ByteArray) (R : NT → Rs → Nd × Rs)
def fnS (a : Nd) (q1 : Rs) : Nd × Rs :=
  let q2 := hasR S q1 (⟨#[45, 62]⟩ : ByteArray)
  if isB q1 (⟨#[45, 62]⟩ : ByteArray) = true then
    let r := R .typ q2
    (.mk 29 a.a (⟨#[]⟩ : ByteArray) 0 [a, r.1], r.2)
  else
    let q3 := hasR S q2 (⟨#[45]⟩ : ByteArray)
    if isB q2 (⟨#[45]⟩ : ByteArray) = true then
      let q4 := mustR S q3 (⟨#[123]⟩ : ByteArray)
      let r4 := R (.namesL []) q4
      let q5 := mustR S r4.2 (⟨#[125]⟩ : ByteArray)
      let q6 := mustR S q5 (⟨#[45, 62]⟩ : ByteArray)
      let r6 := R .typ q6
      (.mk 29 a.a (⟨#[]⟩ : ByteArray) 0 ([a, r6.1] ++ r4.1.ks), r6.2)
    else (a, q3)
def typS (q : Rs) : Nd × Rs :=
  if okB q = true then
    if decide (((q.y : Nat) : Int) ≥ (200 : Int)) = true then (nd0, { q with fk := 5, fa := q.a })
    else
      let r1 := R .pair { q with y := q.y + 1 }
      let r := fnS S R r1.1 r1.2
      (r.1, { r.2 with y := r.2.y - 1 })
  else (nd0, q)
def namesLS (l : List Nd) (q : Rs) : Nd × Rs :=
  let r := nameR S q
  let q1 := hasR S r.2 (⟨#[44]⟩ : ByteArray)
  if isB r.2 (⟨#[44]⟩ : ByteArray) = true then R (.namesL (l ++ [.mk 23 r.1.2 r.1.1 0 []])) q1 else (.mk 0 0 (⟨#[]⟩ : ByteArray) 0 (l ++ [.mk 23 r.1.2 r.1.1 0 []]), q1)
def pairS (q : Rs) : Nd × Rs :=
  let r1 := R .some q
  let q2 := hasR S r1.2 (⟨#[42]⟩ : ByteArray)
  if isB r1.2 (⟨#[42]⟩ : ByteArray) = true then
    let r2 := R .pair q2
    (.mk 28 r1.1.a (⟨#[]⟩ : ByteArray) 0 [r1.1, r2.1], r2.2)
  else (r1.1, q2)
def someS (q : Rs) : Nd × Rs :=
  let q1 := hasR S q (⟨#[105, 110, 116]⟩ : ByteArray)
  if isB q (⟨#[105, 110, 116]⟩ : ByteArray) = true then R (.listL (.mk 24 q.a (⟨#[]⟩ : ByteArray) 0 [])) q1 else
  let q2 := hasR S q1 (⟨#[98, 111, 111, 108]⟩ : ByteArray)
  if isB q1 (⟨#[98, 111, 111, 108]⟩ : ByteArray) = true then R (.listL (.mk 25 q.a (⟨#[]⟩ : ByteArray) 0 [])) q2 else
  let q3 := hasR S q2 (⟨#[117, 110, 105, 116]⟩ : ByteArray)
  if isB q2 (⟨#[117, 110, 105, 116]⟩ : ByteArray) = true then R (.listL (.mk 26 q.a (⟨#[]⟩ : ByteArray) 0 [])) q3 else
  let q4 := hasR S q3 (⟨#[40]⟩ : ByteArray)
  if isB q3 (⟨#[40]⟩ : ByteArray) = true then
    let r := R .typ q4
    R (.listL r.1) (mustR S r.2 (⟨#[41]⟩ : ByteArray))
  else R (.listL nd0) (noR q4)
def listLS (a : Nd) (q : Rs) : Nd × Rs :=
  let q1 := hasR S q (⟨#[108, 105, 115, 116]⟩ : ByteArray)
  if isB q (⟨#[108, 105, 115, 116]⟩ : ByteArray) = true then R (.listL (.mk 27 a.a (⟨#[]⟩ : ByteArray) 0 [a])) q1 else (a, q1)
def exprS (q : Rs) : Nd × Rs :=
  if okB q = true then
    if decide (((q.x : Nat) : Int) ≥ (200 : Int)) = true then (nd0, { q with fk := 5, fa := q.a })
    else
      let r1 := R .any { q with x := q.x + 1 }
      (r1.1, { r1.2 with x := r1.2.x - 1 })
  else (nd0, q)
def anyS (q : Rs) : Nd × Rs :=
  let q1 := hasR S q (⟨#[108, 101, 116]⟩ : ByteArray)
  if isB q (⟨#[108, 101, 116]⟩ : ByteArray) = true then R (.letN q.a) q1 else
  let q2 := hasR S q1 (⟨#[102, 110]⟩ : ByteArray)
  if isB q1 (⟨#[102, 110]⟩ : ByteArray) = true then
    let r := R (.params (⟨#[61, 62]⟩ : ByteArray) true) q2
    (.mk r.1.k q.a r.1.nm r.1.n r.1.ks, r.2)
  else
  let q3 := hasR S q2 (⟨#[105, 102]⟩ : ByteArray)
  if isB q2 (⟨#[105, 102]⟩ : ByteArray) = true then
    let ra := R .expr q3
    let qa := mustR S ra.2 (⟨#[116, 104, 101, 110]⟩ : ByteArray)
    let rb := R .expr qa
    let qb := mustR S rb.2 (⟨#[101, 108, 115, 101]⟩ : ByteArray)
    let rc := R .expr qb
    (.mk 11 q.a (⟨#[]⟩ : ByteArray) 0 [ra.1, rb.1, rc.1], rc.2)
  else
  let q4 := hasR S q3 (⟨#[99, 97, 115, 101]⟩ : ByteArray)
  if isB q3 (⟨#[99, 97, 115, 101]⟩ : ByteArray) = true then R (.cases q.a) q4 else
  if isB q4 (⟨#[104, 97, 110, 100, 108, 101]⟩ : ByteArray) = true then R (.handle q.a) q4 else
  if isB q4 (⟨#[115, 104, 97, 108, 108, 111, 119]⟩ : ByteArray) = true then R (.handle q.a) q4 else
  let r := R .comp q4
  let q5 := hasR S r.2 (⟨#[59]⟩ : ByteArray)
  if isB r.2 (⟨#[59]⟩ : ByteArray) = true then
    let r2 := R .expr q5
    (.mk 10 r.1.a (⟨#[]⟩ : ByteArray) 0 [r.1, r2.1], r2.2)
  else (r.1, q5)
def paramS (sign : ByteArray) (q : Rs) : Nd × Rs :=
  let r := nameR S q
  if okB r.2 = true then
    let r2 := R (.params sign false) r.2
    (.mk 7 r.1.2 r.1.1 0 [r2.1], r2.2)
  else (nd0, r.2)
def paramsS (sign : ByteArray) (first : Bool) (q : Rs) : Nd × Rs :=
  if first = true then paramS S R sign q else if isNameB q = true then paramS S R sign q else R .expr (mustR S q sign)
def letT (at_ : Nat) (n : Int) (f : Bool) (q1 : Rs) : Nd × Rs :=
  let r := nameR S q1
  let r2 := R (.params (⟨#[61]⟩ : ByteArray) f) r.2
  let q3 := mustR S r2.2 (⟨#[105, 110]⟩ : ByteArray)
  let r4 := R .expr q3
  (.mk 9 at_ r.1.1 n [r2.1, r4.1], r4.2)
def letS (at_ : Nat) (q : Rs) : Nd × Rs :=
  let q1 := hasR S q (⟨#[114, 101, 99]⟩ : ByteArray)
  if isB q (⟨#[114, 101, 99]⟩ : ByteArray) = true then letT S R at_ 1 true q1 else letT S R at_ 0 false q1
def casesS (at_ : Nat) (q : Rs) : Nd × Rs :=
  let r := R .expr q
  let q1 := mustR S r.2 (⟨#[111, 102]⟩ : ByteArray)
  let q2 := mustR S q1 (⟨#[91]⟩ : ByteArray)
  let q3 := mustR S q2 (⟨#[93]⟩ : ByteArray)
  let q4 := mustR S q3 (⟨#[61, 62]⟩ : ByteArray)
  let r5 := R .expr q4
  let q6 := mustR S r5.2 (⟨#[124]⟩ : ByteArray)
  let r7 := nameR S q6
  let q8 := mustR S r7.2 (⟨#[58, 58]⟩ : ByteArray)
  let r9 := nameR S q8
  let q10 := mustR S r9.2 (⟨#[61, 62]⟩ : ByteArray)
  let r11 := R .expr q10
  let q12 := mustR S r11.2 (⟨#[101, 110, 100]⟩ : ByteArray)
  (.mk 17 at_ (⟨#[]⟩ : ByteArray) 0 [r.1, r5.1, .mk 23 r7.1.2 r7.1.1 0 [], .mk 23 r9.1.2 r9.1.1 0 [], r11.1], q12)
def handT (at_ : Nat) (n : Int) (q1 : Rs) : Nd × Rs :=
  let r := R .expr q1
  let q2 := mustR S r.2 (⟨#[119, 105, 116, 104]⟩ : ByteArray)
  let q3 := mustR S q2 (⟨#[123]⟩ : ByteArray)
  let q4 := mustR S q3 (⟨#[114, 101, 116, 117, 114, 110]⟩ : ByteArray)
  let r5 := nameR S q4
  let q6 := mustR S r5.2 (⟨#[61, 62]⟩ : ByteArray)
  let r7 := R .expr q6
  let r8 := R (.handL [r.1, .mk 21 q3.a r5.1.1 0 [r7.1]]) r7.2
  let q9 := mustR S r8.2 (⟨#[125]⟩ : ByteArray)
  (.mk 20 at_ (⟨#[]⟩ : ByteArray) n r8.1.ks, q9)
def handleS (at_ : Nat) (q : Rs) : Nd × Rs :=
  let q1 := hasR S q (⟨#[104, 97, 110, 100, 108, 101]⟩ : ByteArray)
  if isB q (⟨#[104, 97, 110, 100, 108, 101]⟩ : ByteArray) = true then handT S R at_ 0 q1 else handT S R at_ 1 (nextR S q1)
def handLS (l : List Nd) (q : Rs) : Nd × Rs :=
  let q1 := hasR S q (⟨#[124]⟩ : ByteArray)
  if isB q (⟨#[124]⟩ : ByteArray) = true then
    let r2 := nameR S q1
    let r3 := nameR S r2.2
    let r4 := nameR S r3.2
    let q5 := mustR S r4.2 (⟨#[61, 62]⟩ : ByteArray)
    let r6 := R .expr q5
    R (.handL (l ++ [.mk 22 r2.1.2 r2.1.1 0 [.mk 23 r3.1.2 r3.1.1 0 [], .mk 23 r4.1.2 r4.1.1 0 [], r6.1]])) r6.2
  else (.mk 0 0 (⟨#[]⟩ : ByteArray) 0 l, q1)
def compS (q : Rs) : Nd × Rs :=
  let r := R .cons q
  let q1 := hasR S r.2 (⟨#[61, 61]⟩ : ByteArray)
  if isB r.2 (⟨#[61, 61]⟩ : ByteArray) = true then
    let r2 := R .cons q1
    (two (⟨#[61, 61]⟩ : ByteArray) r.1 r2.1, r2.2)
  else
  let q2 := hasR S q1 (⟨#[60]⟩ : ByteArray)
  if isB q1 (⟨#[60]⟩ : ByteArray) = true then
    let r2 := R .cons q2
    (two (⟨#[60]⟩ : ByteArray) r.1 r2.1, r2.2)
  else (r.1, q2)
def consS (q : Rs) : Nd × Rs :=
  let r := R .sum q
  let q1 := hasR S r.2 (⟨#[58, 58]⟩ : ByteArray)
  if isB r.2 (⟨#[58, 58]⟩ : ByteArray) = true then
    let r2 := R .cons q1
    (.mk 16 r.1.a (⟨#[]⟩ : ByteArray) 0 [r.1, r2.1], r2.2)
  else (r.1, q1)
def sumS (q : Rs) : Nd × Rs :=
  let r := R .mul q
  R (.sumL r.1) r.2
def sumLS (a : Nd) (q : Rs) : Nd × Rs :=
  let q1 := hasR S q (⟨#[43]⟩ : ByteArray)
  if isB q (⟨#[43]⟩ : ByteArray) = true then
    let r := R .mul q1
    R (.sumL (two q.t a r.1)) r.2
  else
  let q2 := hasR S q1 (⟨#[45]⟩ : ByteArray)
  if isB q1 (⟨#[45]⟩ : ByteArray) = true then
    let r := R .mul q2
    R (.sumL (two q.t a r.1)) r.2
  else (a, q2)
def mulS (q : Rs) : Nd × Rs :=
  let r := R .app q
  R (.mulL r.1) r.2
def mulLS (a : Nd) (q : Rs) : Nd × Rs :=
  let q1 := hasR S q (⟨#[42]⟩ : ByteArray)
  if isB q (⟨#[42]⟩ : ByteArray) = true then
    let r := R .app q1
    R (.mulL (two (⟨#[42]⟩ : ByteArray) a r.1)) r.2
  else (a, q1)
def appS (q : Rs) : Nd × Rs :=
  let q1 := hasR S q (⟨#[100, 111]⟩ : ByteArray)
  if isB q (⟨#[100, 111]⟩ : ByteArray) = true then
    let r := nameR S q1
    let r2 := R .atom r.2
    (.mk 19 q.a r.1.1 0 [r2.1], r2.2)
  else
  let q2 := hasR S q1 (⟨#[102, 115, 116]⟩ : ByteArray)
  if isB q1 (⟨#[102, 115, 116]⟩ : ByteArray) = true then
    let r := R .atom q2
    (.mk 13 q.a (⟨#[]⟩ : ByteArray) 0 [r.1], r.2)
  else
  let q3 := hasR S q2 (⟨#[115, 110, 100]⟩ : ByteArray)
  if isB q2 (⟨#[115, 110, 100]⟩ : ByteArray) = true then
    let r := R .atom q3
    (.mk 14 q.a (⟨#[]⟩ : ByteArray) 0 [r.1], r.2)
  else
  let r := R .atom q3
  R (.appL r.1) r.2
def appLS (a : Nd) (q : Rs) : Nd × Rs :=
  if begB q = true then
    let r := R .atom q
    R (.appL (.mk 8 a.a (⟨#[]⟩ : ByteArray) 0 [a, r.1])) r.2
  else (a, q)
def numS (q : Rs) (q1 : Rs) : Nd × Rs :=
  if okB q1 = true then
    if (((q1.k : Nat) : Int) != (1 : Int)) = true then (.mk 3 q.a (⟨#[]⟩ : ByteArray) (-((q1.n : Nat) : Int)) [], nextR S (noR q1))
    else (.mk 3 q.a (⟨#[]⟩ : ByteArray) (-((q1.n : Nat) : Int)) [], nextR S q1)
  else (.mk 3 q.a (⟨#[]⟩ : ByteArray) (-((q1.n : Nat) : Int)) [], nextR S q1)
def atomS (q : Rs) : Nd × Rs :=
  if okB q = true then
    if (((q.k : Nat) : Int) == (2 : Int)) = true then (.mk 6 q.a q.t 0 [], nextR S q) else
    if (((q.k : Nat) : Int) == (1 : Int)) = true then (.mk 3 q.a (⟨#[]⟩ : ByteArray) ((q.n : Nat) : Int) [], nextR S q) else
    let q1 := hasR S q (⟨#[126]⟩ : ByteArray)
    if isB q (⟨#[126]⟩ : ByteArray) = true then numS S q q1 else
    let q2 := hasR S q1 (⟨#[116, 114, 117, 101]⟩ : ByteArray)
    if isB q1 (⟨#[116, 114, 117, 101]⟩ : ByteArray) = true then (.mk 4 q.a (⟨#[]⟩ : ByteArray) 1 [], q2) else
    let q3 := hasR S q2 (⟨#[102, 97, 108, 115, 101]⟩ : ByteArray)
    if isB q2 (⟨#[102, 97, 108, 115, 101]⟩ : ByteArray) = true then (.mk 4 q.a (⟨#[]⟩ : ByteArray) 0 [], q3) else
    let q4 := hasR S q3 (⟨#[40]⟩ : ByteArray)
    if isB q3 (⟨#[40]⟩ : ByteArray) = true then R (.round q.a) q4 else
    let q5 := hasR S q4 (⟨#[91]⟩ : ByteArray)
    if isB q4 (⟨#[91]⟩ : ByteArray) = true then R (.square q.a) q5 else
    (nd0, noR q5)
  else (nd0, q)
def roundS (at_ : Nat) (q : Rs) : Nd × Rs :=
  let q1 := hasR S q (⟨#[41]⟩ : ByteArray)
  if isB q (⟨#[41]⟩ : ByteArray) = true then (.mk 5 at_ (⟨#[]⟩ : ByteArray) 0 [], q1) else
  let r := R .expr q1
  let q2 := hasR S r.2 (⟨#[44]⟩ : ByteArray)
  if isB r.2 (⟨#[44]⟩ : ByteArray) = true then
    let r2 := R .expr q2
    let q3 := mustR S r2.2 (⟨#[41]⟩ : ByteArray)
    (.mk 12 at_ (⟨#[]⟩ : ByteArray) 0 [r.1, r2.1], q3)
  else (r.1, mustR S q2 (⟨#[41]⟩ : ByteArray))
def consF (x e : Nd) : Nd := .mk 16 x.a (⟨#[]⟩ : ByteArray) 0 [x, e]
def consAll (at_ : Nat) (l : List Nd) : Nd := l.foldr consF (.mk 15 at_ (⟨#[]⟩ : ByteArray) 0 [])
def squareS (at_ : Nat) (q : Rs) : Nd × Rs :=
  let q1 := hasR S q (⟨#[93]⟩ : ByteArray)
  if isB q (⟨#[93]⟩ : ByteArray) = true then (.mk 15 at_ (⟨#[]⟩ : ByteArray) 0 [], q1) else
  let r := R (.squareL []) q1
  (consAll at_ r.1.ks, mustR S r.2 (⟨#[93]⟩ : ByteArray))
def squareLS (l : List Nd) (q : Rs) : Nd × Rs :=
  let r := R .expr q
  let q1 := hasR S r.2 (⟨#[44]⟩ : ByteArray)
  if isB r.2 (⟨#[44]⟩ : ByteArray) = true then R (.squareL (l ++ [r.1])) q1 else (.mk 0 0 (⟨#[]⟩ : ByteArray) 0 (l ++ [r.1]), q1)
def opsT (l : List Nd) (at_ : Nat) (n : Int) (q2 : Rs) : Nd × Rs :=
  let r := nameR S q2
  let q3 := mustR S r.2 (⟨#[58]⟩ : ByteArray)
  let ra := R .typ q3
  let q4 := mustR S ra.2 (⟨#[61, 62]⟩ : ByteArray)
  let rb := R .typ q4
  R (.opsL (l ++ [.mk 1 at_ r.1.1 n [ra.1, rb.1]])) rb.2
def opsLS (l : List Nd) (q : Rs) : Nd × Rs :=
  if isB q (⟨#[111, 112]⟩ : ByteArray) = true then
    let q1 := nextR S q
    if isB q1 (⟨#[111, 110, 99, 101]⟩ : ByteArray) = true then opsT S R l q.a 1 (nextR S q1)
    else if isB q1 (⟨#[109, 97, 110, 121]⟩ : ByteArray) = true then opsT S R l q.a 0 (nextR S q1)
    else opsT S R l q.a 0 (noR q1)
  else (.mk 0 0 (⟨#[]⟩ : ByteArray) ((l.length : Nat) : Int) l, q)
def defsT (n0 : Nat) (l : List Nd) (at_ : Nat) (n : Int) (q2 : Rs) : Nd × Rs :=
  let r := nameR S q2
  let r2 := R (.params (⟨#[61]⟩ : ByteArray) true) r.2
  R (.defsL n0 (l ++ [.mk 2 at_ r.1.1 n [r2.1]])) r2.2
def defsLS (n0 : Nat) (l : List Nd) (q : Rs) : Nd × Rs :=
  if isB q (⟨#[100, 101, 102]⟩ : ByteArray) = true then
    let q1 := nextR S q
    let q2 := hasR S q1 (⟨#[114, 101, 99]⟩ : ByteArray)
    if isB q1 (⟨#[114, 101, 99]⟩ : ByteArray) = true then defsT S R n0 l q.a 1 q2 else defsT S R n0 l q.a 0 q2
  else (.mk 0 0 (⟨#[]⟩ : ByteArray) ((n0 : Nat) : Int) l, q)
def progS (q : Rs) : Nd × Rs :=
  let r := R (.opsL []) q
  let r2 := R (.defsL r.1.ks.length r.1.ks) r.2
  let q3 := mustR S r2.2 (⟨#[109, 97, 105, 110]⟩ : ByteArray)
  let q4 := mustR S q3 (⟨#[61]⟩ : ByteArray)
  let r5 := R .expr q4
  (.mk 0 0 (⟨#[]⟩ : ByteArray) ((r.1.ks.length : Nat) : Int) (r2.1.ks ++ [r5.1]), r5.2)
def stepN (nt : NT) (q : Rs) : Nd × Rs :=
  match nt with
  | .typ => typS S R q
  | .pair => pairS S R q
  | .some => someS S R q
  | .listL a => listLS S R a q
  | .namesL l => namesLS S R l q
  | .expr => exprS R q
  | .any => anyS S R q
  | .params s f => paramsS S R s f q
  | .letN a => letS S R a q
  | .cases a => casesS S R a q
  | .handle a => handleS S R a q
  | .handL l => handLS S R l q
  | .comp => compS S R q
  | .cons => consS S R q
  | .sum => sumS R q
  | .sumL a => sumLS S R a q
  | .mul => mulS R q
  | .mulL a => mulLS S R a q
  | .app => appS S R q
  | .appL a => appLS R a q
  | .atom => atomS S R q
  | .round a => roundS S R a q
  | .square a => squareS S R a q
  | .squareL l => squareLS S R l q
  | .prog => progS S R q
  | .opsL l => opsLS S R l q
  | .defsL n l => defsLS S R n l q
end
def run (S : ByteArray) : Nat → NT → Rs → Nd × Rs
  | 0 => fun _ q => (nd0, noR q)
  | k + 1 => stepN S (run S k)
/-! ### How far it is to the end -/
def M (S : ByteArray) (q : Rs) : Nat := if q.fk ≠ 0 then 0 else if q.k = 0 then 1 else S.size + 2 - q.e
structure Ok (S : ByteArray) (q : Rs) : Prop where
  size : S.size ≤ 3000
  e : q.e ≤ S.size
  x : q.x ≤ 200
  y : q.y ≤ 200
  a : q.a ≤ S.size
  n : q.n ≤ 9223372036854775807
  t : q.t.size ≤ S.size
  k : q.k ≤ 4
  end_ : q.fk = 0 → q.k = 0 → q.e = S.size
  nm : q.fk = 0 → q.k = 2 → 0 < q.t.size
  sg : q.fk = 0 → q.k = 4 → letterB (Gx.byteAt q.t 0) = false
structure Tr (S : ByteArray) (q q' : Rs) : Prop where
  ok : Ok S q'
  m : M S q' ≤ M S q
  x : q'.x = q.x
  y : q'.y = q.y
  fk : q.fk ≠ 0 → q' = q
theorem Tr.refl {S : ByteArray} {q : Rs} (h : Ok S q) : Tr S q q := ⟨h, Nat.le_refl _, rfl, rfl, fun _ => rfl⟩
theorem Tr.trans {S : ByteArray} {q q' q'' : Rs} (h : Tr S q q') (k : Tr S q' q'') : Tr S q q'' :=
  ⟨k.ok, Nat.le_trans k.m h.m, k.x.trans h.x, k.y.trans h.y, fun f => by
    have := h.fk f
    subst this
    exact k.fk f⟩
theorem okB_iff (q : Rs) : okB q = true ↔ q.fk = 0 := by simp [okB]
theorem isB_ok {q : Rs} {s : ByteArray} (h : isB q s = true) : q.fk = 0 ∧ (q.k = 3 ∨ q.k = 4) ∧ q.t = s := by
  simp only [isB, okB, Bool.and_eq_true, Bool.or_eq_true, beq_iff_eq] at h
  refine ⟨by omega, by omega, bytes_ext h.2⟩
theorem byteAt_ext0 {S : ByteArray} {j : Nat} (hj : j < S.size) : Gx.byteAt (S.extract j (j + signLen S j)) 0 = Gx.byteAt S j := by
  have h1 : 0 < signLen S j := by unfold signLen; split <;> omega
  have hj' : j < S.data.size := hj
  unfold Gx.byteAt
  rw [ByteArray.data_extract, Array.getElem?_extract]
  simp only [Nat.add_zero]
  rw [if_pos (by omega)]
theorem tok_props {S : ByteArray} {j : Nat} (hs : S.size ≤ 3000) (hj : j < S.size) : ((tokAt S j).fk ≠ 0 → (tokAt S j).nx ≤ S.size) ∧ (tokAt S j).at_ ≤ S.size ∧ (tokAt S j).n ≤ 9223372036854775807 ∧ (tokAt S j).text.size ≤ S.size ∧ (tokAt S j).kind ≤ 4 ∧
    ((tokAt S j).fk = 0 → (tokAt S j).kind ≠ 0) ∧ ((tokAt S j).fk = 0 → (tokAt S j).kind = 2 → 0 < (tokAt S j).text.size) ∧ ((tokAt S j).fk = 0 → (tokAt S j).kind = 4 → letterB (Gx.byteAt (tokAt S j).text 0) = false) := by
  have hex : ∀ a b, (S.extract a b).size ≤ S.size := fun a b => by rw [ByteArray.size_extract]; omega
  have he : (⟨#[]⟩ : ByteArray).size ≤ S.size := Nat.zero_le _
  unfold tokAt
  split
  · unfold numAt
    split
    · rename_i a2
      unfold numOk at a2
      simp only [Bool.and_eq_true, decide_eq_true_eq] at a2
      exact ⟨fun f => absurd rfl f, Nat.le_of_lt hj, a2.2, he, by show (1 : Nat) ≤ 4; omega, (fun _ f => by cases f), (fun _ f => by cases f), (fun _ f => by cases f)⟩
    · exact ⟨fun _ => Nat.zero_le _, Nat.zero_le _, Nat.zero_le _, he, Nat.zero_le _, (fun f => by cases f), (fun f => by cases f), (fun f => by cases f)⟩
  · split
    · rename_i hl
      have hlen : 0 < (S.extract j (stop (fun c => letterB c || digitB c) S j)).size := by
        have h1 : stop (fun c => letterB c || digitB c) S j = stop (fun c => letterB c || digitB c) S (j + 1) := stop_go hj (by simp [hl])
        have h2 := le_stop (fun c => letterB c || digitB c) S (j + 1)
        have h3 := stop_le (fun c => letterB c || digitB c) S j (by omega)
        rw [size_ext h3]
        omega
      unfold nameAt
      split
      · exact ⟨fun _ => Nat.zero_le _, Nat.zero_le _, Nat.zero_le _, he, Nat.zero_le _, (fun f => by cases f), (fun f => by cases f), (fun f => by cases f)⟩
      · exact ⟨fun f => absurd rfl f, Nat.le_of_lt hj, Nat.zero_le _, hex _ _, by dsimp only; split <;> omega, (fun _ f => by dsimp only at f; split at f <;> omega), (fun _ _ => hlen), (fun _ f => by dsimp only at f; split at f <;> omega)⟩
    · split
      · rename_i hl _
        refine ⟨fun f => absurd rfl f, Nat.le_of_lt hj, Nat.zero_le _, hex _ _, by show (4 : Nat) ≤ 4; omega, (fun _ f => by cases f), (fun _ f => by cases f), (fun _ _ => ?_)⟩
        show letterB (Gx.byteAt (S.extract j (j + signLen S j)) 0) = false
        rw [byteAt_ext0 hj]
        simpa using hl
      · exact ⟨fun _ => Nat.zero_le _, Nat.zero_le _, Nat.zero_le _, he, Nat.zero_le _, (fun f => by cases f), (fun f => by cases f), (fun f => by cases f)⟩
theorem next_props {S : ByteArray} {i : Nat} (hs : S.size ≤ 3000) (hi : i ≤ S.size) : (next S i).nx ≤ S.size ∧ (next S i).at_ ≤ S.size ∧ (next S i).n ≤ 9223372036854775807 ∧ (next S i).text.size ≤ S.size ∧ (next S i).kind ≤ 4 ∧
    ((next S i).fk = 0 → (next S i).kind = 0 → (next S i).nx = S.size) ∧ ((next S i).fk = 0 → (next S i).kind ≠ 0 → i < (next S i).nx) ∧ ((next S i).fk = 0 → (next S i).kind = 2 → 0 < (next S i).text.size) ∧ ((next S i).fk = 0 → (next S i).kind = 4 → letterB (Gx.byteAt (next S i).text 0) = false) := by
  have hp := fun a b => next_prog (s := S) (i := i) hi a b
  by_cases hlt : pass S i < S.size
  · have e : next S i = tokAt S (pass S i) := by unfold next; rw [if_pos hlt]
    have p := tok_props hs hlt
    rw [e] at hp ⊢
    refine ⟨?_, p.2.1, p.2.2.1, p.2.2.2.1, p.2.2.2.2.1, fun a b => absurd b (p.2.2.2.2.2.1 a), fun a b => (hp a b).1, p.2.2.2.2.2.2.1, p.2.2.2.2.2.2.2⟩
    by_cases f : (tokAt S (pass S i)).fk = 0
    · exact (hp f (p.2.2.2.2.2.1 f)).2
    · exact p.1 f
  · have e : next S i = ⟨0, S.size, ⟨#[]⟩, 0, S.size, 0, 0⟩ := by unfold next; rw [if_neg hlt]
    rw [e]
    exact ⟨Nat.le_refl _, Nat.le_refl _, Nat.zero_le _, Nat.zero_le _, Nat.zero_le _, fun _ _ => rfl, fun _ f => absurd rfl f, (fun _ f => by cases f), (fun _ f => by cases f)⟩
theorem next_size {S : ByteArray} : next S S.size = ⟨0, S.size, ⟨#[]⟩, 0, S.size, 0, 0⟩ := by
  unfold next
  rw [pass_end (by omega), if_neg (by omega)]
theorem next_tr {S : ByteArray} {q : Rs} (h : Ok S q) : Tr S q (nextR S q) := by
  by_cases f : okB q = true
  · have p := next_props h.size h.e
    have f0 := (okB_iff q).1 f
    unfold nextR
    rw [if_pos f]
    refine ⟨⟨h.size, p.1, h.x, h.y, p.2.1, p.2.2.1, p.2.2.2.1, p.2.2.2.2.1, p.2.2.2.2.2.1, p.2.2.2.2.2.2.2.1, p.2.2.2.2.2.2.2.2⟩, ?_, rfl, rfl, fun g => absurd f0 g⟩
    by_cases hk : q.k = 0
    · have he := h.end_ f0 hk
      rw [he, next_size]
      unfold M
      simp [f0, hk]
    · have hM : M S q = S.size + 2 - q.e := by unfold M; simp [f0, hk]
      rw [hM]
      have he := h.e
      unfold M
      dsimp only
      split
      · omega
      · split
        · omega
        · have := p.2.2.2.2.2.2.1 (by omega) (by omega)
          omega
  · unfold nextR
    rw [if_neg f]
    exact Tr.refl h
theorem next_lt {S : ByteArray} {q : Rs} (h : Ok S q) (f0 : q.fk = 0) (hk : q.k ≠ 0) : M S (nextR S q) < M S q := by
  have p := next_props h.size h.e
  have f := (okB_iff q).2 f0
  have hM : M S q = S.size + 2 - q.e := by unfold M; simp [f0, hk]
  have he := h.e
  unfold nextR
  rw [if_pos f, hM]
  unfold M
  dsimp only
  split
  · omega
  · split
    · omega
    · have := p.2.2.2.2.2.2.1 (by omega) (by omega)
      omega
theorem no_tr {S : ByteArray} {q : Rs} (h : Ok S q) : Tr S q (noR q) := by
  unfold noR
  split
  · rename_i f
    exact ⟨⟨h.size, h.e, h.x, h.y, h.a, h.n, h.t, h.k, (fun g => by cases g), (fun g => by cases g), (fun g => by cases g)⟩, by simp [M], rfl, rfl, fun g => absurd ((okB_iff q).1 f) g⟩
  · exact Tr.refl h
theorem has_tr {S : ByteArray} {q : Rs} {s : ByteArray} (h : Ok S q) : Tr S q (hasR S q s) := by
  unfold hasR; split
  · exact next_tr h
  · exact Tr.refl h
theorem must_tr {S : ByteArray} {q : Rs} {s : ByteArray} (h : Ok S q) : Tr S q (mustR S q s) := by
  unfold mustR; split
  · exact next_tr h
  · exact no_tr h
theorem name_tr {S : ByteArray} {q : Rs} (h : Ok S q) : Tr S q (nameR S q).2 := by
  unfold nameR; split
  · exact next_tr h
  · exact no_tr h
theorem has_lt {S : ByteArray} {q : Rs} {s : ByteArray} (h : Ok S q) (hi : isB q s = true) : M S (hasR S q s) < M S q := by
  have := isB_ok hi
  unfold hasR; rw [if_pos hi]
  exact next_lt h this.1 (by omega)
theorem is_lt {S : ByteArray} {q : Rs} {s : ByteArray} (h : Ok S q) (hi : isB q s = true) : M S (nextR S q) < M S q := by
  have := isB_ok hi
  exact next_lt h this.1 (by omega)
theorem no_ok {q : Rs} (h : okB (noR q) = true) : False := by
  unfold noR at h
  split at h
  · simp [okB] at h
  · rename_i f; exact f h
theorem name_lt {S : ByteArray} {q : Rs} (h : Ok S q) (hi : okB (nameR S q).2 = true) : M S (nameR S q).2 < M S q := by
  unfold nameR at hi ⊢
  split
  · rename_i f
    simp only [isNameB, Bool.and_eq_true, beq_iff_eq] at f
    exact next_lt h ((okB_iff q).1 f.1) (by omega)
  · rename_i f
    rw [if_neg f] at hi
    exact (no_ok hi).elim
section
variable {S : ByteArray} {R : NT → Rs → Nd × Rs} (hR : ∀ nt q, Ok S q → Tr S q (R nt q).2)
theorem bR {q q1 : Rs} {nt : NT} (hR : ∀ nt q, Ok S q → Tr S q (R nt q).2) (h : Tr S q q1) : Tr S q (R nt q1).2 := h.trans (hR _ _ h.ok)
theorem bHas {q q1 : Rs} {s : ByteArray} (h : Tr S q q1) : Tr S q (hasR S q1 s) := h.trans (has_tr h.ok)
theorem bMust {q q1 : Rs} {s : ByteArray} (h : Tr S q q1) : Tr S q (mustR S q1 s) := h.trans (must_tr h.ok)
theorem bName {q q1 : Rs} (h : Tr S q q1) : Tr S q (nameR S q1).2 := h.trans (name_tr h.ok)
theorem bNext {q q1 : Rs} (h : Tr S q q1) : Tr S q (nextR S q1) := h.trans (next_tr h.ok)
theorem bNo {q q1 : Rs} (h : Tr S q q1) : Tr S q (noR q1) := h.trans (no_tr h.ok)
theorem deep_tr {q : Rs} (h : Ok S q) (f : okB q = true) : Tr S q { q with fk := 5, fa := q.a } :=
  ⟨⟨h.size, h.e, h.x, h.y, h.a, h.n, h.t, h.k, (fun g => by cases g), (fun g => by cases g), (fun g => by cases g)⟩, by simp [M], rfl, rfl, fun g => absurd ((okB_iff q).1 f) g⟩
theorem fn_tr {q q1 : Rs} {a : Nd} (hR : ∀ nt q, Ok S q → Tr S q (R nt q).2) (h : Tr S q q1) : Tr S q (fnS S R a q1).2 := by
  unfold fnS
  dsimp only
  repeat' split
  all_goals (with_reducible (repeat (first | exact h | apply bR hR | apply bMust | apply bHas | apply bName)))
theorem step_tr (hR : ∀ nt q, Ok S q → Tr S q (R nt q).2) (nt : NT) (q : Rs) (h : Ok S q) : Tr S q (stepN S R nt q).2 := by
  have h0 := Tr.refl h
  cases nt
  case typ =>
    show Tr S q (typS S R q).2
    unfold typS
    split
    · rename_i f
      split
      · exact deep_tr h f
      · rename_i g
        have hy : q.y < 200 := by simp at g; omega
        have o1 : Ok S { q with y := q.y + 1 } := ⟨h.size, h.e, h.x, by show q.y + 1 ≤ 200; omega, h.a, h.n, h.t, h.k, h.end_, h.nm, h.sg⟩
        have t1 : Tr S { q with y := q.y + 1 } (fnS S R (R .pair { q with y := q.y + 1 }).1 (R .pair { q with y := q.y + 1 }).2).2 := fn_tr hR (bR hR (Tr.refl o1))
        have o2 := t1.ok
        have e1 := t1.y
        dsimp only at e1 ⊢
        refine ⟨⟨o2.size, o2.e, o2.x, by have := o2.y; dsimp only; omega, o2.a, o2.n, o2.t, o2.k, o2.end_, o2.nm, o2.sg⟩, t1.m, t1.x, by dsimp only; omega, fun z => absurd ((okB_iff q).1 f) z⟩
    · exact h0
  case expr =>
    show Tr S q (exprS R q).2
    unfold exprS
    split
    · rename_i f
      split
      · exact deep_tr h f
      · rename_i g
        have hy : q.x < 200 := by simp at g; omega
        have o1 : Ok S { q with x := q.x + 1 } := ⟨h.size, h.e, by show q.x + 1 ≤ 200; omega, h.y, h.a, h.n, h.t, h.k, h.end_, h.nm, h.sg⟩
        have t1 : Tr S { q with x := q.x + 1 } (R .any { q with x := q.x + 1 }).2 := bR hR (Tr.refl o1)
        have o2 := t1.ok
        have e1 := t1.x
        dsimp only at e1 ⊢
        refine ⟨⟨o2.size, o2.e, by have := o2.x; dsimp only; omega, o2.y, o2.a, o2.n, o2.t, o2.k, o2.end_, o2.nm, o2.sg⟩, t1.m, by dsimp only; omega, t1.y, fun z => absurd ((okB_iff q).1 f) z⟩
    · exact h0
  all_goals (simp only [stepN, pairS, someS, listLS, namesLS, anyS, paramS, paramsS, letT, letS, casesS, handT, handleS, handLS, compS, consS, sumS, sumLS, mulS, mulLS, appS, appLS, numS, atomS, roundS, squareS, squareLS, opsT, opsLS, defsT, defsLS, progS])
  all_goals (repeat' split)
  all_goals (with_reducible (repeat (first | exact h0 | apply bR hR | apply bMust | apply bHas | apply bName | apply bNext | apply bNo)))
end
theorem run_tr {S : ByteArray} (k : Nat) : ∀ (nt : NT) (q : Rs), Ok S q → Tr S q (run S k nt q).2 := by
  induction k with
  | zero => exact fun _ _ h => no_tr h
  | succ k ih => exact fun nt q h => step_tr ih nt q h
theorem run_facts {S : ByteArray} {k : Nat} {nt : NT} {q q' : Rs} {t : Nd} (h : Ok S q) (e : run S k nt q = (t, q')) : Tr S q q' := by
  have := run_tr k nt q h
  rw [e] at this
  exact this
theorem atom_lt {S : ByteArray} {k : Nat} {q q' : Rs} {t : Nd} (h : Ok S q) (hk : 0 < k) (hb : begB q = true) (e : run S k .atom q = (t, q')) : M S q' < M S q := by
  obtain ⟨j, rfl⟩ : ∃ j, k = j + 1 := ⟨k - 1, by omega⟩
  have e1 : q' = (atomS S (run S j) q).2 := by
    have : run S (j + 1) .atom q = atomS S (run S j) q := rfl
    rw [← this, e]
  have hR := run_tr (S := S) j
  have hb' := hb
  unfold begB at hb'
  simp only [Bool.and_eq_true] at hb'
  obtain ⟨f, hb'⟩ := hb'
  have f0 := (okB_iff q).1 f
  have no : ∀ s, ¬ isB q s = true → hasR S q s = q := fun s hn => by unfold hasR; rw [if_neg hn]
  rw [e1]
  unfold atomS
  rw [if_pos f]
  by_cases h2 : (((q.k : Nat) : Int) == (2 : Int)) = true
  · rw [if_pos h2]
    simp only [beq_iff_eq] at h2
    exact next_lt h f0 (by omega)
  · rw [if_neg h2]
    by_cases h1 : (((q.k : Nat) : Int) == (1 : Int)) = true
    · rw [if_pos h1]
      simp only [beq_iff_eq] at h1
      exact next_lt h f0 (by omega)
    · rw [if_neg h1]
      simp only [Bool.or_eq_true] at hb'
      dsimp only
      by_cases c1 : isB q (⟨#[126]⟩ : ByteArray) = true
      · rw [if_pos c1]
        have l := has_lt h c1
        have o := (has_tr (s := (⟨#[126]⟩ : ByteArray)) h)
        have : Tr S q (numS S q (hasR S q (⟨#[126]⟩ : ByteArray))).2 ∧ M S (numS S q (hasR S q (⟨#[126]⟩ : ByteArray))).2 ≤ M S (hasR S q (⟨#[126]⟩ : ByteArray)) := by
          have o1 := Tr.refl o.ok
          unfold numS
          repeat' split
          all_goals exact ⟨by repeat (first | exact o | apply bNext | apply bNo), by apply Tr.m; repeat (first | exact o1 | apply bNext | apply bNo)⟩
        omega
      · rw [if_neg c1, no _ c1]
        by_cases c2 : isB q (⟨#[116, 114, 117, 101]⟩ : ByteArray) = true
        · rw [if_pos c2]; exact has_lt h c2
        · rw [if_neg c2, no _ c2]
          by_cases c3 : isB q (⟨#[102, 97, 108, 115, 101]⟩ : ByteArray) = true
          · rw [if_pos c3]; exact has_lt h c3
          · rw [if_neg c3, no _ c3]
            by_cases c4 : isB q (⟨#[40]⟩ : ByteArray) = true
            · rw [if_pos c4]
              have := has_lt h c4
              have := (hR (.round q.a) _ (has_tr (s := (⟨#[40]⟩ : ByteArray)) h).ok).m
              omega
            · rw [if_neg c4, no _ c4]
              by_cases c5 : isB q (⟨#[91]⟩ : ByteArray) = true
              · rw [if_pos c5]
                have := has_lt h c5
                have := (hR (.square q.a) _ (has_tr (s := (⟨#[91]⟩ : ByteArray)) h).ok).m
                omega
              · simp_all
theorem M_le {S : ByteArray} {q : Rs} (h : Ok S q) : M S q ≤ 3002 := by
  have := h.size
  unfold M
  split
  · omega
  · split <;> omega
theorem run_succ (S : ByteArray) (k : Nat) (nt : NT) (q : Rs) : run S (k + 1) nt q = stepN S (run S k) nt q := rfl
/-- The document's reader, whole. -/
def q00 : Rs := ⟨0, 0, (⟨#[]⟩ : ByteArray), 0, 0, 0, 0, 0, 0⟩
def fuelP : Nat := 48100
def lastR (q : Rs) : Rs := if okB q = true then (if (((q.k : Nat) : Int) != (0 : Int)) = true then noR q else q) else q
def parseP (s : ByteArray) : Nd × Nat × Nat :=
  if s.size > 3000 then (nd0, 1, 0) else
  let r := run s fuelP .prog (nextR s q00)
  let q := lastR r.2
  if okB q = true then (r.1, 0, 0) else (nd0, q.fk, q.fa)
theorem first_ok {S : ByteArray} (h : S.size ≤ 3000) : Ok S (nextR S q00) := by
  have p := next_props h (Nat.zero_le S.size)
  show Ok S (nextR S q00)
  unfold nextR
  rw [if_pos (by decide)]
  exact ⟨h, p.1, Nat.zero_le _, Nat.zero_le _, p.2.1, p.2.2.1, p.2.2.2.1, p.2.2.2.2.1, p.2.2.2.2.2.1, p.2.2.2.2.2.2.2.1, p.2.2.2.2.2.2.2.2⟩
/-! ### Trees in memory -/
def ndC (t : Nd) (A : Option Addr) (c : Nat) : List Value := [.int .i64 (t.k : Int), .int .i64 (t.a : Int), .string t.nm, .int .i64 t.n, .slice A t.ks.length c]
/-- These nodes lie in a row at A, in blocks of which Q is said. -/
inductive KV (Q : Nat → Prop) (w : World) : List Nd → Option Addr → Nat → Prop
  | mk {ks : List Nd} {A : Option Addr} {c : Nat} (As : Nat → Option Addr) (cs : Nat → Nat) (hc : ks.length ≤ c) (hl : ks.length ≤ maxLen) (hA : ∀ i, i < ks.length → ∃ a, A = some a ∧ Q a.block)
      (hr : Gx.Rd w A ks.length 5 (fun i => ndC (ks.getD i nd0) (As i) (cs i))) (h : ∀ i, i < ks.length → KV Q w (ks.getD i nd0).ks (As i) (cs i)) : KV Q w ks A c
theorem cells_frame {w w' : World} {a : Addr} {n : Nat} {cs : List Value} (h : w.cells? 0 a n = some cs) (x : w'.heap[a.block]? = w.heap[a.block]?) : w'.cells? 0 a n = some cs := by
  have e : (fun i => w'.cell? (a.add i)) = fun i => w.cell? (a.add i) := funext fun i => by
    unfold World.cell?
    have : (a.add i).block = a.block := by unfold Addr.add; split <;> rfl
    rw [this, x]
  unfold World.cells? at h ⊢
  rw [e]
  exact h
theorem KV.frame {Q : Nat → Prop} {w w' : World} {ks : List Nd} {A : Option Addr} {c : Nat} (h : KV Q w ks A c) (x : ∀ j, Q j → j < w.heap.size → w'.heap[j]? = w.heap[j]?) : KV Q w' ks A c := by
  induction h with
  | @mk ks A c As cs hc hl hA hr _ ih =>
    refine .mk As cs hc hl hA (fun i hi => ?_) (fun i hi => ih i hi)
    obtain ⟨a, ha, hq⟩ := hA i hi
    obtain ⟨a', ha', hc⟩ := hr i hi
    rw [ha] at ha'
    cases ha'
    have hb := World.cells?_block hc (by decide)
    have e : (a.add (i * 5)).block = a.block := by unfold Addr.add; split <;> rfl
    rw [e] at hb
    exact ⟨a, ha, cells_frame hc (by rw [e]; exact x _ hq hb)⟩
theorem KV.mono {Q Q' : Nat → Prop} {w : World} {ks : List Nd} {A : Option Addr} {c : Nat} (h : KV Q w ks A c) (x : ∀ j, Q j → j < w.heap.size → Q' j) : KV Q' w ks A c := by
  induction h with
  | @mk ks A c As cs hc hl hA hr _ ih =>
    refine .mk As cs hc hl (fun i hi => ?_) hr (fun i hi => ih i hi)
    obtain ⟨a, ha, hq⟩ := hA i hi
    obtain ⟨a', ha', hc⟩ := hr i hi
    rw [ha] at ha'
    cases ha'
    have hb := World.cells?_block hc (by decide)
    have e : (a.add (i * 5)).block = a.block := by unfold Addr.add; split <;> rfl
    rw [e] at hb
    exact ⟨a, ha, x _ hq hb⟩
theorem KV.nil {Q : Nat → Prop} {w : World} {A : Option Addr} {c : Nat} : KV Q w [] A c :=
  .mk (fun _ => none) (fun _ => 0) (Nat.zero_le _) (Nat.zero_le _) (fun i h => absurd h (Nat.not_lt_zero i)) (fun i h => absurd h (Nat.not_lt_zero i)) (fun i h => absurd h (Nat.not_lt_zero i))
section
variable {lo hi lo' hi' k : Nat} {X X' : List Nat} {w w' : World} {ks : List Nd} {A : Option Addr} {c : Nat}
end
section
variable {lo hi lo' k : Nat} {X X' : List Nat} {w w' : World} {ks : List Nd} {A : Option Addr} {c : Nat} {v v' : Value}
end
def nds (L : List (Nd × Option Addr × Nat)) : List Nd := L.map (·.1)
theorem nds_app (L M : List (Nd × Option Addr × Nat)) : nds (L ++ M) = nds L ++ nds M := by simp [nds]
theorem nds_cons (p : Nd × Option Addr × Nat) (L : List (Nd × Option Addr × Nat)) : nds (p :: L) = p.1 :: nds L := rfl
theorem nds_nil : nds [] = [] := rfl
theorem nds_len (L : List (Nd × Option Addr × Nat)) : (nds L).length = L.length := by simp [nds]
theorem maps : (∀ L M : List (Nd × Option Addr × Nat), nds (L ++ M) = nds L ++ nds M) ∧ (∀ (p : Nd × Option Addr × Nat) (L : List (Nd × Option Addr × Nat)), nds (p :: L) = p.1 :: nds L) ∧ nds [] = [] ∧ (∀ L : List (Nd × Option Addr × Nat), (nds L).length = L.length) ∧
    (∀ l : List Nd, [] ++ l = l) ∧ (∀ (a : Nd) (l m : List Nd), (a :: l) ++ m = a :: (l ++ m)) ∧ (∀ l m r : List Nd, (l ++ m) ++ r = l ++ (m ++ r)) ∧
    (∀ l : List (Nd × Option Addr × Nat), [] ++ l = l) ∧ (∀ (a : Nd × Option Addr × Nat) (l m : List (Nd × Option Addr × Nat)), (a :: l) ++ m = a :: (l ++ m)) ∧ (∀ l m r : List (Nd × Option Addr × Nat), (l ++ m) ++ r = l ++ (m ++ r)) :=
  ⟨nds_app, nds_cons, nds_nil, nds_len, fun _ => rfl, fun _ _ _ => rfl, List.append_assoc, fun _ => rfl, fun _ _ _ => rfl, List.append_assoc⟩
def flat (L : List (Nd × Option Addr × Nat)) : List Value := L.flatMap (fun p => ndC p.1 p.2.1 p.2.2)
theorem flat_len (L : List (Nd × Option Addr × Nat)) : (flat L).length = L.length * 5 := by
  induction L with
  | nil => rfl
  | cons p r ih => simp only [flat, List.flatMap_cons, List.length_append] at ih ⊢; rw [ih]; simp [ndC]; omega
theorem flat_snoc (L : List (Nd × Option Addr × Nat)) (p : Nd × Option Addr × Nat) : flat (L ++ [p]) = flat L ++ ndC p.1 p.2.1 p.2.2 := by simp [flat]
theorem flat_at (L : List (Nd × Option Addr × Nat)) (i : Nat) (h : i < L.length) (d : Nd × Option Addr × Nat) : ((flat L).drop (i * 5)).take 5 = ndC (L.getD i d).1 (L.getD i d).2.1 (L.getD i d).2.2 := by
  induction L generalizing i with
  | nil => simp at h
  | cons p r ih =>
    cases i with
    | zero => simp [flat, ndC]
    | succ i =>
      have := ih i (by simpa using h)
      simp only [List.getD_cons_succ]
      rw [← this]
      simp only [flat, List.flatMap_cons]
      rw [show (i + 1) * 5 = 5 + i * 5 by omega, List.drop_append, List.drop_eq_nil_of_le (by simp [ndC]), List.nil_append]
      simp [ndC]
theorem row_cells {w : World} {b m i : Nat} {cs : Array Value} {t : TypeId} {fr : Nat × Nat} {row : List Value} (h : Gx.Has w b (.cells cs t fr)) (hrow : (cs.toList.drop (i * m)).take m = row) (hm : row.length = m) :
    w.cells? 0 ((⟨b, 0, none⟩ : Addr).add (i * m)) m = some row := by
  have e : (⟨b, 0, none⟩ : Addr).add (i * m) = ⟨b, i * m, none⟩ := by
    unfold Addr.add
    split
    · rename_i q; rw [q]
    · simp
  rw [e]
  refine ChangeShapes.cells?_of (Nat.zero_le _) hm (fun j hj => ?_)
  unfold World.cell?
  unfold Gx.Has at h
  rw [h]
  show cs[i * m + j]? = row[j]?
  rw [← hrow, List.getElem?_take, if_pos hj, List.getElem?_drop, Array.getElem?_toList]
theorem KV.of_row {Q : Nat → Prop} {w : World} {kb n : Nat} {cs : Array Value} {e : TypeId} {fr : Nat × Nat} (L : List (Nd × Option Addr × Nat)) (hb : Gx.Has w kb (.cells cs e fr)) (hn : cs.toList.take n = flat L) (hQ : Q kb)
    (hk : ∀ p ∈ L, KV Q w p.1.ks p.2.1 p.2.2) {c : Nat} (hc : L.length ≤ c := by first | decide | simp) (hl : L.length ≤ maxLen := by simp [maxLen]) : KV Q w (nds L) (some ⟨kb, 0, none⟩) c := by
  have hg : ∀ i, i < L.length → (nds L).getD i nd0 = (L.getD i (nd0, none, 0)).1 := fun i hi => by
    unfold nds; rw [List.getD_eq_getElem?_getD, List.getD_eq_getElem?_getD, List.getElem?_map, List.getElem?_eq_getElem hi]; rfl
  refine .mk (fun i => (L.getD i (nd0, none, 0)).2.1) (fun i => (L.getD i (nd0, none, 0)).2.2) (by rw [nds_len]; exact hc) (by rw [nds_len]; exact hl) (fun i hi => ⟨_, rfl, hQ⟩) (fun i hi => ⟨_, rfl, row_cells hb ?_ (by simp [ndC])⟩) (fun i hi => ?_)
  · have hi' : i < L.length := by simpa [nds] using hi
    have hle : (i + 1) * 5 ≤ n ∧ (i + 1) * 5 ≤ cs.toList.length := by
      have h1 : (cs.toList.take n).length = L.length * 5 := by rw [hn, flat_len]
      rw [List.length_take] at h1
      omega
    show _ = ndC ((nds L).getD i nd0) _ _
    rw [hg i hi', ← flat_at L i hi', ← hn]
    rw [List.drop_take, List.take_take]
    congr 1
    omega
  · have hi' : i < L.length := by simpa [nds] using hi
    rw [hg i hi']
    have hm : L.getD i (nd0, none, 0) ∈ L := by
      rw [List.getD_eq_getElem?_getD, List.getElem?_eq_getElem hi']
      exact List.getElem_mem hi'
    exact hk _ hm
/-- A row of one's own, as nodes. -/
theorem KV.of_own {Q : Nat → Prop} {w : World} {base n : Nat} {e : TypeId} {v : Value} (L : List (Nd × Option Addr × Nat)) (h : w.ownsRow base e 5 v n (flat L)) (hQ : ∀ j, v.ownBlock = some j → Q j) (hk : ∀ p ∈ L, KV Q w p.1.ks p.2.1 p.2.2) :
    ∃ A c, v = .slice A (nds L).length c ∧ KV Q w (nds L) A c := by
  obtain ⟨h1, h2⟩ := h
  have hn : n = L.length := by rw [flat_len] at h1; omega
  rcases h2 with ⟨rfl, rfl⟩ | ⟨g, cap, cur, rfl, hb, hg, hnc, hcm, hsz, htk⟩
  · have : L = [] := List.length_eq_zero_iff.1 hn.symm
    subst this
    exact ⟨none, 0, rfl, .nil⟩
  · exact ⟨some ⟨g, 0, none⟩, cap, by rw [nds_len, hn], .of_row L hg htk (hQ g rfl) hk (by omega) (by omega)⟩
/-- One node of them. -/
theorem KV.at_ {Q : Nat → Prop} {w : World} {ks : List Nd} {A : Option Addr} {c : Nat} (h : KV Q w ks A c) : ∃ (As : Nat → Option Addr) (cs : Nat → Nat), Gx.Rd w A ks.length 5 (fun i => ndC (ks.getD i nd0) (As i) (cs i)) ∧ ∀ i, i < ks.length → KV Q w (ks.getD i nd0).ks (As i) (cs i) := by
  cases h with
  | mk As cs hc hl hA hr hk => exact ⟨As, cs, hr, hk⟩
theorem KV.cap {Q : Nat → Prop} {w : World} {ks : List Nd} {A : Option Addr} {c : Nat} (h : KV Q w ks A c) : ks.length ≤ c := by
  cases h with
  | mk As cs hc hl hA hr hk => exact hc
theorem KV.max {Q : Nat → Prop} {w : World} {ks : List Nd} {A : Option Addr} {c : Nat} (h : KV Q w ks A c) : ks.length ≤ maxLen := by
  cases h with
  | mk As cs hc hl hA hr hk => exact hl
section
variable {w w' w'' : World} {b j : Nat}
end
theorem flat_one (L : List (Nd × Option Addr × Nat)) : ∀ u ∈ flat L, u.oneCell' = true := by
  intro u hu
  simp only [flat, List.mem_flatMap, ndC, List.mem_cons, List.not_mem_nil, or_false] at hu
  obtain ⟨p, _, h⟩ := hu
  rcases h with rfl | rfl | rfl | rfl | rfl <;> rfl
end Go.Syn
namespace Go
abbrev Value.n (x : Nat) : Value := .int .i64 (x : Int)
abbrev Value.p (b : Nat) : Value := .pointer (some ⟨b, 0, none⟩)
namespace Sx
open Go.Syn
theorem op0 {w : World} {L : List Item} (H0 : Sp w L) : ∃ L0, L0 = L ∧ Hs w L0 w L := ⟨_, rfl, Hs.refl H0⟩
section
variable {w0 w : World} {L0 L : List Item}
theorem Hs.pk (H : Hs w0 L0 w L) (I : List Nat) {a : List Item} (h : picked I L = some a := by kernel_rfl) : Hs w0 L0 w a := H.pick I h
theorem Hs.sb (H : Hs w0 L0 w L) (I : List Nat) {a : List Item} {b : Prop} (h : picked I L = some a := by kernel_rfl) : b → Sp w a := fun _ => H.sub I h
theorem np {b : Bool} {p : Prop} (h0 : b = false := by kernel_rfl) : b = true → p := fun h => nope h h0
theorem sn {w : World} {LJ : List Item} {b : Prop} (h : LJ = [] := by kernel_rfl) : b → Sp w LJ := fun _ => spN h
end
def bits : Nat → Nat → List Nat → List Nat
  | 0, _, r => r
  | k + 1, n, r => bif Nat.ble n 1 then r else bits k (n / 2) (n % 2 :: r)
abbrev ct (n : Nat) (f : Func) : Code := cat (bits 70 n []) (bodyOf f)
abbrev nC (k a : Nat) (x : ByteArray) (n : Int) (A : Option Addr) (l : List Nd) (c : Nat) : List Value := [.n k, .n a, .string x, .int .i64 n, .slice A l.length c]
abbrev nA (k a : Nat) (x : ByteArray) (n : Int) (A : Option Addr) (l : List Nd) (c : Nat) : Value := .agg #[.n k, .n a, .string x, .int .i64 n, .slice A l.length c]
abbrev cB (b g : Nat) (A : Option Addr) (n c : Nat) (B : Option Addr) (m d k : Nat) (a : Int) : Item := .blk b (.cells #[.p g, .slice A n c, .slice B m d, .n k, .int .i64 a] 115)
end Sx
end Go
namespace Go.Inf
open Go.Syn
/-- A name in sight. -/
structure Nam where
  nm : Nm
  t : Nat
  all : Bool
  tv : List Nat
  rv : List Nat
  opn : Bool
structure Opr where
  nm : Nm
  i : Ty
  o : Ty
  n : Nat
/-- How a checker stands. -/
structure Ck where
  g : G
  env : List Nam
  ops : List Opr
  fk : Nat
  fa : Int
def add (l : List Nat) (n : Nat) : List Nat := if l.contains n then l else l ++ [n]
def Ck.no (c : Ck) (kd : Nat) (at_ : Int) : Ck := if c.fk = 0 then { c with fk := kd, fa := at_ } else c
def Ck.same (k : Nat) (c : Ck) (m n : Nat) (at_ : Int) : Option Ck :=
  if c.fk ≠ 0 then some c else
  match Inf.same k c.g m n with
  | some (g, s) =>
    let c := { c with g := g }
    if s = false then some (c.no 8 at_) else
    match round k g m [] with
    | some (r, _) => if r then some (c.no 8 at_) else
      match round k g n [] with
      | some (r, _) => if r then some (c.no 8 at_) else some c
      | none => none
    | none => none
  | none => none
def Ck.row (k : Nat) (c : Ck) (m n : Nat) (at_ : Int) : Option Ck :=
  if c.fk ≠ 0 then some c else
  match sameRow k c.g m n with
  | some (g, s) => let c := { c with g := g }; if s then some c else some (c.no 9 at_)
  | none => none
def Ck.bigC (k : Nat) (c : Ck) (n : Nat) (at_ : Int) : Option Ck :=
  if c.fk ≠ 0 then some c else
  match parts k c.g n [] with
  | some (p, _) => if 300 < p then some (c.no 10 at_) else some c
  | none => none
def opAt (nm : Nm) : List Opr → Option Opr
  | [] => none
  | o :: r => if eqN o.nm nm then some o else opAt nm r
/-- The variables of a type. -/
def vars : Nat → G → Nat → (seen tv rv : List Nat) → Option (List Nat × List Nat × List Nat)
  | 0, _, _, _, _, _ => none
  | k + 1, g, n, seen, tv, rv => match find k g n with
    | some n =>
      if seen.contains n then some (seen, tv, rv) else
      let seen := seen ++ [n]
      match g.kind[n]? with
      | some 0 => some (seen, add tv n, rv)
      | some kd =>
        let arg (x : Option (Option Nat)) (s : List Nat × List Nat × List Nat) : Option (List Nat × List Nat × List Nat) := match x with
          | some none => some s
          | some (some m) => vars k g m s.1 s.2.1 s.2.2
          | none => none
        match arg g.a[n]? (seen, tv, rv) with
        | some s => match arg g.b[n]? s with
          | some s => if kd = 6 then (match g.row[n]? with
            | some r => match whole k g r [] with
              | some (_, 0) => some s
              | some (_, v + 1) => some (s.1, s.2.1, add s.2.2 (v + 1))
              | none => none
            | none => none) else some s
          | none => none
        | none => none
      | none => none
    | none => none
/-- The variables that stand in sight. -/
def inSight (k : Nat) (g : G) : List Nam → (seen tv rv : List Nat) → Option (List Nat × List Nat)
  | [], _, tv, rv => some (tv, rv)
  | x :: e, seen, tv, rv =>
    if x.all then
      match vars k g x.t [] [] [] with
      | some (_, a, b) => inSight k g e seen ((a.filter fun n => !x.tv.contains n).foldl add tv) ((b.filter fun n => !x.rv.contains n).foldl add rv)
      | none => none
    else match vars k g x.t seen tv rv with
      | some (seen, tv, rv) => inSight k g e seen tv rv
      | none => none
def Ck.general (k : Nat) (c : Ck) (nm : Nm) (n : Nat) : Option Nam :=
  match inSight k c.g c.env [] [] [], vars k c.g n [] [] [] with
  | some (it, ir), some (_, tv, rv) => some ⟨nm, n, true, tv.filter fun v => !it.contains v, rv.filter fun v => !ir.contains v, true⟩
  | _, _ => none
def Seen.get (s : Seen) (n : Nat) : Option Nat := match s with
  | [] => none
  | (m, v) :: r => if m = n then some v else Seen.get r n
/-- A general type with variables of its own. -/
def copied : Nat → G → Nat → Nam → (done rows : List (Nat × Nat)) → Option (G × Nat × List (Nat × Nat) × List (Nat × Nat))
  | 0, _, _, _, _, _ => none
  | k + 1, g, n, x, done, rows => match find k g n with
    | some n => match Seen.get done n with
      | some p => some (g, p, done, rows)
      | none => match g.kind[n]? with
        | some 0 => if x.tv.contains n then (match g.var with
            | some (g, m) => some (g, m, Seen.put done n m, rows)
            | none => none)
          else some (g, n, Seen.put done n n, rows)
        | some kd =>
          let arg (y : G → Option (Option Nat)) (s : G × Option Nat × List (Nat × Nat) × List (Nat × Nat)) : Option (G × Option Nat × List (Nat × Nat) × List (Nat × Nat)) := match y s.1 with
            | some none => some (s.1, none, s.2.2.1, s.2.2.2)
            | some (some m) => match copied k s.1 m x s.2.2.1 s.2.2.2 with
              | some (g, m, d, r) => some (g, some m, d, r)
              | none => none
            | none => none
          match arg (fun g => g.a[n]?) (g, none, done, rows) with
          | some (g, a, done, rows) => match arg (fun g => g.b[n]?) (g, none, done, rows) with
            | some (g, b, done, rows) =>
              let rw : Option (G × Nat × List (Nat × Nat)) := if kd = 6 then (match g.row[n]? with
                | some r => match whole k g r [] with
                  | some (ops, v) =>
                    let vv : Option (G × Nat × List (Nat × Nat)) := if v ≠ 0 && x.rv.contains v then (match Seen.get rows v with
                      | some p => some (g, p, rows)
                      | none => match g.opn with
                        | some (g, w) => some (g, w, Seen.put rows v w)
                        | none => none) else some (g, v, rows)
                    match vv with
                    | some (g, v, rows) => match g.putRow ops (some v) with
                      | some (g, q) => some (g, q, rows)
                      | none => none
                    | none => none
                  | none => none
                | none => none) else some (g, 0, rows)
              match rw with
              | some (g, q, rows) => match g.put kd a b q with
                | some (g, m) => some (g, m, Seen.put done n m, rows)
                | none => none
              | none => none
            | none => none
          | none => none
        | none => none
    | none => none
def opened : Nat → G → Nat → Option (G × Nat)
  | 0, _, _ => none
  | k + 1, g, n => match find k g n with
    | some n => match g.kind[n]? with
      | some 6 => match g.b[n]? with
        | some (some b) => match opened k g b with
          | some (g, b) => match g.row[n]? with
            | some r => match whole k g r [] with
              | some (ops, v) =>
                let vv : Option (G × Nat) := if v = 0 then g.opn else some (g, v)
                match vv with
                | some (g, v) => match g.putRow ops (some v) with
                  | some (g, q) => match g.a[n]? with
                    | some a => g.put 6 a (some b) q
                    | none => none
                  | none => none
                | none => none
              | none => none
            | none => none
          | none => none
        | _ => none
      | some _ => some (g, n)
      | none => none
    | none => none
def use (k : Nat) (g : G) (x : Nam) : Option (G × Nat) :=
  let c : Option (G × Nat) := if x.all then (match copied k g x.t x [] [] with
    | some (g, n, _, _) => some (g, n)
    | none => none) else some (g, x.t)
  match c with
  | some (g, n) => if x.opn then opened k g n else some (g, n)
  | none => none
/-- A written type. -/
def typ : Nat → Nd → Option Ty
  | 0, _ => none
  | k + 1, n =>
    let kid (i : Nat) : Option Ty := match n.ks[i]? with
      | some d => typ k d
      | none => none
    if n.k = 24 then some (.mk 1 0 0 [] []) else if n.k = 25 then some (.mk 2 0 0 [] []) else if n.k = 26 then some (.mk 3 0 0 [] [])
    else if n.k = 27 then (match kid 0 with
      | some a => some (.mk 4 0 0 [] [a])
      | none => none)
    else match kid 0, kid 1 with
      | some a, some b => if n.k = 28 then some (.mk 5 0 0 [] [a, b]) else if n.ks.length < 1000000000 then some (.mk 6 0 0 ((n.ks.drop 2).foldl (fun l d => putN l d.nm) []) [a, b]) else none
      | _, _ => none
def partsT : Nat → Ty → Option Nat
  | 0, _ => none
  | k + 1, .mk _ _ _ ops args => args.foldl (fun s a => match s, partsT k a with
    | some n, some m => if n + m ≤ 2147483647 then some (n + m) else none
    | _, _ => none) (some (1 + ops.length))
def inN (s : Nm) (l : List Nm) : Bool := l.any fun x => eqN x s
/-- The names in the rows of a written type. -/
def rowOne (c : Ck) (all : List Nm) (before : List Nd) (d : Nd) : Ck :=
  let c := if inN d.nm all then c else c.no 6 d.a
  before.foldl (fun c e => if eqN e.nm d.nm then c.no 7 d.a else c) c
def rowAll (c : Ck) (all : List Nm) : List Nd → List Nd → Ck
  | _, [] => c
  | before, d :: r => rowAll (rowOne c all before d) all (before ++ [d]) r
def rowNames : Nat → Ck → Nd → List Nm → Option Ck
  | 0, _, _, _ => none
  | k + 1, c, n, all =>
    if c.fk ≠ 0 then some c else
    if n.k ≠ 29 then n.ks.foldl (fun s d => match s with
      | some c => rowNames k c d all
      | none => none) (some c)
    else match n.ks with
      | a :: b :: r => match rowNames k c a all with
        | some c => rowNames k (rowAll c all [] r) b all
        | none => none
      | _ => none
def opsLoop (k : Nat) (all : List Nm) : Nat → List Nd → Ck → Option Ck
  | _, [], c => some c
  | i, d :: r, c =>
    if c.fk ≠ 0 then some c else
    match opAt d.nm c.ops with
    | some _ => some (c.no 7 d.a)
    | none => match d.ks with
      | x :: y :: _ => match rowNames k c x all with
        | some c => match rowNames k c y all with
          | some c => if c.fk ≠ 0 then some c else
            match typ k x, typ k y with
            | some ti, some to => match partsT k ti, partsT k to with
              | some p, some q => opsLoop k all (i + 1) r { (if 300 < p || 300 < q then c.no 10 d.a else c) with ops := c.ops ++ [⟨d.nm, ti, to, i⟩] }
              | _, _ => none
            | _, _ => none
          | none => none
        | none => none
      | _ => none
def value (n : Nd) : Bool := n.k == 3 || n.k == 4 || n.k == 5 || n.k == 15 || n.k == 6 || n.k == 7
def findEnv (nm : Nm) (e : List Nam) : Option Nam := (e.reverse.find? fun x => eqN x.nm nm)
def Ck.with (c : Ck) (x : Nam) : Ck := { c with env := c.env ++ [x] }
def Ck.out (c : Ck) (n : Nat) : Ck := { c with env := c.env.take (c.env.length - n) }
def mono (nm : Nm) (t : Nat) : Nam := ⟨nm, t, false, [], [], false⟩
def Ck.put (c : Ck) (kd : Nat) (a b : Option Nat) (r : Nat) : Option (Ck × Nat) := match c.g.put kd a b r with
  | some (g, m) => some ({ c with g := g }, m)
  | none => none
def Ck.var (c : Ck) : Option (Ck × Nat) := c.put 0 none none 0
def Ck.putRow (c : Ck) (l : List Nm) (nx : Option Nat) : Option (Ck × Nat) := match c.g.putRow l nx with
  | some (g, m) => some ({ c with g := g }, m)
  | none => none
def Ck.opn (c : Ck) : Option (Ck × Nat) := c.putRow [] none
def Ck.ofT (k : Nat) (c : Ck) (t : Ty) : Option (Ck × Nat) := match Inf.ofT k c.g t with
  | some (g, m) => some ({ c with g := g }, m)
  | none => none
/-- The type that a let or a def binds. -/
def boundF (ex : Ck → Nd → Nat → Option (Ck × Nat)) (k : Nat) (c : Ck) (d : Nd) : Option (Ck × Nat) := do
  let (c, row) ← c.opn
  let d0 ← d.ks[0]?
  if d.n = 0 then ex c d0 row else
    let (c, v) ← c.var
    let (c, t) ← ex (c.with (mono d.nm v)) d0 row
    let c ← (c.out 1).same k v t d.a
    some (c, t)
def clausesF (ex : Ck → Nd → Nat → Option (Ck × Nat)) (k : Nat) (n : Nd) (row inner t b : Nat) : List Nd → Ck → Option Ck
  | [], c => some c
  | d :: r, c => do
    let o ← opAt d.nm c.ops
    let (c, i) ← c.ofT k o.i
    let (c, o) ← c.ofT k o.o
    let (c, f) ← c.put 6 (some o) (some b) row
    let (c, f) ← if n.n = 1 then c.put 6 (some o) (some t) inner else some (c, f)
    let p0 ← d.ks[0]?
    let p1 ← d.ks[1]?
    let p2 ← d.ks[2]?
    let c := (c.with ⟨p0.nm, i, false, [], [], true⟩).with ⟨p1.nm, f, false, [], [], true⟩
    let (c, e) ← ex c p2 row
    let c ← (c.out 2).same k e b p2.a
    clausesF ex k n row inner t b r c
def namesF (ops : List Opr) : List Nd → List Nm → Ck → Ck
  | [], _, c => c
  | d :: r, names, c =>
    let c := match opAt d.nm ops with
      | some _ => c
      | none => c.no 6 d.a
    let c := names.foldl (fun c s => if eqN s d.nm then c.no 7 d.a else c) c
    namesF ops r (names ++ [d.nm]) c
def expr : Nat → Ck → Nd → Nat → Option (Ck × Nat)
  | 0, _, _, _ => none
  | k + 1, c, n, row =>
    let ex := expr k
    if c.fk ≠ 0 then c.var else
    match n.k with
    | 3 => c.put 1 none none 0
    | 4 => c.put 2 none none 0
    | 5 => c.put 3 none none 0
    | 15 => do
      let (c, v) ← c.var
      c.put 4 (some v) none 0
    | 6 => match findEnv n.nm c.env with
      | some x => match use k c.g x with
        | some (g, m) => some ({ c with g := g }, m)
        | none => none
      | none => (c.no 6 n.a).var
    | 7 => do
      let (c, v) ← c.var
      let (c, r) ← c.opn
      let d ← n.ks[0]?
      let (c, b) ← ex (c.with (mono n.nm v)) d r
      (c.out 1).put 6 (some v) (some b) r
    | 8 => do
      let d0 ← n.ks[0]?
      let d1 ← n.ks[1]?
      let (c, f) ← ex c d0 row
      let (c, a) ← ex c d1 row
      let (c, p) ← c.var
      let (c, b) ← c.var
      let (c, q) ← c.opn
      let (c, t) ← c.put 6 (some p) (some b) q
      let c ← c.same k f t d0.a
      let c ← c.same k p a d1.a
      let c ← c.row k q row n.a
      some (c, b)
    | 9 => do
      let d0 ← n.ks[0]?
      let d1 ← n.ks[1]?
      let (c, x) ← if n.n = 1 then do
          let (c, t) ← boundF ex k c n
          let c ← c.bigC k t n.a
          let x ← c.general k n.nm t
          some (c, x)
        else do
          let (c, t) ← ex c d0 row
          let c ← c.bigC k t n.a
          if value d0 then do
            let x ← c.general k n.nm t
            some (c, x)
          else some (c, mono n.nm t)
      let (c, t) ← ex (c.with x) d1 row
      some (c.out 1, t)
    | 10 => do
      let d0 ← n.ks[0]?
      let d1 ← n.ks[1]?
      let (c, _) ← ex c d0 row
      ex c d1 row
    | 11 => do
      let d0 ← n.ks[0]?
      let d1 ← n.ks[1]?
      let d2 ← n.ks[2]?
      let (c, a) ← ex c d0 row
      let (c, b) ← c.put 2 none none 0
      let c ← c.same k a b d0.a
      let (c, t) ← ex c d1 row
      let (c, e) ← ex c d2 row
      let c ← c.same k e t d2.a
      some (c, t)
    | 12 => do
      let d0 ← n.ks[0]?
      let d1 ← n.ks[1]?
      let (c, a) ← ex c d0 row
      let (c, b) ← ex c d1 row
      c.put 5 (some a) (some b) 0
    | 16 => do
      let d0 ← n.ks[0]?
      let d1 ← n.ks[1]?
      let (c, a) ← ex c d0 row
      let (c, b) ← ex c d1 row
      let (c, l) ← c.put 4 (some a) none 0
      let c ← c.same k b l d1.a
      some (c, b)
    | 17 => do
      let d0 ← n.ks[0]?
      let d1 ← n.ks[1]?
      let p2 ← n.ks[2]?
      let p3 ← n.ks[3]?
      let d4 ← n.ks[4]?
      let (c, a) ← ex c d0 row
      let (c, v) ← c.var
      let (c, l) ← c.put 4 (some v) none 0
      let c ← c.same k a l d0.a
      let (c, t) ← ex c d1 row
      let (c, e) ← ex ((c.with (mono p2.nm v)).with (mono p3.nm l)) d4 row
      let c ← (c.out 2).same k e t d4.a
      some (c, t)
    | 18 => do
      let d0 ← n.ks[0]?
      let d1 ← n.ks[1]?
      let (c, a) ← ex c d0 row
      let (c, t) ← c.put 1 none none 0
      let c ← c.same k a t d0.a
      let (c, a) ← ex c d1 row
      let (c, t) ← c.put 1 none none 0
      let c ← c.same k a t d1.a
      if eqN n.nm ⟨#[60]⟩ || eqN n.nm ⟨#[61, 61]⟩ then c.put 2 none none 0 else c.put 1 none none 0
    | 19 => match opAt n.nm c.ops with
      | none => (c.no 6 n.a).var
      | some o => do
        let d0 ← n.ks[0]?
        let (c, a) ← ex c d0 row
        let (c, i) ← c.ofT k o.i
        let (c, r) ← c.ofT k o.o
        let c ← c.same k a i d0.a
        let (c, v) ← c.opn
        let (c, q) ← c.putRow [n.nm] (some v)
        let c ← c.row k row q n.a
        some (c, r)
    | 13 | 14 => do
      let d0 ← n.ks[0]?
      let (c, a) ← ex c d0 row
      let (c, x) ← c.var
      let (c, y) ← c.var
      let (c, p) ← c.put 5 (some x) (some y) 0
      let c ← c.same k a p d0.a
      some (c, if n.k = 13 then x else y)
    | _ => do
      let d0 ← n.ks[0]?
      let rt ← n.ks[1]?
      let rb ← rt.ks[0]?
      let cl := n.ks.drop 2
      let _ ← if n.ks.length < 1000000000 then some () else none
      let c := namesF c.ops cl [] c
      if c.fk ≠ 0 then c.var else
        let (c, inner) ← c.putRow (cl.map fun d => d.nm) (some row)
        let (c, t) ← ex c d0 inner
        let (c, b) ← ex (c.with (mono rt.nm t)) rb row
        let c ← clausesF ex k n row inner t b cl (c.out 1)
        some (c, b)
end Go.Inf
namespace Go.Inf
open Go.RowKit Go.Sx
theorem same_ck {k m n : Nat} {c c' : Ck} {a : Int} (h : c.same k m n a = some c') :
    (c.fk ≠ 0 → c = c') ∧ (c.fk = 0 → ∃ g s, Inf.same k c.g m n = some (g, s) ∧ (s = false → { c with g := g, fk := 8, fa := a } = c') ∧
      (s = true → ∃ r1 z1, round k g m [] = some (r1, z1) ∧ (r1 = true → { c with g := g, fk := 8, fa := a } = c') ∧
        (r1 = false → ∃ r2 z2, round k g n [] = some (r2, z2) ∧ (r2 = true → { c with g := g, fk := 8, fa := a } = c') ∧ (r2 = false → { c with g := g } = c')))) := by
  unfold Ck.same at h
  split at h
  · rename_i e; cases h; exact ⟨fun _ => rfl, fun q => absurd q e⟩
  · rename_i e
    have e : c.fk = 0 := by simpa using e
    refine ⟨fun q => absurd e q, fun _ => ?_⟩
    split at h <;> try contradiction
    rename_i g s hs
    refine ⟨g, s, hs, ?_⟩
    cases s with
    | false => simp only [if_true, Option.some.injEq, Ck.no, e] at h; exact ⟨fun _ => h, fun q => by cases q⟩
    | true =>
      refine ⟨fun q => (by cases q), fun _ => ?_⟩
      simp only [Bool.true_eq_false, if_false] at h
      split at h <;> try contradiction
      rename_i r1 z1 h1
      refine ⟨r1, z1, h1, ?_⟩
      cases r1 with
      | true => simp only [if_true, Option.some.injEq, Ck.no, e] at h; exact ⟨fun _ => h, fun q => by cases q⟩
      | false =>
        refine ⟨fun q => (by cases q), fun _ => ?_⟩
        simp only [Bool.false_eq_true, if_false] at h
        split at h <;> try contradiction
        rename_i r2 z2 h2
        refine ⟨r2, z2, h2, ?_⟩
        cases r2 with
        | true => simp only [if_true, Option.some.injEq, Ck.no, e] at h; exact ⟨fun _ => h, fun q => by cases q⟩
        | false => simp only [Bool.false_eq_true, if_false, Option.some.injEq] at h; exact ⟨fun q => (by cases q), fun _ => h⟩
theorem row_ck {k m n : Nat} {c c' : Ck} {a : Int} (h : c.row k m n a = some c') :
    (c.fk ≠ 0 → c = c') ∧ (c.fk = 0 → ∃ g s, sameRow k c.g m n = some (g, s) ∧ (s = false → { c with g := g, fk := 9, fa := a } = c') ∧ (s = true → { c with g := g } = c')) := by
  unfold Ck.row at h
  split at h
  · rename_i e; cases h; exact ⟨fun _ => rfl, fun q => absurd q e⟩
  · rename_i e
    have e : c.fk = 0 := by simpa using e
    refine ⟨fun q => absurd e q, fun _ => ?_⟩
    split at h <;> try contradiction
    rename_i g s hs
    refine ⟨g, s, hs, ?_⟩
    cases s with
    | false => simp only [Bool.false_eq_true, if_false, Option.some.injEq, Ck.no, e, if_true] at h; exact ⟨fun _ => h, fun q => by cases q⟩
    | true => simp only [if_true, Option.some.injEq] at h; exact ⟨fun q => (by cases q), fun _ => h⟩
theorem big_ck {k n : Nat} {c c' : Ck} {a : Int} (h : c.bigC k n a = some c') :
    (c.fk ≠ 0 → c = c') ∧ (c.fk = 0 → ∃ p z, parts k c.g n [] = some (p, z) ∧ (300 < p → { c with fk := 10, fa := a } = c') ∧ (p ≤ 300 → c = c')) := by
  unfold Ck.bigC at h
  split at h
  · rename_i e; cases h; exact ⟨fun _ => rfl, fun q => absurd q e⟩
  · rename_i e
    have e : c.fk = 0 := by simpa using e
    refine ⟨fun q => absurd e q, fun _ => ?_⟩
    split at h <;> try contradiction
    rename_i p z hp
    refine ⟨p, z, hp, ?_⟩
    split at h
    · rename_i q; simp only [Option.some.injEq, Ck.no, e, if_true] at h; exact ⟨fun _ => h, fun r => by omega⟩
    · rename_i q; cases h; exact ⟨fun r => absurd r q, fun _ => rfl⟩
end Go.Inf
namespace Go.Inf
open Go.RowKit Go.Sx
/-- How the parts of a type's arguments are summed. -/
abbrev pF (k : Nat) (s : Option Nat) (a : Ty) : Option Nat := match s, partsT k a with
  | some n, some m => if n + m ≤ 2147483647 then some (n + m) else none
  | _, _ => none
theorem pF_none (k : Nat) (l : List Ty) : l.foldl (pF k) none = none := by
  induction l with
  | nil => rfl
  | cons t l ih => rw [List.foldl_cons]; exact ih
theorem partsT_eq {k kd u row m : Nat} {ops : List Nm} {args : List Ty} (h : partsT (k + 1) (.mk kd u row ops args) = some m) : args.foldl (pF k) (some (1 + ops.length)) = some m := h
theorem pF_step {k c m i : Nat} {args : List Ty} (h : (args.drop i).foldl (pF k) (some c) = some m) (hi : i < args.length) :
    ∃ t j, args[i]? = some t ∧ partsT k t = some j ∧ c + j ≤ 2147483647 ∧ (args.drop (i + 1)).foldl (pF k) (some (c + j)) = some m := by
  rw [List.drop_eq_getElem_cons hi, List.foldl_cons] at h
  cases hp : partsT k args[i] with
  | none => simp only [pF, hp] at h; rw [pF_none] at h; cases h
  | some j =>
    simp only [pF, hp] at h
    split at h
    · rename_i hle; exact ⟨_, j, List.getElem?_eq_getElem hi, hp, hle, h⟩
    · rw [pF_none] at h; cases h
end Go.Inf
namespace Go.Inf
open Go.RowKit Go.Sx Go.Syn
theorem natk (v : Nat) (k : Int) (j : Nat) (h : k = (j : Int)) : (((v : Nat) : Int) == k) = (v == j) := by
  subst h
  by_cases e : v = j
  · subst e; simp
  · have h2 : ¬ ((v : Int) = (j : Int)) := by omega
    rw [beq_eq_false_iff_ne.2 e, beq_eq_false_iff_ne.2 h2]
/-- Nodes that are only read. -/
def kvI (Q : Nat → Prop) (ks : List Nd) (A : Option Addr) (c : Nat) : Sx.Item := .ro Q (fun w => KV Q w ks A c)
theorem kvI_loc (Q : Nat → Prop) (ks : List Nd) (A : Option Addr) (c : Nat) : Sx.Loc Q (fun w => KV Q w ks A c) := fun _ _ _ hk h => h.frame (fun j hj _ => hk j hj)
/-- One of them. -/
theorem kv_kid {w : World} {Q : Nat → Prop} {ks : List Nd} {A : Option Addr} {c i : Nat} {d : Nd} (h : KV Q w ks A c) (hd : ks[i]? = some d) : ∃ (B : Option Addr) (cb : Nat) (a : Addr), A = some a ∧ w.cells? 0 (a.add (i * 5)) 5 = some (ndC d B cb) ∧ KV Q w d.ks B cb := by
  obtain ⟨As, cs, hr, hk⟩ := h.at_
  have hi : i < ks.length := (List.getElem?_eq_some_iff.1 hd).1
  obtain ⟨a, ha, hc⟩ := hr i hi
  have e : ks.getD i nd0 = d := by rw [List.getD_eq_getElem?_getD, hd]; rfl
  have k := hk i hi
  simp only [e] at hc k
  exact ⟨_, _, a, ha, hc, k⟩
abbrev Kid := Tv × Ty × (Nat → Prop)
def kidC (l : List Kid) : List Value := l.flatMap fun k => tvC k.2.1 k.1
theorem tvC_len (t : Ty) (p : Tv) : (tvC t p).length = 5 := by cases t; rfl
theorem kidC_at {l : List Kid} {i : Nat} {k : Kid} (h : l[i]? = some k) : ((kidC l).drop (i * 5)).take 5 = tvC k.2.1 k.1 := by
  induction l generalizing i with
  | nil => simp at h
  | cons x l ih =>
    have e : kidC (x :: l) = tvC x.2.1 x.1 ++ kidC l := rfl
    cases i with
    | zero => simp at h; subst h; rw [e]; simp [tvC_len]
    | succ i =>
      rw [e, show (i + 1) * 5 = (tvC x.2.1 x.1).length + i * 5 by rw [tvC_len]; omega, List.drop_append]
      simp only [List.length_append, Nat.add_sub_cancel_left]
      rw [List.drop_of_length_le (by omega), List.nil_append]
      exact ih (by simpa using h)
end Go.Inf
namespace Go.Inf
open Go.RowKit Go.Sx
theorem ty_make {w0 w : World} {L0 L : List Sx.Item} {e cap n na ca : Nat} {A B : Option Addr} {Sa : Nat → Prop} {ops : List Nm} {l : List Kid} (H : Hs w0 L0 w L) (I : List Nat) (kd u row : Nat)
    (hp : picked I L = some (.own e 5 B cap n (kidC l) :: strI Sa A ops :: l.map fun k => tyI k.2.2 k.1 k.2.1)) (hn : na = ops.length) (hc : na ≤ ca ∧ ops.length < 1000000000 ∧ l.length ≤ 2) (hk : n = l.length) :
    ∃ S, Hs w0 L0 w (tyI S ⟨A, na, ca, B, n, cap⟩ (.mk kd u row ops (l.map (·.2.1))) :: rest I L) := by
  refine ⟨_, H.fz I hp (fun s => ?_) (tyI_loc _ _ _)⟩
  have h0 := s.all _ (.head _)
  have h1 := s.all _ (.tail _ (.head _))
  refine .mk _ (l.map (·.1)) (h1.1.mono fun c hcc => ⟨_, .tail _ (.head _), hcc⟩) hn (by simpa using hc) (by simpa using hk) (by simp) (fun i q t hq ht => ?_) (fun i q t hq ht => ?_)
  · rw [List.getElem?_map] at hq ht
    cases hx : l[i]? with
    | none => simp [hx] at hq
    | some k =>
      simp only [hx, Option.map_some, Option.some.injEq] at hq ht
      subst hq ht
      have hi : i < l.length := (List.getElem?_eq_some_iff.1 hx).1
      rcases h0.2 with ⟨_, hz⟩ | ⟨g, cap', cur, hv, _, hg, hnc, _, hcs, htk⟩
      · omega
      · injection hv with e1 e2 e3
        subst e1
        refine ⟨_, rfl, ⟨_, .head _, rfl⟩, ?_⟩
        have ea : (⟨g, 0, none⟩ : Addr).add (i * 5) = ⟨g, i * 5, none⟩ := by unfold Addr.add; split <;> simp_all
        have hxs : ((kidC l).drop (i * 5)).take 5 = tvC k.2.1 k.1 := kidC_at hx
        rw [ea]
        refine ChangeShapes.cells?_of (Nat.zero_le _) (tvC_len _ _) (fun j hj => ?_)
        have hj5 : j < 5 := by simpa [tvC_len] using hj
        have hcell : cur[i * 5 + j]? = (tvC k.2.1 k.1)[j]? := by
          rw [← hxs, List.getElem?_take, if_pos hj5, List.getElem?_drop, ← htk, List.getElem?_take, if_pos (by omega)]
          simp
        rw [cell_of_row w g _ cur e (0, 0) hg, hcell]
  · rw [List.getElem?_map] at hq ht
    cases hx : l[i]? with
    | none => simp [hx] at hq
    | some k =>
      simp only [hx, Option.map_some, Option.some.injEq] at hq ht
      subst hq ht
      have hm : tyI k.2.2 k.1 k.2.1 ∈ l.map fun k => tyI k.2.2 k.1 k.2.1 := List.mem_map_of_mem (List.mem_of_getElem? hx)
      have h2 := s.all _ (.tail _ (.tail _ hm))
      exact h2.1.mono fun c hcc => ⟨_, .tail _ (.tail _ hm), hcc⟩
end Go.Inf
namespace Go.Inf
open Go.RowKit Go.Sx Go.Syn
abbrev opsF (l : List Nm) (d : Nd) : List Nm := putN l d.nm
theorem typ_cases {k kd na : Nat} {nm : Nm} {nn : Int} {ks : List Nd} {t : Ty} (h : typ (k + 1) (.mk kd na nm nn ks) = some t) :
    (kd = 24 → .mk 1 0 0 [] [] = t) ∧ (kd = 25 → .mk 2 0 0 [] [] = t) ∧ (kd = 26 → .mk 3 0 0 [] [] = t) ∧
    (kd ≠ 24 → kd ≠ 25 → kd ≠ 26 → kd = 27 → ∃ d0 a, ks[0]? = some d0 ∧ typ k d0 = some a ∧ .mk 4 0 0 [] [a] = t) ∧
    (kd ≠ 24 → kd ≠ 25 → kd ≠ 26 → kd ≠ 27 → ∃ d0 d1 a b, ks[0]? = some d0 ∧ ks[1]? = some d1 ∧ typ k d0 = some a ∧ typ k d1 = some b ∧ (kd = 28 → .mk 5 0 0 [] [a, b] = t) ∧
      (kd ≠ 28 → ks.length < 1000000000 ∧ .mk 6 0 0 ((ks.drop 2).foldl opsF []) [a, b] = t)) := by
  unfold typ at h
  split at h
  · rename_i e1; have e1 : kd = 24 := e1; simp only [Option.some.injEq] at h; exact ⟨fun _ => h, fun q => by omega, fun q => by omega, fun q => absurd e1 q, fun q => absurd e1 q⟩
  rename_i e1
  have e1 : ¬ kd = 24 := e1
  split at h
  · rename_i e2; have e2 : kd = 25 := e2; simp only [Option.some.injEq] at h; exact ⟨fun q => absurd q e1, fun _ => h, fun q => by omega, fun _ q => absurd e2 q, fun _ q => absurd e2 q⟩
  rename_i e2
  have e2 : ¬ kd = 25 := e2
  split at h
  · rename_i e3; have e3 : kd = 26 := e3; simp only [Option.some.injEq] at h; exact ⟨fun q => absurd q e1, fun q => absurd q e2, fun _ => h, fun _ _ q => absurd e3 q, fun _ _ q => absurd e3 q⟩
  rename_i e3
  have e3 : ¬ kd = 26 := e3
  refine ⟨fun q => absurd q e1, fun q => absurd q e2, fun q => absurd q e3, fun _ _ _ e4 => ?_, fun _ _ _ e4 => ?_⟩
  · split at h
    · simp only [Nd.ks] at h
      cases h0 : ks[0]? with
      | none => simp [h0] at h
      | some d0 =>
        simp only [h0] at h
        cases ha : typ k d0 with
        | none => simp [ha] at h
        | some a => simp only [ha, Option.some.injEq] at h; exact ⟨d0, a, rfl, ha, h⟩
    · rename_i q; exact absurd e4 q
  · split at h
    · rename_i q; exact absurd q e4
    simp only [Nd.ks] at h
    cases h0 : ks[0]? with
    | none => simp [h0] at h
    | some d0 =>
      cases h1 : ks[1]? with
      | none =>
        simp only [h0, h1] at h
        split at h <;> simp_all
      | some d1 =>
        simp only [h0, h1] at h
        split at h <;> try contradiction
        rename_i a b ha hb
        refine ⟨d0, d1, a, b, rfl, rfl, ha, hb, fun e5 => ?_, fun e5 => ?_⟩
        · split at h
          · simpa using h
          · rename_i q; exact absurd e5 q
        · split at h
          · rename_i q; exact absurd q e5
          · have h' : (if ks.length < 1000000000 then some (Ty.mk 6 0 0 (List.foldl opsF [] (List.drop 2 ks)) [a, b]) else none) = some t := h
            by_cases hl : ks.length < 1000000000
            · rw [if_pos hl] at h'; exact ⟨hl, Option.some.inj h'⟩
            · rw [if_neg hl] at h'; cases h'
end Go.Inf
namespace Go.Sx
open Go.RowKit Go.Gx Go.MapKept
section
variable {α : Type}
def curOk (es : Array MapEntry) (seen : Array Nat) (enc : α → Value) : Option (α × Value) → Prop
  | none => True
  | some p => ∃ (e : MapEntry) (s : Array Nat), seen = s.push e.born ∧ e ∈ es.toList ∧ e.key = enc p.1 ∧ e.val = p.2
/-- A map and who goes over it: what is left, in whatever order, and what has been come to. -/
def ItOk (kd : TypeDesc) (enc : α → Value) (bt r : Nat) (mp left : List (α × Value)) (cur : Option (α × Value)) (w : World) : Prop :=
  ∃ es ck seen, Has w bt (.map es ck) ∧ MpOk kd enc es ck mp ∧ Has w r (.mapIter (some bt) ck seen ck) ∧ ((leftOf es seen).toList.map (fun e => (e.key, e.val))).Perm (left.map (fun p => (enc p.1, p.2))) ∧ curOk es seen enc cur
def itI (kd : TypeDesc) (enc : α → Value) (bt r : Nat) (mp left : List (α × Value)) (cur : Option (α × Value)) : Item := .abs (fun c => c = bt ∨ c = r) (ItOk kd enc bt r mp left cur)
theorem itI_loc (kd : TypeDesc) (enc : α → Value) (bt r : Nat) (mp left : List (α × Value)) (cur : Option (α × Value)) : Loc (fun c => c = bt ∨ c = r) (ItOk kd enc bt r mp left cur) := by
  rintro w w' _ hk ⟨es, ck, seen, h1, h2, h3, h4, h5⟩
  exact ⟨es, ck, seen, (hk _ (.inl rfl)).trans h1, h2, (hk _ (.inr rfl)).trans h3, h4, h5⟩
theorem itI_holds {kd : TypeDesc} {enc : α → Value} {bt r : Nat} {mp left : List (α × Value)} {cur : Option (α × Value)} {w : World} (h : ItOk kd enc bt r mp left cur w) : (itI kd enc bt r mp left cur).holds w := by
  refine ⟨h, fun c hc => ?_, itI_loc _ _ _ _ _ _ _⟩
  obtain ⟨es, ck, seen, h1, _, h3, _, _⟩ := h
  rcases hc with rfl | rfl
  · exact Has.lt h1
  · exact Has.lt h3
theorem has_drew {w w1 : World} {r : Nat} {o : Obj} (h : w1 = w ∨ w1 = w.drew) (k : Has w r o) : Has w1 r o := by rcases h with rfl | rfl <;> exact k
theorem left_push (es : Array MapEntry) (seen : Array Nat) (e : MapEntry) (hn : (es.toList.map (·.born)).Nodup) (he : e ∈ (leftOf es seen).toList) :
    (leftOf es seen).toList.Perm (e :: (leftOf es (seen.push e.born)).toList) := by
  unfold leftOf at *
  rw [Array.toList_filter] at he ⊢
  rw [Array.toList_filter]
  generalize es.toList = l at *
  induction l with
  | nil => simp at he
  | cons x l ih =>
    simp only [List.map_cons, List.nodup_cons] at hn
    have hsame : ∀ y : MapEntry, (!(seen.push e.born).contains y.born) = ((!seen.contains y.born) && (y.born != e.born)) := by
      intro y
      simp only [Array.contains_push]
      cases seen.contains y.born <;> simp [Bool.not_or, bne]
    by_cases hx : x = e
    · subst hx
      have hs : (!seen.contains x.born) = true := (List.mem_filter.1 he).2
      rw [List.filter_cons, if_pos hs, List.filter_cons, hsame]
      simp only [bne_self_eq_false, Bool.and_false, Bool.false_eq_true, if_false]
      refine List.Perm.cons _ ?_
      have : l.filter (fun y => !(seen.push x.born).contains y.born) = l.filter (fun y => !seen.contains y.born) := by
        refine List.filter_congr fun y hy => ?_
        rw [hsame]
        have : y.born ≠ x.born := fun q => hn.1 (q ▸ List.mem_map_of_mem hy)
        simp [this]
      rw [this]
    · have he' : e ∈ l.filter (fun y => !seen.contains y.born) := by
        rw [List.filter_cons] at he
        split at he
        · rcases List.mem_cons.1 he with q | q
          · exact absurd q.symm hx
          · exact q
        · exact he
      have hb : x.born ≠ e.born := fun q => hn.1 (q ▸ List.mem_map_of_mem (List.mem_filter.1 he').1)
      have k := ih hn.2 he'
      rw [List.filter_cons, List.filter_cons, hsame]
      have hb' : (x.born != e.born) = true := by simp [hb]
      rw [hb', Bool.and_true]
      split
      · exact (k.cons x).trans (List.Perm.swap _ _ _)
      · exact k
end
section
variable {α : Type}
variable {P : Program} {B : Exit → Act → World → Prop} {b : Nat → Value} {n : Nat} {d : List Deferred} {w0 w : World} {x : St} {L0 L : List Item}
def rgA (b : Nat → Value) (n : Nat) (x : St) : Option Ask :=
  match hd b n x with
  | some q => match q.2.2.op with
    | .range t mp => some ⟨[ev b n x.l mp], [t], x, q⟩
    | _ => none
  | none => none
/-- One begins to go over a map. -/
theorem rg (m i : Nat) (H : Hs w0 L0 w L) {kd : TypeDesc} {enc : α → Value} {bt t kt et : Nat} {mp : List (α × Value)} (hi : L[i]? = some (mapI kd enc bt mp))
    (k : ∀ r w', Hs w0 L0 w' (L.set i (itI kd enc bt r mp mp none)) → Goal P B b n d (nx (vX (via P b n m w x (ask (rgA b n)))).y (vX (via P b n m w x (ask (rgA b n)))).q (.pointer (some ⟨r, 0, none⟩))) w')
    (h : vA (via P b n m w x (ask (rgA b n))) = vB w (via P b n m w x (ask (rgA b n))) := by kernel_rfl)
    (h2 : ((vX (via P b n m w x (ask (rgA b n)))).u, (vX (via P b n m w x (ask (rgA b n)))).t) = ([.map (some bt)], [t]) := by kernel_rfl)
    (ht : mapT P t = some (kt, et) := by kernel_rfl) : Goal P B b n d x w := by
  obtain ⟨y, hr, hf⟩ := ask_ok h
  refine run_sound hr ?_
  generalize vX (via P b n m w x (ask (rgA b n))) = zz at *
  unfold rgA at hf
  split at hf <;> try contradiction
  rename_i q hq
  split at hf <;> try contradiction
  rename_i t' mo hop
  simp only [Option.some.injEq] at hf
  subst hf
  simp only [Prod.mk.injEq, List.cons.injEq, and_true] at h2
  obtain ⟨h3, rfl⟩ := h2
  obtain ⟨⟨es, ck, hb, hm⟩, _, _⟩ := H.at i hi
  have hmt := mapT_eq ht
  refine hd_val hq (v := .pointer (some ⟨w.heap.size, 0, none⟩)) (w' := w.alloc (.mapIter (some bt) ck #[] ck)) ?_ (k _ _ ?_)
  · unfold execOp
    simp [hop, h3, Instr.range, run_underlying hmt, Sem.run_bind, MapKept.run_getObj_map hb, Result.andThen]
  · refine H.put i hi rfl (Kp.of_ext (G_alloc w _) _) (itI_holds ⟨es, ck, #[], ?_, hm, Has_alloc w _, ?_, trivial⟩) (fun c hc => ?_)
    · exact (G_alloc w _).block _ (Has.lt hb) (by simp) |>.trans hb
    · have : leftOf es #[] = es := by unfold leftOf; simp
      rw [this, hm.2.2]
    · rcases hc with rfl | rfl
      · exact .inl rfl
      · exact .inr (Nat.le_refl _)
def ntA (b : Nat → Value) (n : Nat) (x : St) : Option Ask :=
  match hd b n x with
  | some q => match q.2.2.op with
    | .next it s => match s with
      | false => some ⟨[ev b n x.l it], [], x, q⟩
      | true => none
    | _ => none
  | none => none
/-- The next one, whichever. -/
theorem nt (m i : Nat) (H : Hs w0 L0 w L) {kd : TypeDesc} {enc : α → Value} {bt r : Nat} {mp left : List (α × Value)} {cur : Option (α × Value)} (hi : L[i]? = some (itI kd enc bt r mp left cur))
    (k0 : left = [] → Goal P B b n d (nx (vX (via P b n m w x (ask (ntA b n)))).y (vX (via P b n m w x (ask (ntA b n)))).q (.tuple #[.bool false])) w)
    (k1 : ∀ p left' w', left.Perm (p :: left') → Hs w0 L0 w' (L.set i (itI kd enc bt r mp left' (some p))) → Goal P B b n d (nx (vX (via P b n m w x (ask (ntA b n)))).y (vX (via P b n m w x (ask (ntA b n)))).q (.tuple #[.bool true, enc p.1, p.2])) w')
    (h : vA (via P b n m w x (ask (ntA b n))) = vB w (via P b n m w x (ask (ntA b n))) := by kernel_rfl)
    (h2 : (vX (via P b n m w x (ask (ntA b n)))).u = [.pointer (some ⟨r, 0, none⟩)] := by kernel_rfl) : Goal P B b n d x w := by
  obtain ⟨y, hr, hf⟩ := ask_ok h
  refine run_sound hr ?_
  generalize vX (via P b n m w x (ask (ntA b n))) = zz at *
  unfold ntA at hf
  split at hf <;> try contradiction
  rename_i q hq
  split at hf <;> try contradiction
  rename_i it s hop
  split at hf <;> try contradiction
  simp only [Option.some.injEq] at hf
  subst hf
  simp only [List.cons.injEq, and_true] at h2
  have hit := H.at i hi
  obtain ⟨⟨es, ck, seen, hb, hm, hri, hl, hc⟩, hlt, _⟩ := hit
  have hst := (stamped_iff es ck).1 hm.1
  have hx : ∀ v w', (Instr.next (.pointer (some ⟨r, 0, none⟩)) false q.2.2.type).run P w = .ok v w' → (execOp (ev b n y.l) q.2.2).run P w = .ok (.value v) w' := by
    intro v w' hv
    unfold execOp
    simp [hop, h2, hv, Sem.run_bind, Result.andThen]
  rcases run_next_at (P := P) w q.2.2.type r bt ck ck seen es ck hri hb hst.1 (Nat.le_refl _) with ⟨h0, hrun⟩ | ⟨e, he, w1, hw1, hrun⟩
  · have : left = [] := by
      have e0 : (leftOf es seen).toList = [] := by
        have := Array.eq_empty_of_size_eq_zero h0
        rw [this]
      rw [e0] at hl
      have := hl.length_eq
      cases left with
      | nil => rfl
      | cons _ _ => simp at this
    exact hd_val hq (hx _ _ hrun) (k0 this)
  · have hp := left_push es seen e hst.2.1 he
    have hees : e ∈ es.toList := by
      unfold leftOf at he; rw [Array.toList_filter] at he; exact (List.mem_filter.1 he).1
    obtain ⟨p, hpm, hpe⟩ : ∃ p ∈ left, (enc p.1, p.2) = (e.key, e.val) := by
      have : (e.key, e.val) ∈ (leftOf es seen).toList.map (fun e => (e.key, e.val)) := List.mem_map.2 ⟨e, he, rfl⟩
      rw [hl.mem_iff] at this
      exact List.mem_map.1 this
    simp only [Prod.mk.injEq] at hpe
    obtain ⟨s, t, rfl⟩ := List.append_of_mem hpm
    have hl' : ((leftOf es (seen.push e.born)).toList.map (fun e => (e.key, e.val))).Perm ((s ++ t).map (fun p => (enc p.1, p.2))) := by
      have h1 := (hp.map (fun e => (e.key, e.val))).symm.trans (hl.trans ((List.perm_middle (a := p) (l₁ := s) (l₂ := t)).map _))
      simp only [List.map_cons, hpe.1, hpe.2] at h1
      exact (List.perm_cons _).1 h1
    have hrb : r ≠ bt := by
      intro q; subst q
      have := hb.symm.trans hri; cases this
    refine hd_val hq (hx _ _ hrun) ?_
    have hb1 := has_drew hw1 hb
    have hr1 := has_drew hw1 hri
    have hE : Ext w w1 := by
      rcases hw1 with rfl | rfl
      · exact Ext.refl _
      · exact ⟨rfl, rfl, rfl, Nat.le_refl _, fun _ _ _ => rfl⟩
    have k' := k1 p (s ++ t) (ChangeMaps.setBlock w1 r (.mapIter (some bt) ck (seen.push e.born) ck)) List.perm_middle ?_
    · rw [hpe.1, hpe.2] at k'; exact k'
    have hG : G w1 (ChangeMaps.setBlock w1 r (.mapIter (some bt) ck (seen.push e.born) ck)) (some r) := G_setObj w1 r _
    refine H.put i hi rfl (Kp.trans (Kp.of_ext hE _) ((Kp.of_G hG).mono fun c hc => .inr (Option.some.inj hc).symm)) (itI_holds ⟨es, ck, seen.push e.born, ?_, hm, Has_setObj _ hr1, hl', e, seen, rfl, hees, hpe.1.symm, hpe.2.symm⟩) (fun c hc => .inl hc)
    exact (hG.block _ (Has.lt hb1) (by simp; exact fun q => hrb q.symm)).trans hb1
def enA (b : Nat → Value) (n : Nat) (x : St) : Option Ask :=
  match hd b n x with
  | some q => match q.2.2.op with
    | .entry it => some ⟨[ev b n x.l it], [], x, q⟩
    | _ => none
  | none => none
/-- The one that has been come to. -/
theorem ent (m i : Nat) (H : Hs w0 L0 w L) {kd : TypeDesc} {enc : α → Value} {bt r : Nat} {mp left : List (α × Value)} {p : α × Value} (hi : L[i]? = some (itI kd enc bt r mp left (some p)))
    (k : Goal P B b n d (nx (vX (via P b n m w x (ask (enA b n)))).y (vX (via P b n m w x (ask (enA b n)))).q (.tuple #[enc p.1, p.2])) w)
    (h : vA (via P b n m w x (ask (enA b n))) = vB w (via P b n m w x (ask (enA b n))) := by kernel_rfl)
    (h2 : (vX (via P b n m w x (ask (enA b n)))).u = [.pointer (some ⟨r, 0, none⟩)] := by kernel_rfl) : Goal P B b n d x w := by
  obtain ⟨y, hr, hf⟩ := ask_ok h
  refine run_sound hr ?_
  generalize vX (via P b n m w x (ask (enA b n))) = zz at *
  unfold enA at hf
  split at hf <;> try contradiction
  rename_i q hq
  split at hf <;> try contradiction
  rename_i it hop
  simp only [Option.some.injEq] at hf
  subst hf
  simp only [List.cons.injEq, and_true] at h2
  obtain ⟨⟨es, ck, seen, hb, hm, hri, hl, e, s, rfl, he, h3, h4⟩, _, _⟩ := H.at i hi
  have hst := (stamped_iff es ck).1 hm.1
  have hrun := run_entry_at (P := P) w r bt ck s es ck e hri hb he hst.2.1
  refine hd_val hq ?_ k
  unfold execOp
  simp [hop, h2, hrun, h3, h4, Sem.run_bind, Result.andThen]
end
end Go.Sx
namespace Go.Inf
open Go.RowKit Go.Sx Go.Gx Go.MapKept
def bms (l : List Nat) : List (Int × Value) := l.map fun n : Nat => ((n : Int), .bool true)
/-- These two lists have the same members. -/
def Mem2 (s t : List Nat) : Prop := ∀ n, n ∈ s ↔ n ∈ t
theorem Mem2.rfl' {s : List Nat} : Mem2 s s := fun _ => Iff.rfl
theorem Mem2.symm {s t : List Nat} (h : Mem2 s t) : Mem2 t s := fun n => (h n).symm
theorem Mem2.trans {s t u : List Nat} (h : Mem2 s t) (k : Mem2 t u) : Mem2 s u := fun n => (h n).trans (k n)
/-- This block is a map that is such a set. -/
def SetW (w : World) (b : Nat) (s : List Nat) : Prop := ∃ l, Mem2 l s ∧ ∃ es ck, Has w b (.map es ck) ∧ MpOk (.int .i64) encN es ck (bms l)
theorem SetW.keep {w w' : World} {b : Nat} {s : List Nat} (h : SetW w b s) (k : w'.heap[b]? = w.heap[b]?) : SetW w' b s := by
  obtain ⟨l, h1, es, ck, h2, h3⟩ := h
  exact ⟨l, h1, es, ck, k.trans h2, h3⟩
theorem SetW.as {w : World} {b : Nat} {s t : List Nat} (h : SetW w b s) (k : Mem2 s t) : SetW w b t := by
  obtain ⟨l, h1, h2⟩ := h
  exact ⟨l, h1.trans k, h2⟩
def setI (b : Nat) (s : List Nat) : Sx.Item := .abs (fun c => c = b) (fun w => SetW w b s)
theorem setI_loc (b : Nat) (s : List Nat) : Sx.Loc (fun c => c = b) (fun w => SetW w b s) := fun _ _ _ hk h => h.keep (hk b rfl)
theorem setI_holds {w : World} {b : Nat} {s : List Nat} (h : SetW w b s) : (setI b s).holds w := by
  refine ⟨h, fun c hc => ?_, setI_loc _ _⟩
  obtain ⟨_, _, _, _, h2, _⟩ := h
  subst hc; exact Has.lt h2
abbrev smap (b : Nat) (l : List Nat) : Sx.Item := mapI (.int .i64) encN b (bms l)
section
variable {w0 w : World} {L0 L : List Sx.Item}
theorem set_open (H : Hs w0 L0 w L) (i : Nat) {b : Nat} {s : List Nat} (hi : L[i]? = some (setI b s)) : ∃ l, Mem2 l s ∧ Hs w0 L0 w (L.set i (smap b l)) := by
  obtain ⟨⟨l, h1, es, ck, h2, h3⟩, _, _⟩ := H.at i hi
  exact ⟨l, h1, H.as i _ hi rfl (mapI_holds h2 h3) (fun _ h => h)⟩
theorem set_close (H : Hs w0 L0 w L) (i : Nat) {b : Nat} {l s : List Nat} (hi : L[i]? = some (smap b l)) (hm : Mem2 l s) : Hs w0 L0 w (L.set i (setI b s)) := by
  obtain ⟨⟨es, ck, h2, h3⟩, _, _⟩ := H.at i hi
  exact H.as i _ hi rfl (setI_holds ⟨l, hm, es, ck, h2, h3⟩) (fun _ h => h)
theorem set_as (H : Hs w0 L0 w L) (i : Nat) {b : Nat} {s t : List Nat} (hi : L[i]? = some (setI b s)) (hm : Mem2 s t) : Hs w0 L0 w (L.set i (setI b t)) :=
  H.as i _ hi rfl (setI_holds ((H.at i hi).1.as hm)) (fun _ h => h)
theorem set_new (H : Hs w0 L0 w L) (i : Nat) {b : Nat} (hi : L[i]? = some (.blk b (.map #[] 0))) : Hs w0 L0 w (L.set i (setI b [])) :=
  H.as i _ hi rfl (setI_holds ⟨[], Mem2.rfl', #[], 0, H.at i hi, ⟨stamped_empty 0, by simp, rfl⟩⟩) (fun _ h => h)
end
theorem bms_pos (q : Nat) (l : List Nat) : (Sx.look (q : Int) (bms l)) = if l.contains q then some (.bool true) else none := by
  induction l with
  | nil => rfl
  | cons n l ih =>
    rw [show bms (n :: l) = ((n : Int), Value.bool true) :: bms l from rfl, look_cons, ih]
    by_cases e : n = q
    · subst e; simp
    · have h1 : ¬ ((n : Int) = (q : Int)) := by omega
      have h2 : (q == n) = false := by simp; exact fun h => e h.symm
      rw [if_neg (by simpa using h1), List.contains_cons, h2, Bool.false_or]
theorem bms_upd (q : Nat) (l : List Nat) : upd (q : Int) (.bool true) (bms l) = bms (add l q) := by
  unfold add
  induction l with
  | nil => rfl
  | cons n l ih =>
    rw [show bms (n :: l) = ((n : Int), Value.bool true) :: bms l from rfl, upd_cons, ih]
    by_cases e : n = q
    · subst e; simp [bms]
    · have h1 : ¬ ((n : Int) = (q : Int)) := by omega
      have h2 : (q == n) = false := by simp; exact fun h => e h.symm
      rw [if_neg (by simpa using h1), List.contains_cons, h2, Bool.false_or]
      split <;> rfl
theorem del_cons (a : Int) (p : Int × Value) (r : List (Int × Value)) : del a (p :: r) = if p.1 = a then r else p :: del a r := by
  unfold del
  rw [pos]
  by_cases e : p.1 = a
  · rw [if_pos e, if_pos e]; rfl
  · rw [if_neg e, if_neg e]; cases pos a r <;> rfl
theorem mem_add {l : List Nat} {q n : Nat} : n ∈ add l q ↔ n ∈ l ∨ n = q := by
  unfold add
  split
  · rename_i h
    have h := List.contains_iff_mem.1 h
    constructor
    · exact .inl
    · rintro (h' | rfl)
      · exact h'
      · exact h
  · simp
/-- Of a map no key comes twice. -/
theorem ok_nodup {es : Array MapEntry} {ck : Nat} {l : List Nat} (h : MpOk (.int .i64) encN es ck (bms l)) : l.Nodup := by
  obtain ⟨h1, _, h3⟩ := h
  have hp := ((stamped_iff es ck).1 h1).2.2
  have e : es.toList.map (·.key) = l.map fun n : Nat => encN (n : Int) := by
    have := congrArg (List.map Prod.fst) h3
    simpa [bms, Function.comp_def] using this
  have : (es.toList.map (·.key)).Nodup := by unfold List.Nodup; rw [List.pairwise_map]; exact hp
  rw [e] at this
  rw [List.Nodup, List.pairwise_map] at this
  exact this.imp fun h e => h (by rw [e])
theorem bms_del {q : Nat} {l : List Nat} (h : l.Nodup) : del (q : Int) (bms l) = bms (l.filter fun n => n != q) := by
  induction l with
  | nil => rfl
  | cons n l ih =>
    obtain ⟨h1, h2⟩ := List.nodup_cons.1 h
    rw [show bms (n :: l) = ((n : Int), Value.bool true) :: bms l from rfl, del_cons, ih h2]
    by_cases e : n = q
    · subst e
      rw [if_pos rfl, List.filter_cons]
      simp only [bne_self_eq_false, Bool.false_eq_true, if_false]
      congr 1
      refine (List.filter_eq_self.2 fun y hy => ?_).symm
      have : y ≠ n := fun q => h1 (q ▸ hy)
      simp [this]
    · have h3 : ¬ ((n : Int) = (q : Int)) := by omega
      rw [if_neg (by simpa using h3), List.filter_cons]
      simp [e, bms]
theorem contains_mem2 {s t : List Nat} (h : Mem2 s t) (q : Nat) : s.contains q = t.contains q := by
  rw [Bool.eq_iff_iff, List.contains_iff_mem, List.contains_iff_mem]; exact h q
section
variable {P : Program} {B : Exit → Act → World → Prop} {b : Nat → Value} {n : Nat} {d : List Deferred} {w0 w : World} {x : St} {L0 L : List Sx.Item}
theorem lkb (m i bt q : Nat) (s : List Nat) (H : Hs w0 L0 w L) {t kt et : Nat} (hi : L[i]? = some (setI bt s))
    (k : Goal P B b n d (Sx.nx (vX (via P b n m w x (Sx.ask (lkA b n)))).y (vX (via P b n m w x (Sx.ask (lkA b n)))).q (.bool (s.contains q))) w)
    (h : vA (via P b n m w x (Sx.ask (lkA b n))) = vB w (via P b n m w x (Sx.ask (lkA b n))) := by kernel_rfl)
    (h2 : ((vX (via P b n m w x (Sx.ask (lkA b n)))).u, (vX (via P b n m w x (Sx.ask (lkA b n)))).t) = ([.map (some bt), .int .i64 (q : Int)], [t, 0]) := by kernel_rfl)
    (ht : mapT P t = some (kt, et) := by kernel_rfl) (hkt : P.underlying kt = some (.int .i64) := by kernel_rfl) (hz : (P.info? et).bind (·.zero) = some (.bool false) := by kernel_rfl) : Goal P B b n d x w := by
  obtain ⟨l, hl, H'⟩ := set_open H i hi
  have hlen := (List.getElem?_eq_some_iff.1 hi).1
  refine lk (r := 0) m i H' (q : Int) (.bool false) (List.getElem?_set_self hlen) keyN injN ?_ h h2 ht hkt hz
  rw [show (Sx.look (q : Int) (bms l)).getD (.bool false) = .bool (s.contains q) by rw [bms_pos, contains_mem2 hl]; cases s.contains q <;> rfl]
  exact k
theorem mub (m i bt q : Nat) (s : List Nat) (H : Hs w0 L0 w L) {t kt et : Nat} (hi : L[i]? = some (setI bt s))
    (k : ∀ w', Hs w0 L0 w' (L.set i (setI bt (add s q))) → Goal P B b n d (Sx.nx (vX (via P b n m w x (Sx.ask (muA b n)))).y (vX (via P b n m w x (Sx.ask (muA b n)))).q undef) w')
    (h : vA (via P b n m w x (Sx.ask (muA b n))) = vB w (via P b n m w x (Sx.ask (muA b n))) := by kernel_rfl)
    (h2 : ((vX (via P b n m w x (Sx.ask (muA b n)))).u, (vX (via P b n m w x (Sx.ask (muA b n)))).t) = ([.map (some bt), .int .i64 (q : Int), .bool true], [t]) := by kernel_rfl)
    (ht : mapT P t = some (kt, et) := by kernel_rfl) (hkt : P.underlying kt = some (.int .i64) := by kernel_rfl) : Goal P B b n d x w := by
  obtain ⟨l, hl, H'⟩ := set_open H i hi
  have hlen := (List.getElem?_eq_some_iff.1 hi).1
  refine mu m i H' (q : Int) (.bool true) (List.getElem?_set_self hlen) keyN injN bitsN (fun w' H2 => ?_) h h2 ht hkt
  rw [bms_upd, List.set_set] at H2
  have H3 := set_close H2 i (List.getElem?_set_self hlen) (s := add s q) (fun n => by rw [mem_add, mem_add, hl n])
  rw [List.set_set] at H3
  exact k w' H3
theorem deb (m i bt q : Nat) (s : List Nat) (H : Hs w0 L0 w L) {t t' kt et : Nat} (hi : L[i]? = some (setI bt s))
    (k : ∀ w', Hs w0 L0 w' (L.set i (setI bt (s.filter fun n => n != q))) → Goal P B b n d (Sx.nx (vX (via P b n m w x (Sx.ask (deA b n)))).y (vX (via P b n m w x (Sx.ask (deA b n)))).q (.tuple #[])) w')
    (h : vA (via P b n m w x (Sx.ask (deA b n))) = vB w (via P b n m w x (Sx.ask (deA b n))) := by kernel_rfl)
    (h2 : ((vX (via P b n m w x (Sx.ask (deA b n)))).u, (vX (via P b n m w x (Sx.ask (deA b n)))).t) = ([.map (some bt), .int .i64 (q : Int)], [t, t']) := by kernel_rfl)
    (ht : mapT P t = some (kt, et) := by kernel_rfl) (hkt : P.underlying kt = some (.int .i64) := by kernel_rfl) : Goal P B b n d x w := by
  obtain ⟨l, hl, H'⟩ := set_open H i hi
  have hlen := (List.getElem?_eq_some_iff.1 hi).1
  have hnd : l.Nodup := by obtain ⟨⟨es, ck, _, hm⟩, _, _⟩ := H'.at i (List.getElem?_set_self hlen); exact ok_nodup hm
  refine de m i H' (q : Int) (List.getElem?_set_self hlen) keyN injN (fun w' H2 => ?_) h h2 ht hkt
  rw [bms_del hnd, List.set_set] at H2
  have H3 := set_close H2 i (List.getElem?_set_self hlen) (s := s.filter fun n => n != q) (fun n => by rw [List.mem_filter, List.mem_filter, hl n])
  rw [List.set_set] at H3
  exact k w' H3
/-- A set and who goes over it. -/
abbrev itS (bt r : Nat) (l left : List Nat) (cur : Option Nat) : Sx.Item := itI (.int .i64) encN bt r (bms l) (bms left) (cur.map fun n : Nat => ((n : Int), .bool true))
theorem rgb (m i bt : Nat) (s : List Nat) (H : Hs w0 L0 w L) {t kt et : Nat} (hi : L[i]? = some (setI bt s))
    (k : ∀ l r w', Mem2 l s → Hs w0 L0 w' (L.set i (itS bt r l l none)) → Goal P B b n d (Sx.nx (vX (via P b n m w x (Sx.ask (rgA b n)))).y (vX (via P b n m w x (Sx.ask (rgA b n)))).q (.pointer (some ⟨r, 0, none⟩))) w')
    (h : vA (via P b n m w x (Sx.ask (rgA b n))) = vB w (via P b n m w x (Sx.ask (rgA b n))) := by kernel_rfl)
    (h2 : ((vX (via P b n m w x (Sx.ask (rgA b n)))).u, (vX (via P b n m w x (Sx.ask (rgA b n)))).t) = ([.map (some bt)], [t]) := by kernel_rfl)
    (ht : mapT P t = some (kt, et) := by kernel_rfl) : Goal P B b n d x w := by
  obtain ⟨l, hl, H'⟩ := set_open H i hi
  have hlen := (List.getElem?_eq_some_iff.1 hi).1
  refine rg m i H' (List.getElem?_set_self hlen) (fun r w' H2 => ?_) h h2 ht
  rw [List.set_set] at H2
  exact k l r w' hl H2
theorem ntb (m i : Nat) {bt r : Nat} {l left : List Nat} {cur : Option Nat} (H : Hs w0 L0 w L) (hi : L[i]? = some (itS bt r l left cur))
    (k0 : left = [] → Goal P B b n d (Sx.nx (vX (via P b n m w x (Sx.ask (ntA b n)))).y (vX (via P b n m w x (Sx.ask (ntA b n)))).q (.tuple #[.bool false])) w)
    (k1 : ∀ q left' w', left.Perm (q :: left') → Hs w0 L0 w' (L.set i (itS bt r l left' (some q))) → Goal P B b n d (Sx.nx (vX (via P b n m w x (Sx.ask (ntA b n)))).y (vX (via P b n m w x (Sx.ask (ntA b n)))).q (.tuple #[.bool true, .int .i64 (q : Int), .bool true])) w')
    (h : vA (via P b n m w x (Sx.ask (ntA b n))) = vB w (via P b n m w x (Sx.ask (ntA b n))) := by kernel_rfl)
    (h2 : (vX (via P b n m w x (Sx.ask (ntA b n)))).u = [.pointer (some ⟨r, 0, none⟩)] := by kernel_rfl) : Goal P B b n d x w := by
  refine nt m i H hi (fun e => k0 (by cases left with | nil => rfl | cons _ _ => simp [bms] at e)) (fun p left' w' hp H2 => ?_) h h2
  have hall : ∀ z ∈ p :: left', ∃ n : Nat, z = ((n : Int), Value.bool true) := by
    intro z hz
    have := hp.symm.subset hz
    obtain ⟨n, _, rfl⟩ := List.mem_map.1 this
    exact ⟨n, rfl⟩
  obtain ⟨q, rfl⟩ := hall p (.head _)
  have hl' : left' = bms (left'.map fun z => z.1.toNat) := by
    unfold bms
    rw [List.map_map]
    conv => lhs; rw [← List.map_id left']
    refine List.map_congr_left fun z hz => ?_
    obtain ⟨n, rfl⟩ := hall z (.tail _ hz)
    simp
  have hpp : left.Perm (q :: left'.map fun z => z.1.toNat) := by
    have := hp.map fun z => z.1.toNat
    simpa [bms, Function.comp_def] using this
  rw [hl'] at H2
  exact k1 q _ w' hpp H2
theorem entb (m i : Nat) {bt r q : Nat} {l left : List Nat} (H : Hs w0 L0 w L) (hi : L[i]? = some (itS bt r l left (some q)))
    (k : Goal P B b n d (Sx.nx (vX (via P b n m w x (Sx.ask (enA b n)))).y (vX (via P b n m w x (Sx.ask (enA b n)))).q (.tuple #[.int .i64 (q : Int), .bool true])) w)
    (h : vA (via P b n m w x (Sx.ask (enA b n))) = vB w (via P b n m w x (Sx.ask (enA b n))) := by kernel_rfl)
    (h2 : (vX (via P b n m w x (Sx.ask (enA b n)))).u = [.pointer (some ⟨r, 0, none⟩)] := by kernel_rfl) : Goal P B b n d x w :=
  ent m i (p := ((q : Int), .bool true)) H hi k h h2
/-- A map that is only read, or none. -/
def SetR (w : World) (S : Nat → Prop) (o : Option Nat) (s : List Nat) : Prop := match o with
  | none => s = []
  | some k => S k ∧ SetW w k s
theorem SetR.keep {w w' : World} {S : Nat → Prop} {o : Option Nat} {s : List Nat} (h : SetR w S o s) (k : ∀ c, S c → w'.heap[c]? = w.heap[c]?) : SetR w' S o s := by
  cases o with
  | none => exact h
  | some b => exact ⟨h.1, h.2.keep (k b h.1)⟩
theorem SetR.mono {w : World} {S S' : Nat → Prop} {o : Option Nat} {s : List Nat} (h : SetR w S o s) (k : ∀ c, S c → S' c) : SetR w S' o s := by
  cases o with
  | none => exact h
  | some b => exact ⟨k _ h.1, h.2⟩
theorem lkr (m : Nat) {S : Nat → Prop} {o : Option Nat} (q : Nat) (s : List Nat) (hs : SetR w S o s) {t kt et : Nat}
    (k : Goal P B b n d (Sx.nx (vX (via P b n m w x (Sx.ask (lkA b n)))).y (vX (via P b n m w x (Sx.ask (lkA b n)))).q (.bool (s.contains q))) w)
    (h : vA (via P b n m w x (Sx.ask (lkA b n))) = vB w (via P b n m w x (Sx.ask (lkA b n))) := by kernel_rfl)
    (h2 : ((vX (via P b n m w x (Sx.ask (lkA b n)))).u, (vX (via P b n m w x (Sx.ask (lkA b n)))).t) = ([.map o, .int .i64 (q : Int)], [t, 0]) := by kernel_rfl)
    (ht : mapT P t = some (kt, et) := by kernel_rfl) (hkt : P.underlying kt = some (.int .i64) := by kernel_rfl) (hz : (P.info? et).bind (·.zero) = some (.bool false) := by kernel_rfl) : Goal P B b n d x w := by
  cases o with
  | some bt =>
    obtain ⟨_, l, hl, es, ck, h3, h4⟩ := hs
    have H : Hs w [smap bt l] w [smap bt l] := Hs.refl ⟨fun it hi => by rw [List.mem_singleton.1 hi]; exact mapI_holds h3 h4, List.pairwise_singleton _ _⟩
    refine lk (r := 0) m 0 H (q : Int) (.bool false) rfl keyN injN ?_ h h2 ht hkt hz
    rw [show (Sx.look (q : Int) (bms l)).getD (.bool false) = .bool (s.contains q) by rw [bms_pos, contains_mem2 hl]; cases s.contains q <;> rfl]
    exact k
  | none =>
    have hs : s = [] := hs
    subst hs
    obtain ⟨y, hr, hf⟩ := ask_ok h
    refine run_sound hr ?_
    generalize vX (via P b n m w x (Sx.ask (lkA b n))) = zz at *
    unfold lkA at hf
    split at hf <;> try contradiction
    rename_i q' hq
    split at hf <;> try contradiction
    rename_i t' mo ix ok hop
    simp only [Option.some.injEq] at hf
    subst hf
    simp only [Prod.mk.injEq, List.cons.injEq, and_true] at h2
    obtain ⟨⟨h3, h4⟩, rfl, h5⟩ := h2
    have hmt := mapT_eq ht
    have hzv : (zeroValue et).run P w = .ok (.bool false) w := by
      cases hinf : P.info? et with
      | none => simp [hinf] at hz
      | some inf => rw [hinf] at hz; simp only [Option.bind_some] at hz; simp [zeroValue, typeInfo, hinf, hz]
    have hck : (Instr.checkKey true 10000 kt (encN (q : Int))).run P w = .ok () w := run_checkKey hkt (keyN _) _ 9999
    have hfk : (Instr.findKey kt (.int .i64 (q : Int)) []).run P w = .ok none w := run_findKey (P := P) (w := w) hkt rfl
    refine hd_val hq (v := .bool false) ?_ k
    unfold execOp
    cases ok <;> simp only at h5 <;> try contradiction
    simp [hop, h3, h4, Instr.lookup, run_underlying hmt, Sem.run_bind, hck, hzv, hfk, Result.andThen]
end
end Go.Inf
namespace Go.Inf
open Go.RowKit Go.Sx Go.Gx Go.Syn
/-- Cells that are only read. -/
def celI (Q : Nat → Prop) (a : Addr) (n : Nat) (cs : List Value) : Sx.Item := .ro Q (fun w => Q a.block ∧ w.cells? 0 a n = some cs)
theorem celI_loc (Q : Nat → Prop) (a : Addr) (n : Nat) (cs : List Value) : Sx.Loc Q (fun w => Q a.block ∧ w.cells? 0 a n = some cs) := fun _ _ _ hk h => ⟨h.1, cells_same h.2 (hk _ h.1)⟩
theorem cells_sub {w : World} {a : Addr} {n i m : Nat} {cs : List Value} (h : w.cells? 0 a n = some cs) (hi : i + m ≤ n) : w.cells? 0 (a.add i) m = some ((cs.drop i).take m) := by
  have q := World.cells?_some h
  have hl : ((cs.drop i).take m).length = m := by rw [List.length_take, List.length_drop, q.2.1]; omega
  have hc : ∀ j, j < m → w.cell? ((a.add i).add j) = ((cs.drop i).take m)[j]? := fun j hj => by
    rw [add_add, q.2.2 (i + j) (by omega), List.getElem?_take, if_pos hj, List.getElem?_drop]
  cases m with
  | zero =>
    have : (cs.drop i).take 0 = [] := by simp
    rw [this]; unfold World.cells?; simp
  | succ m =>
    have h0 := hc 0 (by omega)
    generalize a.add i = a' at *
    have e0 : a'.add 0 = a' := by unfold Addr.add; simp
    rw [e0] at h0
    have hs : a'.spot = none := by
      have hx : ((cs.drop i).take (m + 1))[0]? ≠ none := by rw [List.getElem?_eq_getElem (by omega)]; simp
      rw [← h0] at hx
      unfold World.cell? at hx
      cases hsp : a'.spot with
      | none => rfl
      | some z => exfalso; apply hx; rw [hsp]; split <;> rfl
    obtain ⟨ab, ao, as⟩ := a'
    simp only at hs
    subst hs
    refine ChangeShapes.cells?_of (Nat.zero_le _) hl (fun j hj => ?_)
    rw [← hc j hj]
    unfold Addr.add
    split
    · rename_i e; subst e; rfl
    · rfl
end Go.Inf
namespace Go.Sx
open Go.RowKit Go.Gx
section
variable {P : Program} {fn : Func} {R : Ending → World → Prop} {b : Nat → Value} {n : Nat} {d : List Deferred} {w0 w : World} {x : St} {L0 L : List Sx.Item}
def faO (b : Nat → Value) (n : Nat) (z : Tz) : Option (List Value × List Nat) := match z.o.op with
  | .fieldAddr t s f => some ([ev b n z.l s], [t, f])
  | _ => none
/-- A field's address, in a drawn region. -/
theorem tvf (i : Nat) (C : List Nat) (a : Addr) (off : Nat) (hS : clrA x = true → Sp w (LJof x))
    (k : Goal P (bodyPost P fn R) b n d ((vX (via P b n 0 w x (tvR b n i C))).k (.pointer (some (a.add off)))) w)
    (h : vA (via P b n 0 w x (tvR b n i C)) = vB w (via P b n 0 w x (tvR b n i C)) := by kernel_rfl)
    (h2 : (faO b n (vX (via P b n 0 w x (tvR b n i C)))).map (·.1) = some [.pointer (some a)] := by kernel_rfl)
    (h3 : (match faO b n (vX (via P b n 0 w x (tvR b n i C))) with | some q => fldAt P (q.2.getD 0 0) (q.2.getD 1 0) off | none => false) = true := by kernel_rfl) : Goal P (bodyPost P fn R) b n d x w := by
  refine tv i C _ hS (fun w' hs => ?_) k h
  generalize vX (via P b n 0 w x (tvR b n i C)) = z at *
  unfold faO at h2 h3
  split at h2 <;> try contradiction
  rename_i t s f hop
  rw [hop] at h3
  simp only [Option.map_some, Option.some.injEq, List.cons.injEq, and_true] at h2
  exact run_fieldAddrO hop a h2 off h3
end
end Go.Sx
namespace Go.Inf
open Go.RowKit Go.Sx Go.Gx Go.Syn
section
variable {w0 w : World} {L0 L : List Sx.Item}
theorem cel_at (H : Hs w0 L0 w L) (j : Nat) {Q : Nat → Prop} {a : Addr} {n : Nat} {cs : List Value} (hi : L[j]? = some (celI Q a n cs)) : w.cells? 0 a n = some cs := (H.at j hi).1.2
theorem cel_sp {LJ : List Sx.Item} (H : Sp w LJ) (j : Nat) {Q : Nat → Prop} {a : Addr} {n : Nat} {cs : List Value} (hi : LJ[j]? = some (celI Q a n cs)) : w.cells? 0 a n = some cs := (H.all _ (List.mem_of_getElem? hi)).1.2
theorem nd_kid (H : Hs w0 L0 w L) (j : Nat) {Q : Nat → Prop} {ks : List Nd} {A : Option Addr} {c i : Nat} {d : Nd} (hi : L[j]? = some (kvI Q ks A c)) (hd : ks[i]? = some d) :
    ∃ (B : Option Addr) (cb : Nat) (a : Addr), A = some a ∧ Hs w0 L0 w (L ++ [celI Q (a.add (i * 5)) 5 (ndC d B cb)] ++ [kvI Q d.ks B cb]) := by
  have k := (H.at j hi).1
  obtain ⟨B, cb, a, ha, hc, hk⟩ := kv_kid k hd
  refine ⟨B, cb, a, ha, ?_⟩
  have hq : Q a.block := by
    cases k with
    | mk As cs _ _ hA _ _ =>
      obtain ⟨a', h1, h2⟩ := hA i (List.getElem?_eq_some_iff.1 hd).1
      rw [ha] at h1; cases h1; exact h2
  have H1 := H.ro j (S := Q) (A := fun w => KV Q w ks A c) (B := fun w => Q (a.add (i * 5)).block ∧ w.cells? 0 (a.add (i * 5)) 5 = some (ndC d B cb)) hi ⟨by rw [add_block]; exact hq, hc⟩ (celI_loc _ _ _ _)
  have hi' : (L ++ [celI Q (a.add (i * 5)) 5 (ndC d B cb)])[j]? = some (kvI Q ks A c) := by
    rw [List.getElem?_append_left (List.getElem?_eq_some_iff.1 hi).1]; exact hi
  exact H1.ro j (S := Q) (A := fun w => KV Q w ks A c) (B := fun w => KV Q w d.ks B cb) hi' hk (kvI_loc _ _ _ _)
end
end Go.Inf
namespace Go.Inf
open Go.RowKit Go.Sx Go.Gx Go.Syn
theorem opsF_step {ks : List Nd} {i : Nat} {acc : List Nm} {kd na : Nat} {nm : Nm} {nn : Int} {k2 : List Nd} (h : ks[i]? = some (.mk kd na nm nn k2)) : (ks.drop i).foldl opsF acc = (ks.drop (i + 1)).foldl opsF (putN acc nm) := by
  obtain ⟨hi, e⟩ := List.getElem?_eq_some_iff.1 h
  rw [List.drop_eq_getElem_cons hi, List.foldl_cons, e]
  rfl
end Go.Inf
namespace Go.Inf
open Go.RowKit Go.Sx Go.Gx Go.Syn
abbrev Nr := Nd × Option Addr × Nat
/-- The kids of these nodes lie there. -/
def ksI (Q : Nat → Prop) (l : List Nr) : Sx.Item := .ro Q (fun w => ∀ p ∈ l, KV Q w p.1.ks p.2.1 p.2.2)
theorem ksI_loc (Q : Nat → Prop) (l : List Nr) : Sx.Loc Q (fun w => ∀ p ∈ l, KV Q w p.1.ks p.2.1 p.2.2) := fun _ _ _ hk h p hp => (h p hp).frame (fun j hj _ => hk j hj)
/-- A node: without kids, or with kids that lie somewhere. -/
inductive Kd where
  | lf (k a : Nat) (x : ByteArray) (n : Int)
  | nd (Q : Nat → Prop) (t : Nd) (A : Option Addr) (c : Nat)
def Kd.r : Kd → Nr
  | .lf k a x n => (.mk k a x n [], none, 0)
  | .nd _ t A c => (t, A, c)
def Kd.i : Kd → Option Sx.Item
  | .lf _ _ _ _ => none
  | .nd Q t A c => some (kvI Q t.ks A c)
section
variable {w0 w : World} {L0 L : List Sx.Item}
theorem _root_.Go.Sx.Hs.pe {L1 : List Sx.Item} (H : Hs w0 L0 w L) (e : L0 = L1) (I : List Nat) {a : List Sx.Item} (h : picked I L = some a := by kernel_rfl) : Hs w0 L1 w a := e ▸ H.pick I h
theorem ks_nil (H : Hs w0 L0 w L) : Hs w0 L0 w (L ++ [ksI (fun _ => False) []]) := H.add (Gx.Ext.refl _) (it := ksI (fun _ => False) []) ⟨fun _ h => (by cases h), fun _ h => h.elim, ksI_loc _ _⟩ (fun _ h => h.elim)
theorem kv_nil (H : Hs w0 L0 w L) : Hs w0 L0 w (L ++ [kvI (fun _ => False) [] none 0]) := H.add (Gx.Ext.refl _) (it := kvI (fun _ => False) [] none 0) ⟨.nil, fun _ h => h.elim, kvI_loc _ _ _ _⟩ (fun _ h => h.elim)
theorem kd_all {S : List Sx.Item} {m : List Kd} (s : ∀ it ∈ S, it.holds w) (h : ∀ x ∈ m.filterMap Kd.i, x ∈ S) : ∀ p ∈ m.map Kd.r, KV (fpA S) w p.1.ks p.2.1 p.2.2 := fun p hp => by
  obtain ⟨k, hk, rfl⟩ := List.mem_map.1 hp
  cases k with
  | lf => exact .nil
  | nd Q t A c =>
    have hm := h (kvI Q t.ks A c) (List.mem_filterMap.2 ⟨_, hk, rfl⟩)
    exact (s _ hm).1.mono fun c hc _ => ⟨_, hm, hc⟩
/-- More nodes join a row's. -/
theorem ks_more0 (H : Hs w0 L0 w L) (I : List Nat) (Q : Nat → Prop) (l : List Nr) (m : List Kd) (hp : picked I L = some (ksI Q l :: m.filterMap Kd.i) := by kernel_rfl) : ∃ Q', Hs w0 L0 w (ksI Q' (l ++ m.map Kd.r) :: rest I L) := by
  refine ⟨_, H.fz I hp (fun s p hp => ?_) (ksI_loc _ _)⟩
  rcases List.mem_append.1 hp with h | h
  · exact ((s.all _ (.head _)).1 p h).mono fun c hc _ => ⟨_, .head _, hc⟩
  · exact kd_all s.all (fun x hx => .tail _ hx) p h
theorem ks_app0 (H : Hs w0 L0 w L) (I : List Nat) (Q Q2 : Nat → Prop) (l m : List Nr) (hp : picked I L = some [ksI Q l, ksI Q2 m] := by kernel_rfl) : ∃ Q', Hs w0 L0 w (ksI Q' (l ++ m) :: rest I L) := by
  refine ⟨_, H.fz I hp (fun s p hp => ?_) (ksI_loc _ _)⟩
  rcases List.mem_append.1 hp with h | h
  · exact ((s.all _ (.head _)).1 p h).mono fun c hc _ => ⟨_, .head _, hc⟩
  · exact ((s.all _ (.tail _ (.head _))).1 p h).mono fun c hc _ => ⟨_, .tail _ (.head _), hc⟩
/-- A row of one's own is done. -/
theorem kv_own0 (H : Hs w0 L0 w L) (I : List Nat) (e : Nat) (A : Option Addr) (cap n : Nat) (Q : Nat → Prop) (l : List Nr) (hp : picked I L = some [.own e 5 A cap n (flat l), ksI Q l]) (hn : n = l.length) : ∃ Q', Hs w0 L0 w (kvI Q' (nds l) A cap :: rest I L) := by
  refine ⟨_, H.fz I hp (fun s => ?_) (kvI_loc _ _ _ _)⟩
  obtain ⟨A', c', e1, h⟩ := KV.of_own (Q := fpA [.own e 5 A cap n (flat l), ksI Q l]) l (s.all _ (.head _)) (fun j hj => ⟨_, .head _, hj⟩) (fun p hp => ((s.all _ (.tail _ (.head _))).1 p hp).mono fun c hc _ => ⟨_, .tail _ (.head _), hc⟩)
  cases e1
  exact h
/-- A row that was written at once is done. -/
theorem kv_make0 (H : Hs w0 L0 w L) (I : List Nat) (k e : Nat) (m : List Kd) (hp : picked I L = some (.blk k (.cells (flat (m.map Kd.r)).toArray e) :: m.filterMap Kd.i) := by kernel_rfl) (hl : Nat.ble m.length 9 = true := by kernel_rfl) : ∃ Q, Hs w0 L0 w (kvI Q (nds (m.map Kd.r)) (some ⟨k, 0, none⟩) m.length :: rest I L) :=
  ⟨_, H.fz I hp (fun s => KV.of_row (n := (flat (m.map Kd.r)).length) (m.map Kd.r) (s.all _ (.head _)) (List.take_length) ⟨_, .head _, rfl⟩ (kd_all s.all (fun x hx => .tail _ hx)) (by simp) (by have := Nat.le_of_ble_eq_true hl; unfold maxLen; simp; omega)) (kvI_loc _ _ _ _)⟩
theorem kd_own (H : Hs w0 L0 w L) (i k e : Nat) (m : List Kd) (hi : L[i]? = some (.blk k (.cells (flat (m.map Kd.r)).toArray e)) := by kernel_rfl) (hl : Nat.ble m.length 9 = true := by kernel_rfl) : Hs w0 L0 w (L.set i (.own e 5 (some ⟨k, 0, none⟩) m.length m.length (flat (m.map Kd.r)))) :=
  H.toOwn i 5 m.length hi ((flat_len (m.map Kd.r)).trans (by rw [List.length_map])) (by have := Nat.le_of_ble_eq_true hl; omega)
variable {P : Prop}
theorem ks_more (H : Hs w0 L0 w L) (I : List Nat) (Q : Nat → Prop) (l : List Nr) (m : List Kd) (k : ∀ Q', Hs w0 L0 w (ksI Q' (l ++ m.map Kd.r) :: rest I L) → P) (hp : picked I L = some (ksI Q l :: m.filterMap Kd.i) := by kernel_rfl) : P := (ks_more0 H I Q l m hp).elim k
theorem ks_app (H : Hs w0 L0 w L) (I : List Nat) (Q Q2 : Nat → Prop) (l m : List Nr) (k : ∀ Q', Hs w0 L0 w (ksI Q' (l ++ m) :: rest I L) → P) (hp : picked I L = some [ksI Q l, ksI Q2 m] := by kernel_rfl) : P := (ks_app0 H I Q Q2 l m hp).elim k
theorem kv_own (H : Hs w0 L0 w L) (I : List Nat) (e : Nat) (A : Option Addr) (cap n : Nat) (Q : Nat → Prop) (l : List Nr) (hn : n = l.length) (k : ∀ Q', Hs w0 L0 w (kvI Q' (nds l) A cap :: rest I L) → P) (hp : picked I L = some [.own e 5 A cap n (flat l), ksI Q l] := by kernel_rfl) : P := (kv_own0 H I e A cap n Q l hp hn).elim k
theorem kv_make (H : Hs w0 L0 w L) (I : List Nat) (k e : Nat) (m : List Kd) (c : ∀ Q', Hs w0 L0 w (kvI Q' (nds (m.map Kd.r)) (some ⟨k, 0, none⟩) m.length :: rest I L) → P) (hp : picked I L = some (.blk k (.cells (flat (m.map Kd.r)).toArray e) :: m.filterMap Kd.i) := by kernel_rfl) (hl : Nat.ble m.length 9 = true := by kernel_rfl) : P := (kv_make0 H I k e m hp hl).elim c
end
structure Up (S : ByteArray) (q q' : Rs) : Prop where
  ok : Ok S q'
  m : M S q' ≤ M S q
  x : q'.x = q.x
  y : q'.y = q.y
theorem Up.of {S : ByteArray} {q q' : Rs} (h : Tr S q q') : Up S q q' := ⟨h.ok, h.m, h.x, h.y⟩
theorem ok_xy {S : ByteArray} {q : Rs} (h : Ok S q) (x y : Nat) (hx : x ≤ 200) (hy : y ≤ 200) : Ok S ⟨q.k, q.a, q.t, q.n, q.e, q.fk, q.fa, x, y⟩ := ⟨h.size, h.e, hx, hy, h.a, h.n, h.t, h.k, h.end_, h.nm, h.sg⟩
theorem up_next {S : ByteArray} {q q' : Rs} (h : Ok S q) (e : nextR S q = q') : Up S q q' ∧ ∀ s, isB q s = true → M S q' < M S q := by subst e; exact ⟨.of (next_tr h), fun s hs => is_lt h hs⟩
theorem up_no {S : ByteArray} {q q' : Rs} (h : Ok S q) (e : noR q = q') : Up S q q' := by subst e; exact .of (no_tr h)
theorem up_has {S s : ByteArray} {q q' : Rs} (h : Ok S q) (e : hasR S q s = q') : Up S q q' ∧ (isB q s = true → M S q' < M S q) := by subst e; exact ⟨.of (has_tr h), fun hs => has_lt h hs⟩
theorem up_must {S s : ByteArray} {q q' : Rs} (h : Ok S q) (e : mustR S q s = q') : Up S q q' := by subst e; exact .of (must_tr h)
theorem up_name {S x : ByteArray} {a : Nat} {q q' : Rs} (h : Ok S q) (e : nameR S q = ((x, a), q')) : Up S q q' ∧ (okB q' = true → M S q' < M S q) := by
  have t := name_tr h
  have l := name_lt (S := S) (q := q) h
  rw [e] at t l
  exact ⟨.of t, l⟩
theorem nt {b : Bool} (h : (!b) = true) : b = false := by simpa using h
theorem nf {b : Bool} (h : (!b) = false) : b = true := by simpa using h
theorem s0 : ((true = true) = True) ∧ ((false = true) = False) ∧ ((!true) = false) ∧ ((!false) = true) ∧ (∀ b, (true && b) = b) ∧ (∀ b, (false && b) = false) ∧ (∀ b, (true || b) = true) ∧ (∀ b, (false || b) = b) ∧ (∀ b, (b && true) = b) ∧ (∀ b, (b || false) = b) ∧ (∀ b, (b && false) = false) ∧ (∀ b, (b || true) = true) := by simp
theorem nm_t {q : Rs} (h : ((!(okB q)) || (((q.k : Nat) : Int) != (2 : Int))) = true) : isNameB q = false := by unfold isNameB; revert h; cases okB q <;> simp [bne]
theorem nm_f {q : Rs} (h : ((!(okB q)) || (((q.k : Nat) : Int) != (2 : Int))) = false) : isNameB q = true := by unfold isNameB; revert h; cases okB q <;> simp [bne]
theorem and_ite {α : Type} (a b : Bool) (x y : α) : (if a = true then if b = true then x else y else y) = if (a && b) = true then x else y := by cases a <;> cases b <;> rfl
theorem or_ite {α : Type} (a b : Bool) (x y : α) : (if a = true then x else if b = true then x else y) = if (a || b) = true then x else y := by cases a <;> cases b <;> rfl
theorem flat_app (l m : List Nr) : flat l ++ flat m = flat (l ++ m) := List.flatMap_append.symm
theorem cons_drop {l : List Nd} {i : Nat} {d z : Nd} (h : l[i]? = some d) : (l.drop i).foldr consF z = consF d ((l.drop (i + 1)).foldr consF z) := by
  obtain ⟨hi, e⟩ := List.getElem?_eq_some_iff.1 h
  rw [List.drop_eq_getElem_cons hi, List.foldr_cons, e]
/-- The cells of a row of one's own. -/
theorem own_cells {w : World} {e sz cap n : Nat} {A : Option Addr} {xs : List Value} (h : (Sx.Item.own e sz A cap n xs).holds w) : (A = none → n = 0) ∧ ∀ a, A = some a → ∀ j u, xs[j]? = some u → w.cell? (a.add j) = some u := by
  rcases h.2 with ⟨hv, hn⟩ | ⟨g, cap', cur, hv, _, hg, hnc, _, _, htk⟩
  · injection hv with e1; subst e1; exact ⟨fun _ => hn, fun a ha => by cases ha⟩
  · injection hv with e1 e2 e3
    subst e1
    refine ⟨fun q => (by cases q), fun a ha j u hu => ?_⟩
    cases ha
    have ea : (⟨g, 0, none⟩ : Addr).add j = ⟨g, j, none⟩ := by unfold Addr.add; split <;> simp_all
    rw [ea, cell_of_row w g j cur e (0, 0) hg]
    rw [← htk, List.getElem?_take] at hu
    split at hu
    · simpa using hu
    · cases hu
end Go.Inf
namespace Go.Sx
open Go.RowKit Go.Gx
section
variable {P : Program} {fn : Func} {R : Ending → World → Prop} {b : Nat → Value} {n : Nat} {d : List Deferred} {w : World} {x : St}
/-- Three may come up. -/
theorem on3 (i j m : Nat) (k1 : Goal P (bodyPost P fn R) b n d (onX i P (bodyPost P fn R) x) w) (k2 : Goal P (bodyPost P fn R) b n d (onX j P (bodyPost P fn R) x) w) (k3 : Goal P (bodyPost P fn R) b n d (onX m P (bodyPost P fn R) x) w) (h : rdy x = [i, j, m] := by kernel_rfl) : Goal P (bodyPost P fn R) b n d x w := by
  obtain ⟨f, kk, l⟩ := x
  cases f with
  | any ops LJ D fuel listed =>
    cases fuel with
    | zero => simp [rdy] at h
    | succ fuel =>
      have h' : Region.ready .any ops listed = [i, j, m] := h
      refine ⟨fun h0 => absurd (h' ▸ h0) (by simp), fun q hq => ?_⟩
      rw [h'] at hq
      simp only [List.mem_cons, List.not_mem_nil, or_false] at hq
      rcases hq with rfl | rfl | rfl
      · exact k1
      · exact k2
      · exact k3
  | _ => simp [rdy] at h
end
end Go.Sx
