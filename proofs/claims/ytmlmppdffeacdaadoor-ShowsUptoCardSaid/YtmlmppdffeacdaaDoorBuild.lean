/- A strings.Builder as a record, small maps, deferred calls: one step at a time. -/
import Derived.Test.YtmlmppdffeacdaaDoorRows
import Derived.Test.YtmlmppdffeacdaaDoorShowPlain
import Derived.Test.YtmlmppdffeacdaaDoorShelf
import Derived.Defers
import Derived.Laws.Externs
import Derived.Lib.Builder
import Derived.MapKept
import Derived.Lib.AppendIntMem
import Derived.Lib.LaidTab
namespace Go.Gx
section
variable {P : Program} {Q : Exit → Act → World → Prop} {w : World} {ops : Array Oper} {b : Nat → Value} {n : Nat} {l : List (Nat × Value)} {d : List Deferred} {K : Act → World → Prop}

/-! ### Maps of integers -/
theorem op_makeMap {i : Nat} {o : Oper} {t : TypeId} (ho : ops[i]? = some o) (hg : Region.wanted o (yl ops b n l) = true) (hop : o.op = .makeMap t none)
    (k : ∀ (bk : Nat) (w' : World), w.heap.size ≤ bk → Ext w w' → Has w' bk (.map #[] 0) → K (Fr b n (putL o (.map (some bk)) l) d) w') : wpOp P ops Q i K (Fr b n l d) w := by
  refine op_val (v := .map (some w.heap.size)) (w' := w.alloc (.map #[] 0)) ho hg ?_ (k _ _ (Nat.le_refl _) (G_alloc w _) (Has_alloc w _))
  unfold execOp
  simp [hop, Instr.makeMap, newObj, Sem.run_bind, Sem.run, Result.andThen]
theorem key_int {kt : TypeId} (hk : P.underlying kt = some (.int .i64)) (e : Bool) (m : Nat) (key : Int) : (Instr.checkKey e (m + 1) kt (.int .i64 key)).run P w = .ok () w := by
  unfold Instr.checkKey
  rw [Sem.run_bind, run_underlying hk]
  rfl
theorem op_insert {i : Nat} {o : Oper} {t : TypeId} {m kx vx : Operand} (ho : ops[i]? = some o) (hg : Region.wanted o (yl ops b n l) = true) (hop : o.op = .insert t m kx vx) (kt et : TypeId) (ht : P.underlying t = some (.map kt et)) (hk : P.underlying kt = some (.int .i64))
    {bk : Nat} (hm : ev b n l m = .map (some bk)) (key : Int) (hkx : ev b n l kx = .int .i64 key) (v : Value) (hv : ev b n l vx = v) {es : Array MapEntry} {clock : Nat} (hb : Has w bk (.map es clock)) (hf : Instr.findNow (.int .i64) (.int .i64 key) es.toList 0 = some none)
    (es' : Array MapEntry) (he : es.push { key := .int .i64 key, val := v, born := clock } = es') (c' : Nat) (hc : clock + 1 = c')
    (k : ∀ w', G w w' (some bk) → Has w' bk (.map es' c') → K (Fr b n (putL o undef l) d) w') : wpOp P ops Q i K (Fr b n l d) w := by
  subst he hc
  have hb' : w.heap[bk]? = some (.map es clock) := hb
  have hfk := MapKept.run_findKey (P := P) (w := w) hk hf
  refine op_skip ho hg (w' := { w with heap := w.heap.setIfInBounds bk (.map (es.push { key := .int .i64 key, val := v, born := clock }) (clock + 1)) }) ?_ (k _ (G_setObj w bk _) (Has_setObj _ hb))
  have hck : (Instr.checkKey false 10000 kt (.int .i64 key)).run P w = .ok () w := key_int hk false 9999 key
  unfold execOp
  simp only [hop, hm, hkx, hv, Instr.mapUpdate, Sem.run_bind, run_underlying ht, Result.andThen_ok]
  have hg : (getObj bk).run P w = .ok (.map es clock) w := by simp [getObj, Sem.run, Result.andThen, hb']
  have hs : ∀ o', (setObj bk o').run P w = .ok () { w with heap := w.heap.setIfInBounds bk o' } := fun o' => by simp [setObj, Sem.run, Result.andThen, hb']
  simp [hg, hck, hfk, hs, Sem.run_bind]
theorem run_lookup {o : Oper} {t : TypeId} {m kx : Operand} (hop : o.op = .lookup t m kx true) (kt et : TypeId) (ht : P.underlying t = some (.map kt et)) (hk : P.underlying kt = some (.int .i64)) (he : P.underlying et = some (.int .i64))
    {bk : Nat} (hm : ev b n l m = .map (some bk)) (key : Int) (hkx : ev b n l kx = .int .i64 key) {es : Array MapEntry} {clock : Nat} (hb : Has w bk (.map es clock)) (r : Option (Nat × Value)) (hf : Instr.findNow (.int .i64) (.int .i64 key) es.toList 0 = some r)
    (z : Value) (hz : (P.info? et).map (·.zero) = some (some z)) (v : Value) (ok : Bool) (hv : (match r with | some (_, v) => (v, true) | none => (z, false)) = (v, ok)) :
    (execOp (ev b n l) o).run P w = .ok (.value (.tuple #[v, .bool ok])) w := by
  have hb' : w.heap[bk]? = some (.map es clock) := hb
  have hfk := MapKept.run_findKey (P := P) (w := w) hk hf
  have hck : ∀ e, (Instr.checkKey e 10000 kt (.int .i64 key)).run P w = .ok () w := fun e => key_int hk e 9999 key
  have hzr : (zeroValue et).run P w = .ok z w := by
    cases hi : P.info? et with
    | none => simp [hi] at hz
    | some i => simp [hi] at hz; simp [zeroValue, typeInfo, Sem.run_bind, hi, hz]
  unfold execOp
  simp only [hop, hm, hkx, Instr.lookup, Sem.run_bind, run_underlying ht, Result.andThen_ok]
  have hg : (getObj bk).run P w = .ok (.map es clock) w := by simp [getObj, Sem.run, Result.andThen, hb']
  cases r with
  | none =>
    injection hv with h1 h2; subst h1 h2
    simp [hg, hck, hfk, hzr, Sem.run_bind]
  | some q =>
    obtain ⟨j, u⟩ := q
    injection hv with h1 h2; subst h1 h2
    simp [hg, hck, hfk, Sem.run_bind]
theorem op_lookup {i : Nat} {o : Oper} {t : TypeId} {m kx : Operand} (ho : ops[i]? = some o) (hg : Region.wanted o (yl ops b n l) = true) (hop : o.op = .lookup t m kx true) (kt et : TypeId) (ht : P.underlying t = some (.map kt et)) (hk : P.underlying kt = some (.int .i64)) (he : P.underlying et = some (.int .i64))
    {bk : Nat} (hm : ev b n l m = .map (some bk)) (key : Int) (hkx : ev b n l kx = .int .i64 key) {es : Array MapEntry} {clock : Nat} (hb : Has w bk (.map es clock)) (r : Option (Nat × Value)) (hf : Instr.findNow (.int .i64) (.int .i64 key) es.toList 0 = some r)
    (z : Value) (hz : (P.info? et).map (·.zero) = some (some z)) (v : Value) (ok : Bool) (hv : (match r with | some (_, v) => (v, true) | none => (z, false)) = (v, ok)) (k : K (Fr b n (putL o (.tuple #[v, .bool ok]) l) d) w) : wpOp P ops Q i K (Fr b n l d) w :=
  op_val ho hg (run_lookup hop kt et ht hk he hm key hkx hb r hf z hz v ok hv) k

/-! ### Deferred calls -/
theorem op_defer {i : Nat} {o : Oper} (D : Deferred) (ho : ops[i]? = some o) (hg : Region.wanted o (yl ops b n l) = true) (hr : (execOp (ev b n l) o).run P w = .ok (.defer D) w)
    (k : K (Fr b n (putL o undef l) (D :: d)) w) : wpOp P ops Q i K (Fr b n l d) w := by
  simp only [wpOp, ho]
  rw [yielded_Fr, if_pos hg]
  refine .inl ?_
  unfold Oper.wp
  rw [eval_Fr, hr]
  rw [Oper.upon_defer]
  have e : ({ Fr b n l d with defers := D :: (Fr b n l d).defers } : Act) = Fr b n l (D :: d) := rfl
  rw [e, put_putL]
  exact k
end
theorem enter_frame {fn : Func} {vs : List Value} (n : Nat) (hn : fn.ntmps = n) (hle : vs.length ≤ n) :
    ({ tmps := vs.toArray ++ Array.replicate (fn.ntmps - vs.toArray.size) undef, defers := [] } : Act) = Fr (fun _ => undef) n (enterL vs 0) [] := by
  unfold Fr
  congr 1
  apply Array.ext
  · simp [hn]; omega
  · intro j h1 h2
    simp only [Array.getElem_ofFn, get_enterL, Nat.zero_le, true_and, Nat.sub_zero]
    by_cases hj : j < vs.length
    · rw [dif_pos hj, Array.getElem_append_left (by simpa using hj)]
      simp
    · rw [dif_neg hj, Array.getElem_append_right (by simpa using hj)]
      simp
/-- A piece of code that does not end in a panic. -/
theorem noPanic {P : Program} {c : Code} {Q : Exit → Act → World → Prop} {a : Act} {w : World} (h : c.wp P (fun e a' w' => match e with | .normal => Q .normal a' w' | _ => False) a w) : c.wp P Q a w :=
  Code.wp_mono (fun e a' w' q => by cases e <;> first | exact q | exact q.elim) h
theorem enterDef {P : Program} {f : FuncId} {fn : Func} {c : Code} {vs : List Value} {w : World} {K : Ending → World → Prop} (n : Nat)
    (hf : P.funcs[f]? = some fn) (hb : fn.body = some c) (hn : fn.ntmps = n) (hle : vs.length ≤ n)
    (h : c.wp P (bodyPostD P fn K) (Fr (fun _ => undef) n (enterL vs 0) []) w) : Calls P f vs.toArray w K := by
  refine calls_of_wp_defers hf hb ?_
  rw [enter_frame n hn hle]
  exact h
theorem enterD {P : Program} {f : FuncId} {fn : Func} {c : Code} {vs : List Value} {w : World} {u : FrameMode} {K : Ending → World → Prop} (n : Nat)
    (hf : P.funcs[f]? = some fn) (hb : fn.body = some c) (hn : fn.ntmps = n) (hle : vs.length ≤ n)
    (h : c.wp P (bodyPost P fn K) (Fr (fun _ => undef) n (enterL vs 0) []) w) : CallsD P f vs.toArray u w (fun e u' w' => u' = u ∧ K e w') := by
  refine callsD_of_wp hf hb ?_
  rw [enter_frame n hn hle]
  exact h
section
variable {P : Program} {fn : Func} {K : Ending → World → Prop} {b : Nat → Value} {n : Nat} {l : List (Nat × Value)} {w : World} {v : Value}
theorem retD (hr : (results fn (Fr b n l []).tmps).run P w = .ok v w) (h : K (.returned v) w) : bodyPostD P fn K .ret (Fr b n l []) w := ⟨v, hr, h⟩
theorem retD_n (hr : (results fn (Fr b n l []).tmps).run P w = .ok v w) (h : K (.returned v) w) : bodyPostD P fn K .normal (Fr b n l []) w := ⟨v, hr, h⟩
/-- One deferred call, of a function without results of its own. -/
theorem retD1_n {f : FuncId} {args : Array Value} (h0 : fn.results = #[]) (hi : (invoke (.fn (.func f) #[]) args).run P w = .ok (.enter f args) w)
    (h : CallsD P f args .returning w (fun e u' w' => u' = .returning ∧ (∃ v, e = .returned v) ∧ K (.returned (.tuple #[])) w')) :
    bodyPostD P fn K .normal (Fr b n l [{ target := .fn (.func f) #[], args := args }]) w := by
  show Leaves P fn (Fr b n l [{ target := .fn (.func f) #[], args := args }]).tmps K [{ target := .fn (.func f) #[], args := args }] .returning w
  refine leaves_cons (by simp) hi (h.mono ?_)
  rintro e u' w' ⟨rfl, ⟨v, rfl⟩, hK⟩
  exact ⟨.tuple #[], res0 h0, hK⟩
end
end Go.Gx

namespace Go.Show
/-- A strings.Builder that holds a text and has not been read. -/
def Bd (w : World) (B b : Nat) (s : ByteArray) : Prop :=
  ∃ p v, Gx.Has w b (.cells #[p, v] 33) ∧ w.ownsRow B 5 1 v s.size (Lib.strCells s) ∧ B ≤ b ∧ (p = .pointer none ∨ p = .pointer (some ⟨b, 0, none⟩))
theorem byteCells_eq (s : ByteArray) : Lib.byteCells s.data.toList = Lib.strCells s := rfl
theorem Bd.builder {w : World} {B b : Nat} {s : ByteArray} (h : Bd w B b s) : Lib.IsBuilder 33 5 B b (Lib.byteCells s.data.toList) w := by
  obtain ⟨p, v, hb, ho, hB, hp⟩ := h
  have hne : v.ownBlock ≠ some b := fun e => Gx.own_ne ho hb (by decide) b e rfl
  have hl : (Lib.byteCells s.data.toList).length = s.size := by rw [Lib.byteCells_length]; rfl
  have ho' : w.ownsRow B 5 1 v (Lib.byteCells s.data.toList).length (Lib.byteCells s.data.toList) := by rw [hl]; exact ho
  rcases hp with rfl | rfl
  · exact .inl ⟨hB, v, hb, ho', hne⟩
  · exact .inr ⟨hB, v, hb, ho', hne⟩
theorem Bd.ext {w w' : World} {B b : Nat} {s : ByteArray} (h : Bd w B b s) (x : Gx.Ext w w') : Bd w' B b s := by
  obtain ⟨p, v, hb, ho, hB, hp⟩ := h
  exact ⟨p, v, hb.ext x, Gx.own_ext ho x, hB, hp⟩
theorem Bd.updO {w w' : World} {B b j : Nat} {s : ByteArray} {o : Obj} (h : Bd w B b s) (k : Gx.G w w' (some j)) (hj : Gx.Has w j o) (ho : ∀ cs fr, o ≠ .cells cs 5 fr) (hne : j ≠ b) : Bd w' B b s := by
  obtain ⟨p, v, hb, hown, hB, hp⟩ := h
  exact ⟨p, v, hb.upd1 k (Ne.symm hne), Gx.own_upd1 hown k (Gx.own_neO hown hj ho), hB, hp⟩
theorem in_yes {least : Int} {k n row : Int} {ops : List ByteArray} {args : List TyP} (h : lvl k < least) : inP least (.mk k n row ops args) = (bO ++ showP (.mk k n row ops args)) ++ bC := by
  unfold inP parB
  rw [if_pos (show lvl (TyP.kind (.mk k n row ops args)) < least from h)]
theorem in_no {least : Int} {k n row : Int} {ops : List ByteArray} {args : List TyP} (h : ¬ lvl k < least) : inP least (.mk k n row ops args) = showP (.mk k n row ops args) := by
  unfold inP parB
  rw [if_neg (show ¬ lvl (TyP.kind (.mk k n row ops args)) < least from h)]
theorem new_builder {w : World} {b : Nat} (h : Gx.Has w b (.cells #[.pointer none, .slice none 0 0] 33)) : Bd w b b e0 := ⟨_, _, h, World.ownsRow_nil w b 5 1, Nat.le_refl _, .inl rfl⟩
theorem in_zero (t : TyP) : inP 0 t = showP t := by
  cases t with
  | mk k n row ops args =>
    refine in_no ?_
    unfold lvl
    split
    · omega
    · split
      · omega
      · split <;> omega
theorem cells_of {w : World} {b m : Nat} {cs : List Value} {t : TypeId} (h : Gx.Has w b (.cells cs.toArray t)) (hm : cs.length = m) : w.cells? 0 ((⟨b, 0, none⟩ : Addr).add (0 * 5)) m = some cs := by
  have hb : w.heap[b]? = some (.cells cs.toArray t) := h
  subst hm
  unfold World.cells?
  rw [if_pos (Nat.zero_le _)]
  have e : (fun i => w.cell? (((⟨b, 0, none⟩ : Addr).add (0 * 5)).add i)) = fun i => cs[i]? := funext fun i => by
    have ha : ((⟨b, 0, none⟩ : Addr).add (0 * 5)).add i = ⟨b, i, none⟩ := by unfold Addr.add; split <;> simp_all
    rw [ha]
    simp [World.cell?, hb]
  rw [e]
  clear h hb e
  induction cs with
  | nil => rfl
  | cons x r ih =>
    rw [List.length_cons, List.range_succ_eq_map, List.mapM_cons, List.mapM_map]
    simp only [List.getElem?_cons_zero, Option.bind_eq_bind, Option.bind_some]
    have : (List.range r.length).mapM ((fun i => (x :: r)[i]?) ∘ Nat.succ) = some r := ih
    rw [this]
    rfl
/-- What stands for a type that is not proper. -/
theorem list_int {w : World} {b : Nat} (h : Gx.Has w b (.cells #[.int .i64 1, .int .i64 0, .int .i64 0, .slice none 0 0, .slice none 0 0] 25)) :
    TyIn w (.mk 4 0 0 [] [.mk 1 0 0 [] []]) (.agg #[.int .i64 4, .int .i64 0, .int .i64 0, .slice none 0 0, .slice (some ⟨b, 0, none⟩) 1 1]) := by
  have i64 : ∀ x : Int, 0 ≤ x → x ≤ 10 → I64 x := fun x h0 h1 => ⟨by omega, by omega⟩
  have e0s : ∀ i, (([] : List ByteArray).getD i e0).size ≤ 1048576 := fun i => by rw [List.getD_nil]; exact Nat.zero_le _
  refine TyIn.mk (A1 := none) (c1 := 0) (A2 := some ⟨b, 0, none⟩) (c2 := 1) (ops := []) (args := [.mk 1 0 0 [] []]) (fun _ => [.int .i64 1, .int .i64 0, .int .i64 0, .slice none 0 0, .slice none 0 0]) (i64 _ (by decide) (by decide)) (i64 _ (by decide) (by decide)) (i64 _ (by decide) (by decide)) (Nat.le_refl _) ⟨by decide, by decide⟩ e0s
    (fun i hi => absurd hi (Nat.not_lt_zero i)) (fun i hi => ?_) (fun i hi => ?_)
  · obtain rfl : i = 0 := by simpa using hi
    exact ⟨_, rfl, cells_of h rfl⟩
  · obtain rfl : i = 0 := by simpa using hi
    exact TyIn.mk (A1 := none) (c1 := 0) (A2 := none) (c2 := 0) (ops := []) (args := []) (fun _ => []) (i64 _ (by decide) (by decide)) (i64 _ (by decide) (by decide)) (i64 _ (by decide) (by decide)) (Nat.le_refl _) ⟨by decide, by decide⟩ e0s
      (fun i hi => absurd hi (Nat.not_lt_zero i)) (fun i hi => absurd hi (Nat.not_lt_zero i)) (fun i hi => absurd hi (Nat.not_lt_zero i))
theorem list_wf : Wf (.mk 4 0 0 [] [.mk 1 0 0 [] []]) := by
  refine .mk (by decide) (fun h => by cases h) (by decide) (fun i hi => ?_)
  obtain rfl : i = 0 := by simpa using hi
  exact .mk (by decide) (fun h => by cases h) (by decide) (fun i hi => absurd hi (Nat.not_lt_zero i))
theorem list_size : (showP (.mk 4 0 0 [] [.mk 1 0 0 [] []])).size ≤ 1099511627776 := by
  rw [show_4 rfl]
  have h := (par_size 2 1 (showP (.mk 1 0 0 [] []))).2
  rw [show_1 rfl] at h
  have e : inP 2 (([.mk 1 0 0 [] []] : List TyP).getD 0 ty0) = parB 2 1 (showP (.mk 1 0 0 [] [])) := rfl
  rw [e, show_1 rfl, ByteArray.size_append]
  have h3 : (⟨#[105, 110, 116]⟩ : ByteArray).size = 3 := rfl
  have h5 : (⟨#[32, 108, 105, 115, 116]⟩ : ByteArray).size = 5 := rfl
  omega
theorem strCells_app (a b : ByteArray) : Lib.strCells (a ++ b) = Lib.strCells a ++ Lib.strCells b := by simp [Lib.strCells, ByteArray.data_append]
theorem own_byte {w : World} {B c : Nat} {v : Value} {s : ByteArray} (h : w.ownsRow B 5 1 v (s.size + 1) (Lib.strCells s ++ [.int .u8 ((c : Nat) : Int)])) (hc : c < 256) : w.ownsRow B 5 1 v (s ++ ⟨#[UInt8.ofNat c]⟩).size (Lib.strCells (s ++ ⟨#[UInt8.ofNat c]⟩)) := by
  have e : (UInt8.ofNat c).toNat = c := by simp [Nat.mod_eq_of_lt hc]
  have e2 : Lib.strCells ⟨#[UInt8.ofNat c]⟩ = [.int .u8 ((c : Nat) : Int)] := by simp [Lib.strCells, e]
  rw [ByteArray.size_append, strCells_app, e2]
  exact h
theorem own_str {w : World} {B : Nat} {v : Value} {s x : ByteArray} (h : w.ownsRow B 5 1 v (s.size + x.size) (Lib.strCells s ++ Lib.strCells x)) : w.ownsRow B 5 1 v (s ++ x).size (Lib.strCells (s ++ x)) := by
  rw [ByteArray.size_append, strCells_app]
  exact h
end Go.Show
namespace Go.Proofs.YtmlmppdffeacdaaDoor
open Go.RowKit
section
variable {w : World} {b : Nat → Value} {n : Nat} {l : List (Nat × Value)}
theorem run_conv1 {o : Oper} {x : Operand} (hop : o.op = .convert 30 48 x) {bk : Nat} (hx : Gx.ev b n l x = .pointer (some ⟨bk, 0, none⟩)) {cs : Array Value} (hb : Gx.Has w bk (.cells cs 33)) (hc : Nat.beq cs.size 2 = true) :
    (execOp (Gx.ev b n l) o).run Tryd.prog w = .ok (.value (.pointer (some ⟨bk, 0, none⟩))) w := by
  have hc := Nat.eq_of_beq_eq_true hc
  obtain ⟨j, hj, hjs⟩ := Option.map_eq_some_iff.1 (show (Tryd.prog.info? 33).map (·.size) = some 2 by kernel_rfl)
  have hsh : w.shape? bk = some (33, cs.size) := by unfold World.shape?; rw [show w.heap[bk]? = _ from hb]
  have h := Lib.run_to_unsafe (P := Tryd.prog) w ⟨bk, 0, none⟩ Tryd.underlying30 Tryd.underlying48 hj (by rw [hjs]; decide) hsh (by rw [hc]; exact Nat.zero_lt_succ 1)
  unfold execOp
  simp [hop, hx, Sem.run_bind, h]
theorem run_conv2 {o : Oper} {x : Operand} (hop : o.op = .convert 48 30 x) {bk : Nat} (hx : Gx.ev b n l x = .pointer (some ⟨bk, 0, none⟩)) {cs : Array Value} (hb : Gx.Has w bk (.cells cs 33)) (hc : Nat.beq cs.size 2 = true) :
    (execOp (Gx.ev b n l) o).run Tryd.prog w = .ok (.value (.pointer (some ⟨bk, 0, none⟩))) w := by
  have hc := Nat.eq_of_beq_eq_true hc
  obtain ⟨j, hj, hjs⟩ := Option.map_eq_some_iff.1 (show (Tryd.prog.info? 33).map (·.size) = some 2 by kernel_rfl)
  have hsh : w.shape? bk = some (33, 2) := by unfold World.shape?; rw [show w.heap[bk]? = _ from hb, ← hc]
  have h := Lib.run_from_unsafe (P := Tryd.prog) w ⟨bk, 0, none⟩ Tryd.underlying48 Tryd.underlying30 hj hsh (by kernel_rfl)
  unfold execOp
  simp [hop, hx, Sem.run_bind, h]
theorem run_neqSelf {o : Oper} {x y : Operand} {t' : TypeId} (hop : o.op = .binOp .neq 30 x y t') {a : Addr} (hx : Gx.ev b n l x = .pointer (some a)) (hy : Gx.ev b n l y = .pointer (some a)) :
    (execOp (Gx.ev b n l) o).run Tryd.prog w = .ok (.value (.bool false)) w := by
  obtain ⟨j, hj, _⟩ := Option.map_eq_some_iff.1 (show (Tryd.prog.info? 33).map (·.size) = some 2 by kernel_rfl)
  have h := Lib.run_neq_ptr_same (P := Tryd.prog) w a Tryd.underlying30 hj
  have hg : eqGuard .neq 30 x y (.pointer (some a)) (.pointer (some a)) = pure () := rfl
  unfold execOp
  simp [hop, hx, hy, hg, Sem.run_bind, h]
theorem run_noEsc {o : Oper} {x : Operand} {t : TypeId} (hop : o.op = .call { callee := .value (.func 21), args := #[x], argTypes := #[t] }) {v : Value} (hx : Gx.ev b n l x = v) :
    (execOp (Gx.ev b n l) o).run Tryd.prog w = .ok (.value v) w := by
  have h := run_callFunc_extern (P := Tryd.prog) (f := 21) Tryd.func21 (by kernel_rfl) (by kernel_rfl) (by kernel_rfl) (e := Extern.AbiNoEscape.same) (by kernel_rfl) #[v] w
  have hf : Gx.ev b n l (.func 21) = .func (.func 21) #[] #[] := rfl
  unfold execOp
  simp [hop, hx, hf, resolve, Deferred.ofValue, invoke, Sem.run_bind, h, Lib.run_noEscape]
end

theorem itoa_c (n : Int) (w : World) (K : Ending → World → Prop) (h0 : 0 ≤ n) (h1 : n ≤ 9223372036854775807) (htab : Lib.TabIs Tryd.prog w "internal/strconv.uint64pow10" .u64 Lib.pow10Tab)
    (hK : ∀ w', Gx.Ext w w' → K (.returned (.string (Show.digB n.toNat))) w') : Calls Tryd.prog 16 #[.int .i64 n] w K := by
  refine (Tryd.strconv_Itoa n (by omega) h1 w htab).mono ?_
  rintro e w' ⟨rfl, k, os, rfl⟩
  rw [Show.itoa_dig h0]
  exact hK _ (Gx.Ext.of_below (Lib.below_grow _ w (Nat.le_refl _) k os))
theorem join_c (A : Option Addr) (ops : List ByteArray) (c : Nat) (w : World) (K : Ending → World → Prop) (hr : Gx.Rd w A ops.length 1 (fun i => [.string (ops.getD i Show.e0)])) (hc : ops.length ≤ c) (hl : ops.length ≤ 1048576) (hz : (Show.joinB ops).size ≤ 140737488355328)
    (hK : ∀ w', Gx.Ext w w' → K (.returned (.string (Show.joinB ops))) w') : Calls Tryd.prog 17 #[.slice A ops.length c, .string ⟨#[44, 32]⟩] w K := by
  by_cases h : ops.length = 0
  · have hn : ops = [] := List.eq_nil_of_length_eq_zero h
    subst hn
    refine (Tryd.strings_Join_none A c ⟨#[44, 32]⟩ w).mono ?_
    rintro e w' ⟨rfl, rfl⟩
    exact hK _ (Gx.Ext.refl _)
  · obtain ⟨a, rfl, h1⟩ := hr 0 (by omega)
    have hb := World.cells?_block h1 (by decide)
    have cell : ∀ j x, ops[j]? = some x → w.cell? (a.add j) = some (.string x) := fun j x hx => by
      have hj := (List.getElem?_eq_some_iff.1 hx).1
      obtain ⟨a', e, k⟩ := hr j hj
      injection e with e
      subst e
      obtain ⟨_, _, hg⟩ := World.cells?_some k
      have := hg 0 (by decide)
      rw [Nat.mul_one] at this
      rw [show (a.add j).add 0 = a.add j from rfl] at this
      rw [this]
      show some (Value.string (ops.getD j Show.e0)) = _
      rw [List.getD_eq_getElem?_getD, hx]
      rfl
    obtain ⟨bk, o, sp⟩ := a
    have hsp : sp = none := by
      cases sp with
      | none => rfl
      | some q =>
        have h0 := cell 0 (ops.getD 0 Show.e0) (by rw [List.getD_eq_getElem?_getD, List.getElem?_eq_getElem (by omega)]; rfl)
        simp [Addr.add, World.cell?] at h0
        split at h0 <;> simp at h0
    subst hsp
    have hblk : bk < w.heap.size := by simpa [Addr.add] using hb
    refine (Tryd.strings_Join bk o c ops ⟨#[44, 32]⟩ w (fun j x hx => ?_) hblk (by omega) hc ?_).mono ?_
    · have := cell j x hx
      rwa [Addr.add_mid] at this
    · have := hz; unfold Show.joinB at this; rwa [Show.size_mk] at this
    · rintro e w' ⟨rfl, hbl⟩
      exact hK _ (Gx.Ext.of_below hbl)

theorem string_c (B b : Nat) (s : ByteArray) (w : World) (K : Ending → World → Prop) (h : Show.Bd w B b s) (hBw : B ≤ w.heap.size) (hK : ∀ w', Gx.Wx 5 B b w w' → K (.returned (.string s)) w') : Calls Tryd.prog 9 #[.pointer (some ⟨b, 0, none⟩)] w K := by
  refine (Tryd.Builder_String_any_k B b s.data.toList w (Lib.IsBuilderF.of h.builder) hBw).mono ?_
  rintro e w' ⟨rfl, _, hb, ho⟩
  refine hK w' ⟨hb.os, hb.tape, hb.output, hb.size, hBw, hb.block, fun k o hk hne hno => ho k o hk (fun q => hne (Option.some.inj q)) hno⟩
end Go.Proofs.YtmlmppdffeacdaaDoor
