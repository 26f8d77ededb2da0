/- A writer's record that holds a text; deferred calls; pieces joined by spaces. -/
import Derived.Test.YtinilkomfggjiaaDoorZk
import Derived.Test.YtinilkomfggjiaaDoorRows
import Derived.Test.YtinilkomfggjiaaDoorGv
import Derived.Test.YtinilkomfggjiaaDoorShelf
import Derived.Test.YtinilkomfggjiaaDoorSynWr
import Derived.Defers
import Derived.DataElems
import Derived.Recover
import Derived.Laws.Externs
import Derived.Lib.Builder
import Derived.Lib.UnsafeStr
import Derived.Lib.AppendIntMem
import Derived.Lib.LaidTab
set_option linter.unusedVariables false
set_option linter.unusedSimpArgs false
namespace Go.Gx
section
variable {P : Program} {Q : Exit → Act → World → Prop} {w : World} {ops : Array Oper} {b : Nat → Value} {n : Nat} {l : List (Nat × Value)} {d : List Deferred} {K : Act → World → Prop}
theorem op_defer {i : Nat} {o : Oper} (D : Deferred) (ho : ops[i]? = some o) (hg : Region.wanted o (yl ops b n l) = true) (hr : (execOp (ev b n l) o).run P w = .ok (.defer D) w)
    (k : K (Fr b n (putL o undef l) (D :: d)) w) : wpOp P ops Q i K (Fr b n l d) w := by
  simp only [wpOp, ho]
  rw [yielded_Fr, if_pos hg]
  refine .inl ?_
  unfold Oper.wp
  rw [eval_Fr, hr]
  rw [Oper.upon_defer]
  have e : ({ Fr b n l d with defers := D :: (Fr b n l d).defers } : Act) = Fr b n l (D :: d) := rfl
  rw [e, put_putL]
  exact k
end
theorem enter_frame {fn : Func} {vs : List Value} (n : Nat) (hn : fn.ntmps = n) (hle : vs.length ≤ n) :
    ({ tmps := vs.toArray ++ Array.replicate (fn.ntmps - vs.toArray.size) undef, defers := [] } : Act) = Fr (fun _ => undef) n (enterL vs 0) [] := by
  unfold Fr
  congr 1
  apply Array.ext
  · simp [hn]; omega
  · intro j h1 h2
    simp only [Array.getElem_ofFn, get_enterL, Nat.zero_le, true_and, Nat.sub_zero]
    by_cases hj : j < vs.length
    · rw [dif_pos hj, Array.getElem_append_left (by simpa using hj)]
      simp
    · rw [dif_neg hj, Array.getElem_append_right (by simpa using hj)]
      simp
theorem noPanic {P : Program} {c : Code} {Q : Exit → Act → World → Prop} {a : Act} {w : World} (h : c.wp P (fun e a' w' => match e with | .normal => Q .normal a' w' | _ => False) a w) : c.wp P Q a w :=
  Code.wp_mono (fun e a' w' q => by cases e <;> first | exact q | exact q.elim) h
theorem enterDef {P : Program} {f : FuncId} {fn : Func} {c : Code} {vs : List Value} {w : World} {K : Ending → World → Prop} (n : Nat)
    (hf : P.funcs[f]? = some fn) (hb : fn.body = some c) (hn : fn.ntmps = n) (hle : vs.length ≤ n)
    (h : c.wp P (bodyPostD P fn K) (Fr (fun _ => undef) n (enterL vs 0) []) w) : Calls P f vs.toArray w K := by
  refine calls_of_wp_defers hf hb ?_
  rw [enter_frame n hn hle]
  exact h
section
variable {P : Program} {fn : Func} {K : Ending → World → Prop} {b : Nat → Value} {n : Nat} {l : List (Nat × Value)} {w : World} {v : Value}
theorem retD (hr : (results fn (Fr b n l []).tmps).run P w = .ok v w) (h : K (.returned v) w) : bodyPostD P fn K .ret (Fr b n l []) w := ⟨v, hr, h⟩
end
section
variable {P : Program} {fn : Func} {K : Ending → World → Prop} {b : Nat → Value} {n : Nat} {l : List (Nat × Value)} {w : World} {v : Value}
theorem retD1 {f : FuncId} {cap args : Array Value} (hi : (invoke (.fn (.func f) cap) #[]).run P w = .ok (.enter f args) w)
    (h : CallsD P f args .returning w (fun e u' w' => e = .returned (.tuple #[]) ∧ u' = .returning ∧ w' = w)) (hr : (results fn (Fr b n l []).tmps).run P w = .ok v w) (hK : K (.returned v) w) :
    bodyPostD P fn K .ret (Fr b n l [{ target := .fn (.func f) cap, args := #[] }]) w := by
  show Leaves P fn (Fr b n l [{ target := .fn (.func f) cap, args := #[] }]).tmps K [{ target := .fn (.func f) cap, args := #[] }] .returning w
  refine leaves_cons (by simp) hi (h.mono ?_)
  rintro e u' w' ⟨rfl, rfl, rfl⟩
  exact ⟨v, hr, hK⟩
end
section
variable {P : Program} {Q : Exit → Act → World → Prop} {w : World} {ops : Array Oper} {b : Nat → Value} {n : Nat} {l : List (Nat × Value)} {d : List Deferred} {K : Act → World → Prop}
theorem op_slice_lo {i : Nat} {o : Oper} {t : TypeId} {x lo : Operand} (ho : ops[i]? = some o) (hg : Region.wanted o (yl ops b n l) = true) (hop : o.op = .slice t x (some lo) none none) (e size : Nat)
    (ht : P.underlying t = some (.slice e)) (hsz : (P.info? e).map (·.size) = some size) (A : Option Addr) (len cap : Nat) (hx : ev b n l x = .slice A len cap)
    (kd : IntKind) (m : Nat) (hh : ev b n l lo = .int kd (m : Int)) (hm : m ≤ len) (r : Nat) (hr : len - m = r)
    (k : K (Fr b n (putL o (.slice (if cap = m then A else A.map (·.add (m * size))) r (cap - m)) l) d) w) : wpOp P ops Q i K (Fr b n l d) w := by
  subst hr
  have he : P.elem t = e := by unfold Program.elem; rw [ht]
  have ht' : P.underlying t = some (.slice (P.elem t)) := by rw [he]; exact ht
  refine op_val ho hg ?_ k
  obtain ⟨inf, hinf, hs⟩ := Option.map_eq_some_iff.1 hsz
  have h := run_slice_l (P := P) w t A len cap ht' kd (m : Int) (by omega) (by omega)
  unfold execOp
  simp [hop, hx, hh, Sem.run_bind, run_sliceAt_slice w t _ _ _ _ ht', h, sizeOf, typeInfo, he, hinf, sliced, hs]
theorem Rd.tail {w : World} {A : Option Addr} {n c : Nat} {row : Nat → List Value} (h : Rd w A (n + 2) 5 row) (hc : n + 2 ≤ c) : Rd w (if c = 2 then A else A.map (·.add (2 * 5))) n 5 (fun i => row (i + 2)) := by
  intro i hi
  obtain ⟨a, ha, hx⟩ := h (i + 2) (by omega)
  rw [if_neg (by omega), ha]
  refine ⟨a.add (2 * 5), rfl, ?_⟩
  rw [Addr.add_add, show 2 * 5 + i * 5 = (i + 2) * 5 by omega]
  exact hx
theorem run_usd {o : Oper} {x : Operand} {t : TypeId} (hop : o.op = .call { callee := .builtin .unsafeSliceData, args := #[x], argTypes := #[t] }) {g m c : Nat} (hx : ev b n l x = .slice (some ⟨g, 0, none⟩) m c) (hc : c ≠ 0) :
    (execOp (ev b n l) o).run P w = .ok (.value (.pointer (some ⟨g, 0, none⟩))) w := by
  have h := Lib.run_unsafeSliceData_row (P := P) (w := w) #[t] o.type ⟨g, 0, none⟩ m c hc
  unfold execOp
  simp [hop, hx, resolve, invoke, builtin, Sem.run_bind, h]
theorem G_freeze (w : World) (g k : Nat) : G w (w.freeze ⟨g, 0, none⟩ k) (some g) := by
  have h : ∀ j, j ≠ g → (w.freeze ⟨g, 0, none⟩ k).heap[j]? = w.heap[j]? := fun j hj => by
    unfold World.freeze
    split
    · rfl
    · simp [Array.getElem?_modify, Ne.symm hj]
  have hs : (w.freeze ⟨g, 0, none⟩ k).heap.size = w.heap.size := by
    unfold World.freeze
    split
    · rfl
    · simp
  refine ⟨?_, ?_, ?_, Nat.le_of_eq hs.symm, fun j _ hn => h j (fun e => hn (by rw [e]))⟩
  all_goals (unfold World.freeze; split <;> rfl)
theorem op_ustr {i : Nat} {o : Oper} {x y : Operand} {pt it : TypeId} (ho : ops[i]? = some o) (hg : Region.wanted o (yl ops b n l) = true)
    (hop : o.op = .call { callee := .builtin .unsafeString, args := #[x, y], argTypes := #[pt, it] }) (e : TypeId) (hp : P.underlying pt = some (.pointer e)) (hc : P.cellsOf e = 1)
    {g cap : Nat} (hx : ev b n l x = .pointer (some ⟨g, 0, none⟩)) (s : ByteArray) (hy : ev b n l y = .int .i64 ((s.size : Nat) : Int)) (h0 : 0 < s.size) {B : Nat}
    (hown : w.ownsRow B e 1 (.slice (some ⟨g, 0, none⟩) s.size cap) s.size (Lib.strCells s)) (h63 : s.size ≤ 9223372036854775807)
    (k : ∀ w', G w w' (Value.slice (some ⟨g, 0, none⟩) s.size cap).ownBlock → K (Fr b n (putL o (.string s) l) d) w') : wpOp P ops Q i K (Fr b n l d) w := by
  have hlen : s.data.toList.length = s.size := rfl
  obtain ⟨_, hx2⟩ := hown
  rcases hx2 with ⟨hv, _⟩ | ⟨g', cap', cur, hv, hb, hg', hnc, hcm, hsz, htk⟩
  · cases hv
  · cases hv
    have hcell : ∀ j z, s.data.toList[j]? = some z → w.cell? ((⟨g, 0, none⟩ : Addr).add j) = some (.int .u8 z.toNat) := fun j z hz => by
      have hj := (List.getElem?_eq_some_iff.1 hz).1
      have ha : (⟨g, 0, none⟩ : Addr).add j = ⟨g, j, none⟩ := by unfold Addr.add; split <;> simp_all
      rw [ha]
      have h1 : (cur.toList.take (s.size * 1))[j]? = some (.int .u8 z.toNat) := by rw [htk]; simp [Lib.strCells, hz]
      rw [List.getElem?_take, if_pos (by omega), Array.getElem?_toList] at h1
      unfold World.cell?
      simp only [hg']
      exact h1
    have h := Lib.run_unsafeString_row (P := P) w pt it o.type e hp hc g cur.size (by simp [World.shape?, hg']) s.data.toList (fun e => by rw [e] at hlen; simp at hlen; omega) (by rw [hlen]; omega) (by rw [hlen]; exact h63) hcell
    have hs : (⟨s.data.toList.toArray⟩ : ByteArray) = s := rfl
    rw [hs, hlen] at h
    refine op_val ho hg ?_ (k _ (G_freeze w g s.size))
    unfold execOp
    simp [hop, hx, hy, resolve, invoke, builtin, Sem.run_bind, h]
end
end Go.Gx
namespace Go.Syn
open Go.Lex
def Bd (w : World) (B b : Nat) (s : ByteArray) : Prop :=
  ∃ p v, Gx.Has w b (.cells #[p, v] 47) ∧ w.ownsRow B 5 1 v s.size (Lib.strCells s) ∧ B ≤ b ∧ (p = .pointer none ∨ p = .pointer (some ⟨b, 0, none⟩))
theorem Bd.ext {w w' : World} {B b : Nat} {s : ByteArray} (h : Bd w B b s) (x : Gx.Ext w w') : Bd w' B b s := by
  obtain ⟨p, v, hb, ho, hB, hp⟩ := h
  exact ⟨p, v, hb.ext x, Gx.own_ext ho x, hB, hp⟩
theorem Bd.updO {w w' : World} {B b j : Nat} {s : ByteArray} {o : Obj} (h : Bd w B b s) (k : Gx.G w w' (some j)) (hj : Gx.Has w j o) (ho : ∀ cs fr, o ≠ .cells cs 5 fr) (hne : j ≠ b) : Bd w' B b s := by
  obtain ⟨p, v, hb, hown, hB, hp⟩ := h
  exact ⟨p, v, hb.upd1 k (Ne.symm hne), Gx.own_upd1 hown k (Gx.own_neO hown hj ho), hB, hp⟩
theorem new_builder {w : World} {b : Nat} (h : Gx.Has w b (.cells #[.pointer none, .slice none 0 0] 47)) : Bd w b b Z.E := ⟨_, _, h, World.ownsRow_nil w b 5 1, Nat.le_refl _, .inl rfl⟩
theorem strCells_app (a b : ByteArray) : Lib.strCells (a ++ b) = Lib.strCells a ++ Lib.strCells b := by simp [Lib.strCells, ByteArray.data_append]
theorem own_byte {w : World} {B c : Nat} {v : Value} {s : ByteArray} (h : w.ownsRow B 5 1 v (s.size + 1) (Lib.strCells s ++ [.int .u8 ((c : Nat) : Int)])) (hc : c < 256) : w.ownsRow B 5 1 v (s ++ ⟨#[UInt8.ofNat c]⟩).size (Lib.strCells (s ++ ⟨#[UInt8.ofNat c]⟩)) := by
  have e : (UInt8.ofNat c).toNat = c := by simp [Nat.mod_eq_of_lt hc]
  have e2 : Lib.strCells ⟨#[UInt8.ofNat c]⟩ = [.int .u8 ((c : Nat) : Int)] := by simp [Lib.strCells, e]
  rw [ByteArray.size_append, strCells_app, e2]
  exact h
theorem own_str {w : World} {B : Nat} {v : Value} {s x : ByteArray} (h : w.ownsRow B 5 1 v (s.size + x.size) (Lib.strCells s ++ Lib.strCells x)) : w.ownsRow B 5 1 v (s ++ x).size (Lib.strCells (s ++ x)) := by
  rw [ByteArray.size_append, strCells_app]
  exact h
def J (x p : ByteArray) : ByteArray := (if x.size > 0 then x ++ Z.k3 else x) ++ p
def putJ (x : ByteArray) (ps : List ByteArray) : ByteArray := ps.foldl J x
def psV (ps : List ByteArray) : Array Value := (ps.map Value.string).toArray
theorem J_pos {x p : ByteArray} (h : 0 < p.size) : 0 < (J x p).size := by unfold J; rw [ByteArray.size_append]; omega
theorem J_J {x a b : ByteArray} (h : 0 < a.size) : J (J x a) b = J x ((a ++ Z.k3) ++ b) := by
  rw [J, if_pos (J_pos h)]
  unfold J
  simp only [Show.app_assoc]
theorem J_size (x p : ByteArray) : (J x p).size ≤ x.size + 1 + p.size ∧ p.size ≤ (J x p).size ∧ x.size ≤ (J x p).size := by
  unfold J
  split <;> simp only [ByteArray.size_append, lz1] <;> omega
theorem J_ge (x p : ByteArray) : x.size + p.size ≤ (J x p).size := by
  unfold J
  split <;> simp only [ByteArray.size_append, lz1] <;> omega
def szs : List ByteArray → Nat
  | [] => 0
  | p :: r => p.size + 1 + szs r
theorem putJ_bd (ps : List ByteArray) : ∀ x : ByteArray, (putJ x ps).size ≤ x.size + szs ps := by
  induction ps with
  | nil => exact fun x => Nat.le_refl _
  | cons p r ih =>
    intro x
    have h1 := ih (J x p)
    have h2 := (J_size x p).1
    show (putJ (J x p) r).size ≤ x.size + (p.size + 1 + szs r)
    omega
def Op5 (t : Nd) : Prop := t.k = 18 → (t.nm = Z.k8 ∨ t.nm = Z.k17 ∨ t.nm = Z.k10 ∨ t.nm = Z.k5 ∨ t.nm = Z.k6)
theorem lvl_nn (t : Nd) : 0 ≤ lvl t := by
  unfold lvl
  repeat' split
  all_goals omega
theorem inT0 (t : Nd) (s : ByteArray) : inT 0 t s = s := by
  unfold inT
  rw [if_neg (by have := lvl_nn t; omega)]
theorem Wr.op5 {t : Nd} {s : ByteArray} (h : Wr t s) : Op5 t := by
  intro k
  cases h <;> first | (cases k; done) | assumption
theorem Wr.pos {t : Nd} {s : ByteArray} (h : Wr t s) : 0 < s.size := by
  induction h with
  | eint a nm n h1 h2 => exact (intT_le h1 h2).1
  | ebool => split <;> decide
  | evar _ _ _ h => exact h
  | eop a nm n x y sx sy hn wx wy ix iy =>
    have := (opT_le (nm := nm) (x := x) (y := y) (sx := sx) (sy := sy) (by rcases hn with rfl | rfl | rfl | rfl | rfl <;> decide)).2
    omega
  | ehandle => rw [ByteArray.size_append]; simp only [lz2]; omega
  | _ => first | decide | (simp only [ByteArray.size_append, lz1, lz2, lz3, lz4, lz5, lz6, lz7, lz8]; omega)
def joinS (p : ByteArray) : List ByteArray → ByteArray
  | [] => p
  | q :: r => joinS ((p ++ Z.k3) ++ q) r
theorem putJ_join {x : ByteArray} (ps : List ByteArray) : ∀ {p : ByteArray}, 0 < p.size → putJ x (p :: ps) = J x (joinS p ps) := by
  induction ps with
  | nil => exact fun _ => rfl
  | cons q r ih =>
    intro p h
    have e : putJ x (p :: q :: r) = putJ x (((p ++ Z.k3) ++ q) :: r) := by
      show putJ (J (J x p) q) r = putJ (J x ((p ++ Z.k3) ++ q)) r
      rw [J_J h]
    rw [e]
    exact ih (by simp only [ByteArray.size_append]; omega)
theorem J_nil (p : ByteArray) : J Z.E p = p := by
  unfold J
  rw [if_neg (by decide)]
  exact bytes_ext (by simp [ByteArray.toList_eq])
theorem putJ_succ (x : ByteArray) (ps : List ByteArray) (i : Nat) (h : i < ps.length) : putJ x (ps.take (i + 1)) = J (putJ x (ps.take i)) (ps.getD i Z.E) := by
  unfold putJ
  rw [← List.take_append_getElem h, List.foldl_append, List.getD_eq_getElem?_getD, List.getElem?_eq_getElem h]
  rfl
theorem putJ_grow (ps : List ByteArray) : ∀ x : ByteArray, x.size ≤ (putJ x ps).size := by
  induction ps with
  | nil => exact fun x => Nat.le_refl _
  | cons p r ih => exact fun x => Nat.le_trans (J_size x p).2.2 (ih (J x p))
theorem putJ_le (x : ByteArray) (ps : List ByteArray) (i : Nat) : (putJ x (ps.take i)).size ≤ (putJ x ps).size := by
  have h := putJ_grow (ps.drop i) (putJ x (ps.take i))
  have e : putJ (putJ x (ps.take i)) (ps.drop i) = putJ x ps := by unfold putJ; rw [← List.foldl_append, List.take_append_drop]
  rwa [e] at h
theorem psV_at (ps : List ByteArray) (i : Nat) (h : i < ps.length) : (psV ps)[i]? = some (.string (ps.getD i Z.E)) := by
  unfold psV
  rw [List.getElem?_toArray, List.getElem?_map, List.getD_eq_getElem?_getD, List.getElem?_eq_getElem h]
  rfl
end Go.Syn
namespace Go.Proofs.YtinilkomfggjiaaDoor
open Go.RowKit
section
variable {w : World} {b : Nat → Value} {n : Nat} {l : List (Nat × Value)}
theorem run_conv1 {o : Oper} {x : Operand} (hop : o.op = .convert 42 96 x) {bk : Nat} (hx : Gx.ev b n l x = .pointer (some ⟨bk, 0, none⟩)) {cs : Array Value} (hb : Gx.Has w bk (.cells cs 47)) (hc : Nat.beq cs.size 2 = true) :
    (execOp (Gx.ev b n l) o).run Tryd.prog w = .ok (.value (.pointer (some ⟨bk, 0, none⟩))) w := by
  have hc := Nat.eq_of_beq_eq_true hc
  obtain ⟨j, hj, hjs⟩ := Option.map_eq_some_iff.1 (show (Tryd.prog.info? 45).map (·.size) = some 2 by kernel_rfl)
  have hsh : w.shape? bk = some (47, cs.size) := by unfold World.shape?; rw [show w.heap[bk]? = _ from hb]
  have h := Lib.run_to_unsafe (P := Tryd.prog) w ⟨bk, 0, none⟩ Tryd.underlying42 Tryd.underlying96 hj (by rw [hjs]; decide) hsh (by rw [hc]; exact Nat.zero_lt_succ 1)
  unfold execOp
  simp [hop, hx, Sem.run_bind, h]
theorem run_conv2 {o : Oper} {x : Operand} (hop : o.op = .convert 96 42 x) {bk : Nat} (hx : Gx.ev b n l x = .pointer (some ⟨bk, 0, none⟩)) {cs : Array Value} (hb : Gx.Has w bk (.cells cs 47)) (hc : Nat.beq cs.size 2 = true) :
    (execOp (Gx.ev b n l) o).run Tryd.prog w = .ok (.value (.pointer (some ⟨bk, 0, none⟩))) w := by
  have hc := Nat.eq_of_beq_eq_true hc
  obtain ⟨j, hj, hjs⟩ := Option.map_eq_some_iff.1 (show (Tryd.prog.info? 45).map (·.size) = some 2 by kernel_rfl)
  have hsh : w.shape? bk = some (47, 2) := by unfold World.shape?; rw [show w.heap[bk]? = _ from hb, ← hc]
  have h := Lib.run_from_unsafe (P := Tryd.prog) w ⟨bk, 0, none⟩ Tryd.underlying96 Tryd.underlying42 hj hsh (by kernel_rfl)
  unfold execOp
  simp [hop, hx, Sem.run_bind, h]
theorem run_neqSelf {o : Oper} {x y : Operand} {t' : TypeId} (hop : o.op = .binOp .neq 42 x y t') {a : Addr} (hx : Gx.ev b n l x = .pointer (some a)) (hy : Gx.ev b n l y = .pointer (some a)) :
    (execOp (Gx.ev b n l) o).run Tryd.prog w = .ok (.value (.bool false)) w := by
  obtain ⟨j, hj, _⟩ := Option.map_eq_some_iff.1 (show (Tryd.prog.info? 45).map (·.size) = some 2 by kernel_rfl)
  have h := Lib.run_neq_ptr_same (P := Tryd.prog) w a Tryd.underlying42 hj
  have hg : eqGuard .neq 42 x y (.pointer (some a)) (.pointer (some a)) = pure () := rfl
  unfold execOp
  simp [hop, hx, hy, hg, Sem.run_bind, h]
theorem run_noEsc {o : Oper} {x : Operand} {t : TypeId} (hop : o.op = .call { callee := .value (.func 107), args := #[x], argTypes := #[t] }) {v : Value} (hx : Gx.ev b n l x = v) :
    (execOp (Gx.ev b n l) o).run Tryd.prog w = .ok (.value v) w := by
  have h := run_callFunc_extern (P := Tryd.prog) (f := 107) Tryd.func107 (by kernel_rfl) (by kernel_rfl) (by kernel_rfl) (e := Extern.AbiNoEscape.same) (by kernel_rfl) #[v] w
  have hf : Gx.ev b n l (.func 107) = .func (.func 107) #[] #[] := rfl
  unfold execOp
  simp [hop, hx, hf, resolve, Deferred.ofValue, invoke, Sem.run_bind, h, Lib.run_noEscape]
end
theorem itoa_c (n : Int) (w : World) (K : Ending → World → Prop) (h0 : 0 ≤ n) (h1 : n ≤ 9223372036854775807) (htab : Lib.TabIs Tryd.prog w "internal/strconv.uint64pow10" .u64 Lib.pow10Tab)
    (hK : ∀ w', Gx.Ext w w' → K (.returned (.string (Show.digB n.toNat))) w') : Calls Tryd.prog 67 #[.int .i64 n] w K := by
  refine (Tryd.strconv_Itoa n (by omega) h1 w htab).mono ?_
  rintro e w' ⟨rfl, k, os, rfl⟩
  rw [Show.itoa_dig h0]
  exact hK _ (Gx.Ext.of_below (Lib.below_grow _ w (Nat.le_refl _) k os))
theorem run_index2 {b : Nat → Value} {n : Nat} {l : List (Nat × Value)} {w : World} {o : Oper} {x y : Operand} (hop : o.op = .index 76 x y) (u v : ByteArray) (hx : Gx.ev b n l x = .agg #[.string u, .string v]) (m : Int) (hy : Gx.ev b n l y = .int .i64 m) (hm : m = 0 ∨ m = 1) :
    (execOp (Gx.ev b n l) o).run Tryd.prog w = .ok (.value (.string (if m = 1 then v else u))) w := by
  rcases hm with rfl | rfl
  · have h : (Instr.index 76 (.agg #[.string u, .string v]) (.int .i64 0)).run Tryd.prog w = .ok (.string u) w := by kernel_rfl
    unfold execOp
    simp [hop, hx, hy, Sem.run_bind, h]
  · have h : (Instr.index 76 (.agg #[.string u, .string v]) (.int .i64 1)).run Tryd.prog w = .ok (.string v) w := by kernel_rfl
    unfold execOp
    simp [hop, hx, hy, Sem.run_bind, h]
theorem catch_idle (p : Addr) (w : World) : CallsD Tryd.prog 15 #[.pointer (some p)] .returning w fun e u' w' => e = .returned (.tuple #[]) ∧ u' = .returning ∧ w' = w := by
  refine callsD_of_wpS Tryd.func15 rfl fun c₀ cs hu => ?_
  apply wpS_seq
  apply wpS_region
  simp [wpOpsS, go_sem, recoverD, hu, Tryd.ntmps15, Exit.thenS]
  refine wpS_cond (t := false) (by simp [Act.eval, Array.replicate]) ?_
  simp only [Bool.false_eq_true, if_false]
  refine wpS_of_wp (wp_skip ?_)
  cases c₀
  simp_all [bodyPostS, results, Tryd.results15]
end Go.Proofs.YtinilkomfggjiaaDoor
