/- The steps once more, under short names: what the kernel computes is left out of the text. -/
import Derived.Test.YtinilkomfggjiaaDoorGv
set_option linter.unusedVariables false
set_option linter.unusedSimpArgs false
namespace Go.Z
abbrev B (l : List UInt8) : ByteArray := ⟨l.toArray⟩
abbrev E : ByteArray := ⟨#[]⟩
abbrev n (x : Nat) : Value := .int .i64 (x : Int)
abbrev P (b o : Nat) : Value := .pointer (some ⟨b, o, none⟩)
theorem bd (l : List UInt8) : (B l).data.toList = l := rfl
theorem ed : E.data.toList = [] := rfl
section
variable {P : Program} {Q : Exit → Act → World → Prop} {w : World} {ops : Array Oper} {b : Nat → Value} {n : Nat} {l : List (Nat × Value)} {d : List Deferred}
theorem zl (l : List UInt8) : (⟨l.toArray⟩ : ByteArray).size = l.length := rfl
theorem p {all : List Nat} (is js : List Nat) (new : List (Nat × Value)) (k : wpOps P ops Q js (Gx.Fr b n (new ++ l) d) w) (hs : is ++ js = all := by rfl) (h : Gx.runIx P ops b n is l w = some (new ++ l, w) := by kernel_rfl) :
    wpOps P ops Q all (Gx.Fr b n l d) w := Gx.pure is js new hs h k
theorem s {id : Nat} {y : Code} (new : List (Nat × Value)) (k : y.wp P Q (Gx.Fr b n (new ++ l) d) w) (h : Gx.runIx P ops b n (List.range ops.size) l w = some (new ++ l, w) := by kernel_rfl) : (Code.seq (.region id ops false) y).wp P Q (Gx.Fr b n l d) w := Gx.seq_run new h k
theorem sf {id : Nat} {c : Operand} {x y : Code} (new : List (Nat × Value)) (k : y.wp P Q (Gx.Fr b n (new ++ l) d) w) (h : Gx.runIx P ops b n (List.range ops.size) l w = some (new ++ l, w) := by kernel_rfl) (hc : Gx.ev b n (new ++ l) c = .bool false := by kernel_rfl) :
    (Code.seq (.region id ops false) (.cond c x y)).wp P Q (Gx.Fr b n l d) w := Gx.seq_run new h (Gx.cond_f hc k)
theorem st {id : Nat} {c : Operand} {x y : Code} (new : List (Nat × Value)) (k : x.wp P Q (Gx.Fr b n (new ++ l) d) w) (h : Gx.runIx P ops b n (List.range ops.size) l w = some (new ++ l, w) := by kernel_rfl) (hc : Gx.ev b n (new ++ l) c = .bool true := by kernel_rfl) :
    (Code.seq (.region id ops false) (.cond c x y)).wp P Q (Gx.Fr b n l d) w := Gx.seq_run new h (Gx.cond_t hc k)
theorem u {id : Nat} (new : List (Nat × Value)) (k : Q .normal (Gx.Fr b n (new ++ l) d) w) (h : Gx.runIx P ops b n (List.range ops.size) l w = some (new ++ l, w) := by kernel_rfl) : (Code.region id ops false).wp P Q (Gx.Fr b n l d) w := Gx.reg_run new h k
theorem r {id : Nat} {y : Code} {a : Act} (is : List Nat) (h : wpOps P ops (Exit.then (y.wp P Q) Q) is a w) (hi : List.range ops.size = is := by kernel_rfl) : (Code.seq (.region id ops false) y).wp P Q a w := Gx.seq_reg is hi h
theorem g {id : Nat} {a : Act} (is : List Nat) (h : wpOps P ops Q is a w) (hi : List.range ops.size = is := by kernel_rfl) : (Code.region id ops false).wp P Q a w := Gx.reg is hi h
theorem c {c : Operand} {x y : Code} (T : Bool) (h1 : T = true → x.wp P Q (Gx.Fr b n l d) w) (h2 : T = false → y.wp P Q (Gx.Fr b n l d) w) (hc : Gx.ev b n l c = .bool T := by kernel_rfl) : (Code.cond c x y).wp P Q (Gx.Fr b n l d) w := Gx.cond T hc h1 h2
theorem ct {c : Operand} {x y : Code} (h : x.wp P Q (Gx.Fr b n l d) w) (hc : Gx.ev b n l c = .bool true := by kernel_rfl) : (Code.cond c x y).wp P Q (Gx.Fr b n l d) w := Gx.cond_t hc h
theorem cf {c : Operand} {x y : Code} (h : y.wp P Q (Gx.Fr b n l d) w) (hc : Gx.ev b n l c = .bool false := by kernel_rfl) : (Code.cond c x y).wp P Q (Gx.Fr b n l d) w := Gx.cond_f hc h
theorem e {N : Act → World → Prop} {a : Act} (h : N a w) : wpOps P ops (Exit.then N Q) [] a w := h
theorem x {N : Act → World → Prop} {a : Act} (h : N a w) : Exit.then N Q .normal a w := h
section
variable {i : Nat} {js : List Nat} {o : Oper}
theorem L {t : TypeId} {x : Operand} {bk : Nat} (off : Nat) (v : Value) {cs : Array Value} {e : TypeId} {fr : Nat × Nat} (hb : Gx.Has w bk (.cells cs e fr)) (k : wpOps P ops Q js (Gx.Fr b n (Gx.putL o v l) d) w)
    (ho : ops[i]? = some o := by exact rfl) (hop : o.op = .load t x := by exact rfl) (hg : Region.wanted o (Gx.yl ops b n l) = true := by kernel_rfl) (hx : Gx.ev b n l x = .pointer (some ⟨bk, off, none⟩) := by kernel_rfl) (hv : Gx.loadB P t cs off = some v := by kernel_rfl) :
    wpOps P ops Q (i :: js) (Gx.Fr b n l d) w := Gx.cons (Gx.op_load ho hg hop off v hx hb hv k)
theorem S {t : TypeId} {x y : Operand} {bk : Nat} (off : Nat) (v : Value) {cs : Array Value} {e : TypeId} (hb : Gx.Has w bk (.cells cs e)) (cs' : Array Value)
    (k : ∀ w', Gx.G w w' (some bk) → Gx.Has w' bk (.cells cs' e) → w.heap.size ≤ w'.heap.size → wpOps P ops Q js (Gx.Fr b n (Gx.putL o undef l) d) w')
    (ho : ops[i]? = some o := by exact rfl) (hop : o.op = .store t x y := by exact rfl) (hg : Region.wanted o (Gx.yl ops b n l) = true := by kernel_rfl) (hx : Gx.ev b n l x = .pointer (some ⟨bk, off, none⟩) := by kernel_rfl) (hy : Gx.ev b n l y = v := by kernel_rfl)
    (hs : (P.info? t).map (·.size) = some v.cells.size := by kernel_rfl) (h1 : v.cells.all (·.oneCell') = true := by kernel_rfl) (hfit : Nat.ble (off + v.cells.size) cs.size = true := by kernel_rfl)
    (hcs : (cs.toList.take off ++ v.cells.toList ++ cs.toList.drop (off + v.cells.size)).toArray = cs' := by kernel_rfl) : wpOps P ops Q (i :: js) (Gx.Fr b n l d) w :=
  Gx.cons (Gx.op_store ho hg hop off v hx hy hb hs h1 hfit cs' hcs (fun w' a c => k w' a c a.size))
theorem Sa {t : TypeId} {x y : Operand} {bk : Nat} (cs' : Array Value) {cs : Array Value} {e : TypeId} (hb : Gx.Has w bk (.cells cs e))
    (k : ∀ w', Gx.G w w' (some bk) → Gx.Has w' bk (.cells cs' e) → w.heap.size ≤ w'.heap.size → wpOps P ops Q js (Gx.Fr b n (Gx.putL o undef l) d) w')
    (ho : ops[i]? = some o := by exact rfl) (hop : o.op = .store t x y := by exact rfl) (hg : Region.wanted o (Gx.yl ops b n l) = true := by kernel_rfl) (hx : Gx.ev b n l x = .pointer (some ⟨bk, 0, none⟩) := by kernel_rfl) (hy : Gx.ev b n l y = .agg cs' := by kernel_rfl)
    (hs : (P.info? t).map (·.size) = some (Value.agg cs').cells.size := by kernel_rfl) (h1 : (Value.agg cs').cells.all (·.oneCell') = true := by kernel_rfl) (hfit : Nat.ble (0 + (Value.agg cs').cells.size) cs.size = true := by kernel_rfl)
    (hcs : (cs.toList.take 0 ++ (Value.agg cs').cells.toList ++ cs.toList.drop (0 + (Value.agg cs').cells.size)).toArray = cs' := by kernel_rfl) : wpOps P ops Q (i :: js) (Gx.Fr b n l d) w :=
  Gx.cons (Gx.op_store ho hg hop 0 _ hx hy hb hs h1 hfit cs' hcs (fun w' a c => k w' a c a.size))
theorem k {f : Nat} {args : Array Value} (k : ∀ R : Ending → World → Prop, (∀ v w', wpOps P ops Q js (Gx.Fr b n (Gx.putL o v l) d) w' → R (.returned v) w') → Calls P f args w R)
    (ho : ops[i]? = some o := by exact rfl) (hg : Region.wanted o (Gx.yl ops b n l) = true := by kernel_rfl) (hr : (execOp (Gx.ev b n l) o).run P w = .ok (.enter f args) w := by kernel_rfl) : wpOps P ops Q (i :: js) (Gx.Fr b n l d) w := Gx.cons (Gx.op_call ho hg hr k)
theorem N (ob : Obj) (k : ∀ (bk : Nat) (w' : World), w.heap.size ≤ bk → Gx.Ext w w' → Gx.Has w' bk ob → w.heap.size ≤ w'.heap.size → bk < w'.heap.size → wpOps P ops Q js (Gx.Fr b n (Gx.putL o (.pointer (some ⟨bk, 0, none⟩)) l) d) w')
    (ho : ops[i]? = some o := by exact rfl) (hg : Region.wanted o (Gx.yl ops b n l) = true := by kernel_rfl) (hr : (execOp (Gx.ev b n l) o).run P w = .ok (.value (.pointer (some ⟨w.heap.size, 0, none⟩))) (w.alloc ob) := by kernel_rfl) : wpOps P ops Q (i :: js) (Gx.Fr b n l d) w :=
  Gx.cons (Gx.op_new ob ho hg hr (fun bk w' h1 h2 h3 => k bk w' h1 h2 h3 h2.size h3.lt))
theorem R (ob : Obj) (len cap : Nat) (k : ∀ (bk : Nat) (w' : World), w.heap.size ≤ bk → Gx.Ext w w' → Gx.Has w' bk ob → w.heap.size ≤ w'.heap.size → bk < w'.heap.size → wpOps P ops Q js (Gx.Fr b n (Gx.putL o (.slice (some ⟨bk, 0, none⟩) len cap) l) d) w')
    (ho : ops[i]? = some o := by exact rfl) (hg : Region.wanted o (Gx.yl ops b n l) = true := by kernel_rfl) (hr : (execOp (Gx.ev b n l) o).run P w = .ok (.value (.slice (some ⟨w.heap.size, 0, none⟩) len cap)) (w.alloc ob) := by kernel_rfl) : wpOps P ops Q (i :: js) (Gx.Fr b n l d) w :=
  Gx.cons (Gx.op_row ob len cap ho hg hr (fun bk w' h1 h2 h3 => k bk w' h1 h2 h3 h2.size h3.lt))
theorem Lo {t : TypeId} {x : Operand} {a : Addr} {w0 : World} (cs : List Value) (v : Value) (m : Nat) (hc : w0.cells? 0 a m = some cs) (hE : Gx.Ext w0 w) (k : wpOps P ops Q js (Gx.Fr b n (Gx.putL o v l) d) w)
    (ho : ops[i]? = some o := by exact rfl) (hop : o.op = .load t x := by exact rfl) (hg : Region.wanted o (Gx.yl ops b n l) = true := by kernel_rfl) (hx : Gx.ev b n l x = .pointer (some a) := by kernel_rfl) (hm0 : 0 < m := by decide) (hm : Nat.beq cs.length m = true := by kernel_rfl) (hv : Gx.loadL P t cs = some v := by kernel_rfl) :
    wpOps P ops Q (i :: js) (Gx.Fr b n l d) w := Gx.cons (Gx.op_loadO ho hg hop cs v hx m (Gx.cells_ext hc hm0 hE) hm hv k)
theorem La {t : TypeId} {x : Operand} {a : Addr} {w0 : World} (cs : List Value) (m : Nat) (hc : w0.cells? 0 a m = some cs) (hE : Gx.Ext w0 w) (k : wpOps P ops Q js (Gx.Fr b n (Gx.putL o (.agg cs.toArray) l) d) w)
    (ho : ops[i]? = some o := by exact rfl) (hop : o.op = .load t x := by exact rfl) (hg : Region.wanted o (Gx.yl ops b n l) = true := by kernel_rfl) (hx : Gx.ev b n l x = .pointer (some a) := by kernel_rfl) (hm0 : 0 < m := by decide) (hm : Nat.beq cs.length m = true := by kernel_rfl) (hv : Gx.loadL P t cs = some (.agg cs.toArray) := by kernel_rfl) :
    wpOps P ops Q (i :: js) (Gx.Fr b n l d) w := Gx.cons (Gx.op_loadO ho hg hop cs _ hx m (Gx.cells_ext hc hm0 hE) hm hv k)
theorem I {t : TypeId} {x ix : Operand} (e sz : Nat) {A : Option Addr} {a : Addr} (hA : A = some a) (len cap m : Nat) (k : wpOps P ops Q js (Gx.Fr b n (Gx.putL o (.pointer (some (a.add (m * sz)))) l) d) w) (ho : ops[i]? = some o := by exact rfl) (hop : o.op = .indexAddr t x ix := by exact rfl)
    (hg : Region.wanted o (Gx.yl ops b n l) = true := by kernel_rfl) (hu : P.underlying t = some (.slice e) := by kernel_rfl) (hsz : (P.info? e).map (·.size) = some sz := by kernel_rfl) (hx : Gx.ev b n l x = .slice A len cap := by kernel_rfl) (hi : Gx.ev b n l ix = .int .i64 (m : Int) := by kernel_rfl) (hm : m < len := by omega) :
    wpOps P ops Q (i :: js) (Gx.Fr b n l d) w := Gx.cons (Gx.op_indexAddrO ho hg hop e sz hu hsz a hA len cap hx .i64 m hi hm k)
theorem F {s : TypeId} {x : Operand} {f : Nat} (a : Addr) (off : Nat) (k : wpOps P ops Q js (Gx.Fr b n (Gx.putL o (.pointer (some (a.add off))) l) d) w) (ho : ops[i]? = some o := by exact rfl) (hop : o.op = .fieldAddr s x f := by exact rfl)
    (hg : Region.wanted o (Gx.yl ops b n l) = true := by kernel_rfl) (hx : Gx.ev b n l x = .pointer (some a) := by kernel_rfl) (h : Gx.fldAt P s f off = true := by kernel_rfl) : wpOps P ops Q (i :: js) (Gx.Fr b n l d) w := Gx.cons (Gx.op_fieldAddrO ho hg hop a hx off h k)
theorem C {t t' : TypeId} {x y : Operand} (s u : ByteArray) (k : wpOps P ops Q js (Gx.Fr b n (Gx.putL o (.string (s ++ u)) l) d) w) (hsz : s.size + u.size ≤ 9223372036854775807 := by (try simp only [ByteArray.size_append, Go.Z.zl, List.length]); omega)
    (ho : ops[i]? = some o := by exact rfl) (hop : o.op = .binOp .add t x y t' := by exact rfl) (hg : Region.wanted o (Gx.yl ops b n l) = true := by kernel_rfl) (hx : Gx.ev b n l x = .string s := by kernel_rfl) (hy : Gx.ev b n l y = .string u := by kernel_rfl) :
    wpOps P ops Q (i :: js) (Gx.Fr b n l d) w := Gx.cons (Gx.op_concat ho hg hop s u hx hy hsz k)
end
/-! Regions that draw -/
section
variable {S : World → Prop} {oi : Oper} {fuel : Nat} {listed : Array Bool}
theorem h {a : Act} (hS : S w) (k : S w → wpAnyH P .any ops Q S fuel listed a w) : wpAnyH P .any ops Q S fuel listed a w := k hS
theorem D {id : Nat} {Q' : Exit → Act → World → Prop} {a : Act} (S : World → Prop) (h : ∀ w', Gx.Ext w w' → w.heap.size ≤ w'.heap.size → wpAnyH P .any ops Q' S ops.size (Array.replicate ops.size false) a w') (hm : P.follows .mixedOrders = true := by kernel_rfl) :
    (Code.region id ops true).wp P Q' a w := Gx.draw hm (fun w' x => h w' x x.size)
theorem q {a : Act} (h : Q .normal a w) (hr : Region.ready .any ops listed = [] := by kernel_rfl) : wpAnyH P .any ops Q S fuel listed a w := Gx.any_done hr h
theorem t (i : Nat) (v : Value) (hS : S w) (h : wpAnyH P .any ops Q S fuel (listed.setIfInBounds i true) (Gx.Fr b n (Gx.putL oi v l) d) w) (hi : ops[i]? = some oi := by exact rfl) (hs : Region.noSelect ops = true := by kernel_rfl)
    (hf : Region.free .any ops listed i = true := by kernel_rfl) (hr : (Region.ready .any ops listed).contains i = true := by kernel_rfl) (hQ : ∀ c a w, Q (.panic c) (a.put oi.dst v) w → Q (.panic c) a w := by exact fun _ _ _ h => h)
    (hg : Region.wanted oi (Gx.yl ops b n l) = true := by kernel_rfl) (hy : ∀ w, S w → (execOp (Gx.ev b n l) oi).run P w = .ok (.value v) w := by intro _ _; kernel_rfl) : wpAnyH P .any ops Q S (fuel + 1) listed (Gx.Fr b n l d) w := Gx.any_take i v hi hs hf hr hQ hS hg hy h
theorem tl (i : Nat) {t : TypeId} {x : Operand} {bk : Nat} (off : Nat) (v : Value) {cs : Array Value} {e : TypeId} {fr : Nat × Nat} (pr : ∀ w, S w → Gx.Has w bk (.cells cs e fr)) (hS : S w) (h : wpAnyH P .any ops Q S fuel (listed.setIfInBounds i true) (Gx.Fr b n (Gx.putL oi v l) d) w)
    (hi : ops[i]? = some oi := by exact rfl) (hop : oi.op = .load t x := by exact rfl) (hs : Region.noSelect ops = true := by kernel_rfl) (hf : Region.free .any ops listed i = true := by kernel_rfl) (hr : (Region.ready .any ops listed).contains i = true := by kernel_rfl)
    (hQ : ∀ c a w, Q (.panic c) (a.put oi.dst v) w → Q (.panic c) a w := by exact fun _ _ _ h => h) (hg : Region.wanted oi (Gx.yl ops b n l) = true := by kernel_rfl) (hx : Gx.ev b n l x = .pointer (some ⟨bk, off, none⟩) := by kernel_rfl) (hv : Gx.loadB P t cs off = some v := by kernel_rfl) :
    wpAnyH P .any ops Q S (fuel + 1) listed (Gx.Fr b n l d) w := Gx.any_take i v hi hs hf hr hQ hS hg (fun _ q => Gx.run_load hop off v hx (pr _ q) hv) h
theorem to (i : Nat) {t : TypeId} {x : Operand} {a : Addr} {w0 : World} (cs : List Value) (v : Value) (m : Nat) (hc : w0.cells? 0 a m = some cs) (pr : ∀ w, S w → Gx.Ext w0 w) (hS : S w) (h : wpAnyH P .any ops Q S fuel (listed.setIfInBounds i true) (Gx.Fr b n (Gx.putL oi v l) d) w)
    (hi : ops[i]? = some oi := by exact rfl) (hop : oi.op = .load t x := by exact rfl) (hs : Region.noSelect ops = true := by kernel_rfl) (hf : Region.free .any ops listed i = true := by kernel_rfl) (hr : (Region.ready .any ops listed).contains i = true := by kernel_rfl)
    (hQ : ∀ c a w, Q (.panic c) (a.put oi.dst v) w → Q (.panic c) a w := by exact fun _ _ _ h => h) (hg : Region.wanted oi (Gx.yl ops b n l) = true := by kernel_rfl) (hx : Gx.ev b n l x = .pointer (some a) := by kernel_rfl) (hm0 : 0 < m := by decide) (hm : Nat.beq cs.length m = true := by kernel_rfl) (hv : Gx.loadL P t cs = some v := by kernel_rfl) :
    wpAnyH P .any ops Q S (fuel + 1) listed (Gx.Fr b n l d) w := Gx.any_take i v hi hs hf hr hQ hS hg (fun _ q => Gx.run_loadO hop cs v hx m (Gx.cells_ext hc hm0 (pr _ q)) hm hv) h
theorem ta (i : Nat) {t : TypeId} {x : Operand} {a : Addr} {w0 : World} (cs : List Value) (m : Nat) (hc : w0.cells? 0 a m = some cs) (pr : ∀ w, S w → Gx.Ext w0 w) (hS : S w) (h : wpAnyH P .any ops Q S fuel (listed.setIfInBounds i true) (Gx.Fr b n (Gx.putL oi (.agg cs.toArray) l) d) w)
    (hi : ops[i]? = some oi := by exact rfl) (hop : oi.op = .load t x := by exact rfl) (hs : Region.noSelect ops = true := by kernel_rfl) (hf : Region.free .any ops listed i = true := by kernel_rfl) (hr : (Region.ready .any ops listed).contains i = true := by kernel_rfl)
    (hQ : ∀ c a w, Q (.panic c) (a.put oi.dst (.agg cs.toArray)) w → Q (.panic c) a w := by exact fun _ _ _ h => h) (hg : Region.wanted oi (Gx.yl ops b n l) = true := by kernel_rfl) (hx : Gx.ev b n l x = .pointer (some a) := by kernel_rfl) (hm0 : 0 < m := by decide) (hm : Nat.beq cs.length m = true := by kernel_rfl) (hv : Gx.loadL P t cs = some (.agg cs.toArray) := by kernel_rfl) :
    wpAnyH P .any ops Q S (fuel + 1) listed (Gx.Fr b n l d) w := Gx.any_take i _ hi hs hf hr hQ hS hg (fun _ q => Gx.run_loadO hop cs _ hx m (Gx.cells_ext hc hm0 (pr _ q)) hm hv) h
theorem ti (i : Nat) {t : TypeId} {x ix : Operand} (e sz : Nat) {A : Option Addr} {a : Addr} (hA : A = some a) (len cap m : Nat) (hS : S w) (h : wpAnyH P .any ops Q S fuel (listed.setIfInBounds i true) (Gx.Fr b n (Gx.putL oi (.pointer (some (a.add (m * sz)))) l) d) w)
    (hi : ops[i]? = some oi := by exact rfl) (hop : oi.op = .indexAddr t x ix := by exact rfl) (hs : Region.noSelect ops = true := by kernel_rfl) (hf : Region.free .any ops listed i = true := by kernel_rfl) (hr : (Region.ready .any ops listed).contains i = true := by kernel_rfl)
    (hQ : ∀ c a' w, Q (.panic c) (a'.put oi.dst (.pointer (some (a.add (m * sz))))) w → Q (.panic c) a' w := by exact fun _ _ _ h => h) (hg : Region.wanted oi (Gx.yl ops b n l) = true := by kernel_rfl) (hu : P.underlying t = some (.slice e) := by kernel_rfl) (hsz : (P.info? e).map (·.size) = some sz := by kernel_rfl)
    (hx : Gx.ev b n l x = .slice A len cap := by kernel_rfl) (hi' : Gx.ev b n l ix = .int .i64 (m : Int) := by kernel_rfl) (hm : m < len := by omega) :
    wpAnyH P .any ops Q S (fuel + 1) listed (Gx.Fr b n l d) w := Gx.any_take i _ hi hs hf hr hQ hS hg (fun _ _ => Gx.run_indexAddrO hop e sz hu hsz a hA len cap hx .i64 m hi' hm) h
theorem tf (i : Nat) {s : TypeId} {x : Operand} {f : Nat} (a : Addr) (off : Nat) (hS : S w) (h : wpAnyH P .any ops Q S fuel (listed.setIfInBounds i true) (Gx.Fr b n (Gx.putL oi (.pointer (some (a.add off))) l) d) w)
    (hi : ops[i]? = some oi := by exact rfl) (hop : oi.op = .fieldAddr s x f := by exact rfl) (hs : Region.noSelect ops = true := by kernel_rfl) (hf : Region.free .any ops listed i = true := by kernel_rfl) (hr : (Region.ready .any ops listed).contains i = true := by kernel_rfl)
    (hQ : ∀ c a' w, Q (.panic c) (a'.put oi.dst (.pointer (some (a.add off)))) w → Q (.panic c) a' w := by exact fun _ _ _ h => h) (hg : Region.wanted oi (Gx.yl ops b n l) = true := by kernel_rfl) (hx : Gx.ev b n l x = .pointer (some a) := by kernel_rfl) (hv : Gx.fldAt P s f off = true := by kernel_rfl) :
    wpAnyH P .any ops Q S (fuel + 1) listed (Gx.Fr b n l d) w := Gx.any_take i _ hi hs hf hr hQ hS hg (fun _ _ => Gx.run_fieldAddrO hop a hx off hv) h
theorem tc (i : Nat) {t t' : TypeId} {x y : Operand} (s u : ByteArray) (hS : S w) (h : wpAnyH P .any ops Q S fuel (listed.setIfInBounds i true) (Gx.Fr b n (Gx.putL oi (.string (s ++ u)) l) d) w) (hsz : s.size + u.size ≤ 9223372036854775807 := by (try simp only [ByteArray.size_append, Go.Z.zl, List.length]); omega)
    (hi : ops[i]? = some oi := by exact rfl) (hop : oi.op = .binOp .add t x y t' := by exact rfl) (hs : Region.noSelect ops = true := by kernel_rfl) (hf : Region.free .any ops listed i = true := by kernel_rfl) (hr : (Region.ready .any ops listed).contains i = true := by kernel_rfl)
    (hQ : ∀ c a' w, Q (.panic c) (a'.put oi.dst (.string (s ++ u))) w → Q (.panic c) a' w := by exact fun _ _ _ h => h) (hg : Region.wanted oi (Gx.yl ops b n l) = true := by kernel_rfl) (hx : Gx.ev b n l x = .string s := by kernel_rfl) (hy : Gx.ev b n l y = .string u := by kernel_rfl) :
    wpAnyH P .any ops Q S (fuel + 1) listed (Gx.Fr b n l d) w := Gx.any_take i _ hi hs hf hr hQ hS hg (fun _ _ => Gx.run_concat hop s u hx hy hsz) h
theorem o (i : Nat) {f : Nat} {args : Array Value} (k : ∀ R : Ending → World → Prop, (∀ v w', (S w' ∧ (S w' → wpAnyH P .any ops Q S fuel (listed.setIfInBounds i true) (Gx.Fr b n (Gx.putL oi v l) d) w')) → R (.returned v) w') → Calls P f args w R)
    (ho : ops[i]? = some oi := by exact rfl) (hr : Region.ready .any ops listed = [i] := by kernel_rfl) (hg : Region.wanted oi (Gx.yl ops b n l) = true := by kernel_rfl) (he : (execOp (Gx.ev b n l) oi).run P w = .ok (.enter f args) w := by kernel_rfl) :
    wpAnyH P .any ops Q S (fuel + 1) listed (Gx.Fr b n l d) w := Gx.any_one i hr (Gx.op_call ho hg he (fun R hR => k R (fun v w' q => hR v w' ⟨q.1, q.2 q.1⟩)))
end
section
variable {fn : Func} {K : Ending → World → Prop}
theorem v (v : Value) {t : Nat} (k : K (.returned v) w) (hn : fn.results = #[.tmp t] := by exact rfl) (hv : Gx.ev b n l (.tmp t) = v := by kernel_rfl) : bodyPost P fn K .ret (Gx.Fr b n l []) w := Gx.ret (Gx.res1 hn hv) k
end
end
end Go.Z
