import Derived.Test.YtinilkomfggjiaaDoorGs
import Derived.Test.YtinilkomfggjiaaDoorSynPlain
set_option linter.unusedVariables false
namespace Go.Z
open Go.Syn
theorem a {p q : Prop} (x : p) (y : q) : p ∧ q := ⟨x, y⟩
abbrev nl : List (Nd × Option Addr × Nat) := []
abbrev T (t : Nd) (A : Option Addr) (c : Nat) : Array Value := #[n t.k, n t.a, .string t.nm, .int .i64 t.n, .slice A t.ks.length c]
abbrev c0 : Obj := .cells #[.int .i64 0, .int .i64 0, .string E, .int .i64 0, .slice none 0 0] 24
abbrev t0 : Array Value := #[.int .i64 0, .int .i64 0, .string E, .int .i64 0, .slice none 0 0]
abbrev ks (Q : Nat → Prop) (w : World) (L : List (Nd × Option Addr × Nat)) : Prop := ∀ p' ∈ L, KV Q w p'.1.ks p'.2.1 p'.2.2
theorem m1 {Q Q' : Nat → Prop} {w w' : World} {L : List (Nd × Option Addr × Nat)} {x : Nd × Option Addr × Nat} (h : ks Q w L) (k : KV Q w x.1.ks x.2.1 x.2.2) : ks Q w (L ++ [x]) :=
  fun p hp => (List.mem_append.1 hp).elim (h p) (fun h1 => by simp only [List.mem_cons, List.not_mem_nil, or_false] at h1; subst h1; exact k)
theorem m0 {Q : Nat → Prop} {w : World} {x : Nd × Option Addr × Nat} (k : KV Q w x.1.ks x.2.1 x.2.2) : ks Q w (nl ++ [x]) := m1 (Q' := Q) (w' := w) (fun _ h => by cases h) k
theorem en {P : Program} {f : FuncId} (n : Nat) {fn : Func} (hf : P.funcs[f]? = some fn) {c : Code} {vs : List Value} {w : World} {K : Ending → World → Prop} (h : c.wp P (bodyPost P fn K) (Gx.Fr (fun _ => undef) n (Gx.enterL vs 0) []) w)
    (hb : fn.body = some c := by exact rfl) (hn : fn.ntmps = n := by exact rfl) (hle : vs.length ≤ n := by exact Nat.le_of_ble_eq_true rfl) : Calls P f vs.toArray w K := Gx.enter n hf hb hn hle h
theorem lt {S : ByteArray} {q q1 : Rs} {s : ByteArray} (h : Ok S q) (hi : isB q s = true) (e : hasR S q s = q1) : M S q1 < M S q := by have := has_lt h hi; rw [e] at this; exact this
end Go.Z
