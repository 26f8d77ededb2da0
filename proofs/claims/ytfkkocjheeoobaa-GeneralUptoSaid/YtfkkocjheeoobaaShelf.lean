/-
  DERIVED: THE SHELF's CONTRACTS AT THIS DUMP, IN PLAIN WORDS (tools/lay-plain.mjs out of 'TryShelf.lean', which tools/lay-shelf.mjs wrote): THE SAME DECLARATIONS UNDER THE SAME NAMES: 'import', 'namespace', 'open', 'def', 'theorem' AND NOTHING ELSE: no command of the shelf's: FOR A HAND-IN. Each laying: the table of numbers ('.._ren') and one theorem, a field a fact of the dump's own or the kernel's comparison; each contract: ONE APPLICATION.
-/
import Derived.Shelf.Small.Bits
import Derived.Shelf.Strconv.Itoa0
import Derived.Shelf.Sort.Plain
import Derived.Shelf.Slices.In.SortNone
import Derived.Test.YtfkkocjheeoobaaProg
import Derived.Test.YtfkkocjheeoobaaSx4
import Derived.Test.YtfkkocjheeoobaaPm
set_option linter.unusedVariables false
set_option linter.unusedSimpArgs false
set_option linter.unusedVariables false
set_option linter.unusedSimpArgs false
namespace Go.Proofs
open Go.Shelf
def Try.lays190_ren : Go.Shelf.Ren := ⟨fun | 190 => 49 | 125 => 54 | 258 => 53 | 128 => 64 | 129 => 65 | 302 => 55 | 303 => 56 | 304 => 57 | 305 => 58 | 306 => 59 | 307 => 60 | 308 => 61 | 309 => 62 | 310 => 63 | 333 => 66 | 329 => 67 | 330 => 68 | 334 => 69 | 335 => 70 | 336 => 71 | 344 => 72 | n => n, fun | 31 => 30 | 9 => 9 | 3 => 3 | 46 => 112 | 0 => 0 | 51 => 123 | 53 => 125 | 4 => 4 | 183 => 116 | 182 => 115 | 131 => 44 | 5 => 5 | 218 => 126 | 222 => 130 | 228 => 133 | 229 => 134 | n => n, fun | n => n⟩
theorem Try.lays190 : Go.Proofs.Lays.n190 Try.prog Try.lays190_ren := {
  mixed := by kernel_rfl
  f125 := Try.func54.trans (congrArg some (by kernel_rfl))
  f128 := Try.func64.trans (congrArg some (by kernel_rfl))
  f129 := Try.func65.trans (congrArg some (by kernel_rfl))
  f190 := Try.func49.trans (congrArg some (by kernel_rfl))
  f258 := Try.func53.trans (congrArg some (by kernel_rfl))
  f302 := Try.func55.trans (congrArg some (by kernel_rfl))
  f303 := Try.func56.trans (congrArg some (by kernel_rfl))
  f304 := Try.func57.trans (congrArg some (by kernel_rfl))
  f305 := Try.func58.trans (congrArg some (by kernel_rfl))
  f306 := Try.func59.trans (congrArg some (by kernel_rfl))
  f307 := Try.func60.trans (congrArg some (by kernel_rfl))
  f308 := Try.func61.trans (congrArg some (by kernel_rfl))
  f309 := Try.func62.trans (congrArg some (by kernel_rfl))
  f310 := Try.func63.trans (congrArg some (by kernel_rfl))
  f329 := Try.func67.trans (congrArg some (by kernel_rfl))
  f330 := Try.func68.trans (congrArg some (by kernel_rfl))
  f333 := Try.func66.trans (congrArg some (by kernel_rfl))
  f334 := Try.func69.trans (congrArg some (by kernel_rfl))
  f335 := Try.func70.trans (congrArg some (by kernel_rfl))
  f336 := Try.func71.trans (congrArg some (by kernel_rfl))
  f344 := Try.func72.trans (congrArg some (by kernel_rfl))
  t0 := Try.underlying0
  a0 := Try.isAgg0
  z0 := Try.sizeOf0
  v0 := Try.zeroValue0
  t3 := Try.underlying3
  a3 := Try.isAgg3
  z3 := Try.sizeOf3
  v3 := Try.zeroValue3
  t4 := Try.underlying4
  a4 := Try.isAgg4
  z4 := Try.sizeOf4
  v4 := Try.zeroValue4
  t5 := Try.underlying5
  a5 := Try.isAgg5
  z5 := Try.sizeOf5
  v5 := Try.zeroValue5
  t9 := Try.underlying9
  a9 := Try.isAgg9
  z9 := Try.sizeOf9
  v9 := Try.zeroValue9
  t31 := Try.underlying30
  a31 := Try.isAgg30
  z31 := Try.sizeOf30
  v31 := Try.zeroValue30
  t46 := Try.underlying112
  a46 := Try.isAgg112
  z46 := Try.sizeOf112
  v46 := Try.zeroValue112
  t51 := Try.underlying123
  a51 := Try.isAgg123
  z51 := Try.sizeOf123
  v51 := Try.zeroValue123
  t53 := Try.underlying125
  a53 := Try.isAgg125
  z53 := Try.sizeOf125
  v53 := Try.zeroValue125
  t131 := Try.underlying44
  a131 := Try.isAgg44
  z131 := Try.sizeOf44
  v131 := Try.zeroValue44
  t182 := Try.underlying115
  a182 := Try.isAgg115
  z182 := Try.sizeOf115
  v182 := Try.zeroValue115
  t183 := Try.underlying116
  a183 := Try.isAgg116
  z183 := Try.sizeOf116
  v183 := Try.zeroValue116
  t218 := Try.underlying126
  a218 := Try.isAgg126
  z218 := Try.sizeOf126
  v218 := Try.zeroValue126
  t222 := Try.underlying130
  a222 := Try.isAgg130
  z222 := Try.sizeOf130
  v222 := Try.zeroValue130
  t228 := Try.underlying133
  a228 := Try.isAgg133
  z228 := Try.sizeOf133
  v228 := Try.zeroValue133
  t229 := Try.underlying134
  a229 := Try.isAgg134
  z229 := Try.sizeOf134
  v229 := Try.zeroValue134 }
open Go.Sort Go.RowKit in
theorem Try.slices_Sort_string (blk off cap : Nat) (ss : List (List UInt8)) (w : World) (hH : Holds encStr w blk off ss.toArray) (hblk : blk < w.heap.size) (hsz : ss.length < 4611686018427387904) :
    Calls Try.prog 49 #[.slice (some ⟨blk, off, none⟩) ss.length cap] w fun e w' =>
      e = .returned (.tuple #[]) ∧ ∃ n os, w' = grow (putRow encStr (Sort.ahead w n) blk off (ss.mergeSort fun x y => decide (x ≤ y)).toArray) os := Any.slices_Sort_string Try.lays190 blk off cap ss w hH hblk hsz
open Go.RowKit Go.Sort in
/-- .. and plain. (LAID: no walk: one application.) -/
theorem Try.slices_Sort_string_none (p : Option Addr) (cap : Nat) (w : World) :
    Calls Try.prog 49 #[.slice p 0 cap] w fun e w' => e = .returned (.tuple #[]) ∧ w' = w := Any.slices_Sort_string_none Try.lays190 p cap w
end Go.Proofs
set_option linter.unusedVariables false
set_option linter.unusedSimpArgs false
namespace Go.Inf
open Go.RowKit Go.Sx
theorem whole_cases {z r v : Nat} {g : G} {acc l : List Nm} (h : whole (z + 1) g r acc = some (l, v)) :
    ∃ lr nx, g.ops[r]? = some lr ∧ acc.length + lr.length < 1000000000 ∧ g.next[r]? = some nx ∧ (nx = none → putAll acc lr = l ∧ r = v) ∧ (nx = some 0 → putAll acc lr = l ∧ 0 = v) ∧ ∀ q, nx = some (q + 1) → whole z g (q + 1) (putAll acc lr) = some (l, v) := by
  unfold whole at h
  split at h
  · rename_i lr hl
    split at h
    · rename_i hb
      split at h <;> rename_i hn
      · simp at h; exact ⟨lr, _, hl, hb, hn, fun _ => h, by simp, by simp⟩
      · simp at h; exact ⟨lr, _, hl, hb, hn, by simp, fun _ => h, by simp⟩
      · exact ⟨lr, _, hl, hb, hn, by simp, by simp, fun q e => by cases e; exact h⟩
      · cases h
    · cases h
  · cases h
theorem putAll_len (a l : List Nm) : (putAll a l).length = a.length + l.length := by
  induction l generalizing a with
  | nil => rfl
  | cons s l ih => rw [putAll, ih, putN_len, List.length_cons]; omega
theorem Strs.one {w : World} {S : Nat → Prop} {A : Option Addr} {l : List Nm} {a : Addr} {i : Nat} {s : Nm} (h : Strs w S A l) (ha : A = some a) (hl : l[i]? = some s) : w.cells? 0 (a.add (i * 1)) 1 = some [.string s] := by
  obtain ⟨a', ha', _, hc⟩ := h i s hl
  rw [ha] at ha'; cases ha'
  exact hc
theorem sp_at {w : World} {L : List Sx.Item} {it : Sx.Item} (h : Sp w L) (j : Nat) (hi : L[j]? = some it) : it.holds w := h.all _ (List.mem_of_getElem? hi)
theorem whole_len {k r v : Nat} {g : G} {acc l : List Nm} (h : whole k g r acc = some (l, v)) : l.length < 1000000000 := by
  induction k generalizing r acc with
  | zero => simp [whole] at h
  | succ z ih =>
    obtain ⟨lr, nx, _, hb, _, h1, h2, h3⟩ := whole_cases h
    rcases nx with _ | q
    · rw [← (h1 rfl).1, putAll_len]; exact hb
    · cases q with
      | zero => rw [← (h2 rfl).1, putAll_len]; exact hb
      | succ q => exact ih (h3 q rfl)
end Go.Inf
set_option linter.unusedVariables false
set_option linter.unusedSimpArgs false
namespace Go.Sx
open Go.RowKit Go.Gx
section
variable [Rd] {P : Program} {B : Exit → Act → World → Prop} {b : Nat → Value} {n : Nat} {d : List Deferred} {w0 w : World} {x : St} {L0 L : List Item}
end
/-! ### Where one stands, said anew -/
/-- A part of a function's text, by the way to it. -/
def cat : List Nat → Code → Code
  | [], c => c
  | i :: r, c => match c with
    | .seq a b => match i with
      | 0 => cat r a
      | _ + 1 => cat r b
    | .cond _ a b => match i with
      | 0 => cat r a
      | _ + 1 => cat r b
    | .block _ c => cat r c
    | .loop c => cat r c
    | .scope c => cat r c
    | c => c
section
variable [Rd] {P : Program} {B : Exit → Act → World → Prop} {b : Nat → Value} {n : Nat} {d : List Deferred} {w : World} {x : St}
theorem nz (m : Nat) (f' : Fo) (k' : List Kt) (l' : List (Nat × Value)) (k : ∀ b' : Nat → Value, Goal P B b' n d ⟨f', k', l'⟩ w)
    (h : vA (via P b n m w x fun y => some (0, 0, y)) = vB w (via P b n m w x fun y => some (0, 0, y)) := by kernel_rfl)
    (h1 : (vX (via P b n m w x fun y => some (0, 0, y))).f = f' := by kernel_rfl)
    (h3 : (vX (via P b n m w x fun y => some (0, 0, y))).k = k' := by kernel_rfl)
    (h2 : l'.map (fun p => get b (vX (via P b n m w x fun y => some (0, 0, y))).l p.1) = l'.map (fun p => p.2) := by kernel_rfl) : Goal P B b n d x w :=
  fg m l' (fun b' => by rw [h1, h3]; exact k b') h h2
end
end Go.Sx
set_option linter.unusedVariables false
set_option linter.unusedSimpArgs false
namespace Go.Sx
open Go.RowKit Go.Gx
/-- Where the rest of a slice lies. -/
def sfC (A : Option Addr) (cap k sz : Nat) : Option Addr := if cap = k then A else A.map (·.add (k * sz))
def sfO (P : Program) (b : Nat → Value) (n : Nat) (z : Tz) : Option (List Value × List Nat) := match z.o.op with
  | .slice t s lo hi mx => match lo, hi, mx with
    | some k, none, none => match P.underlying t with
      | some (.slice e) => match P.info? e with
        | some inf => some ([ev b n z.l s, ev b n z.l k], [inf.size])
        | none => none
      | _ => none
    | _, _, _ => none
  | _ => none
section
theorem run_sf {P : Program} {w : World} {b : Nat → Value} {n : Nat} {l : List (Nat × Value)} {o : Oper} {t e : TypeId} {s k0 : Operand} {inf : TypeInfo} (hop : o.op = .slice t s (some k0) none none) (hu : P.underlying t = some (.slice e)) (hinf : P.info? e = some inf) {A : Option Addr} {len cap k : Nat}
    (h3 : ev b n l s = .slice A len cap) (h4 : ev b n l k0 = .int .i64 (k : Int)) (hk : k ≤ len) (hc : len ≤ cap) : (execOp (ev b n l) o).run P w = .ok (.value (.slice (sfC A cap k inf.size) (len - k) (cap - k))) w := by
  unfold execOp sfC
  have hl : ((k : Int) ≤ (len : Int)) := by omega
  simp [hop, h3, h4, Instr.sliceAt, Instr.slice, run_underlying hu, Sem.run_bind, Instr.sliceBounds, Instr.sliceBound, asIntOf, go_sem, hl, hk, sizeOf, typeInfo, hinf]
variable [Rd] {P : Program} {B : Exit → Act → World → Prop} [Pn B] {b : Nat → Value} {n : Nat} {d : List Deferred} {w0 w : World} {x : St} {L0 L : List Item}
/-- s[k:] in a drawn region. -/
theorem tvsf (i : Nat) (C : List Nat) (A : Option Addr) (len cap k sz : Nat) (hk : k ≤ len) (hc : len ≤ cap) (hS : clrA x = true → Sp w (LJof x))
    (g : Goal P B b n d ((vX (via P b n 0 w x (tvR b n i C))).k (.slice (sfC A cap k sz) (len - k) (cap - k))) w)
    (h : vA (via P b n 0 w x (tvR b n i C)) = vB w (via P b n 0 w x (tvR b n i C)) := by kernel_rfl)
    (h2 : sfO P b n (vX (via P b n 0 w x (tvR b n i C))) = some ([.slice A len cap, .int .i64 (k : Int)], [sz]) := by kernel_rfl) : Goal P B b n d x w := by
  refine tv i C _ hS (fun w' _ => ?_) g h
  generalize vX (via P b n 0 w x (tvR b n i C)) = z at *
  unfold sfO at h2
  split at h2 <;> try contradiction
  rename_i t s lo hi mx hop
  split at h2 <;> try contradiction
  split at h2 <;> try contradiction
  rename_i e hu
  split at h2 <;> try contradiction
  rename_i inf hinf
  simp only [Option.some.injEq, Prod.mk.injEq, List.cons.injEq, and_true] at h2
  obtain ⟨⟨h3, h4⟩, rfl⟩ := h2
  exact run_sf hop hu hinf h3 h4 hk hc
end
end Go.Sx
namespace Go.Slv
open Go.RowKit Go.Sx Go.Inf Go.Gx
/-! ### The rest of a list -/
def Suf (A C : Option Addr) (k len : Nat) : Prop := (C = none → A = none) ∧ ∀ a, C = some a → ∃ a0, A = some a0 ∧ (k < len → a = a0.add (k * 1))
theorem suf0 (A : Option Addr) (len : Nat) : Suf A A 0 len := ⟨fun h => h, fun a h => ⟨a, h, fun _ => by unfold Addr.add; split <;> simp_all⟩⟩
theorem Suf.step {A C : Option Addr} {k len cap : Nat} (h : Suf A C k len) (hk : k < len) (hc : len ≤ k + cap) : Suf A (sfC C cap 1 1) (k + 1) len := by
  unfold sfC
  split
  · exact ⟨h.1, fun a ha => by obtain ⟨a0, h1, _⟩ := h.2 a ha; exact ⟨a0, h1, fun q => by omega⟩⟩
  · refine ⟨fun q => h.1 (by cases C <;> simp_all), fun a ha => ?_⟩
    cases C with
    | none => cases ha
    | some c =>
      obtain ⟨a0, h1, h2⟩ := h.2 c rfl
      simp only [Option.map_some, Option.some.injEq] at ha
      refine ⟨a0, h1, fun _ => ?_⟩
      rw [← ha, h2 hk, add_add]; rw [Nat.add_mul]
theorem Suf.cell {w : World} {S : Nat → Prop} {A C : Option Addr} {l : List Nm} {k : Nat} {a : Addr} (h : Suf A C k l.length) (hs : Strs w S A l) (hk : k < l.length) (ha : C = some a) : w.cells? 0 (a.add (0 * 1)) 1 = some [.string (gn l k)] := by
  obtain ⟨a0, h1, h2⟩ := h.2 a ha
  obtain ⟨a1, h3, _, h4⟩ := hs k _ (gn_at hk)
  rw [h1] at h3
  cases h3
  rw [h2 hk, add_add]
  simpa using h4
theorem Suf.some {w : World} {S : Nat → Prop} {A C : Option Addr} {l : List Nm} {k : Nat} (h : Suf A C k l.length) (hs : Strs w S A l) (hk : k < l.length) : ∃ a, C = some a := by
  cases C with
  | some a => exact ⟨a, rfl⟩
  | none =>
    obtain ⟨a1, h3, _, _⟩ := hs k _ (gn_at hk)
    rw [h.1 rfl] at h3; cases h3
theorem Suf.strs {w : World} {S : Nat → Prop} {A C : Option Addr} {l : List Nm} {k : Nat} (h : Suf A C k l.length) (hs : Strs w S A l) : Strs w S C (l.drop k) := hs.drop h.2 h.1
/-! ### differ, step by step -/
theorem gn_drop {l : List Nm} {k : Nat} (h : k < l.length) : l.drop k = gn l k :: l.drop (k + 1) := by rw [List.drop_eq_getElem_cons h]; congr 1; simp [gn, h]
theorem differ_eq {x y : Nm} {a b : List Nm} (h : eqN x y = true) : differ (x :: a) (y :: b) = differ a b := by rw [differ, if_pos h]
theorem differ_lt {x y : Nm} {a b : List Nm} (h : eqN x y = false) (k : leN x y = true) : differ (x :: a) (y :: b) = (x :: (differ a (y :: b)).1, (differ a (y :: b)).2) := by rw [differ, if_neg (by simp [h]), if_pos k]
theorem differ_gt {x y : Nm} {a b : List Nm} (h : eqN x y = false) (k : leN x y = false) : differ (x :: a) (y :: b) = ((differ (x :: a) b).1, y :: (differ (x :: a) b).2) := by rw [differ, if_neg (by simp [h]), if_neg (by simp [k])]
/-- How far differ has come. -/
structure Df (a b da db : List Nm) (i j : Nat) : Prop where
  hi : i ≤ a.length
  hj : j ≤ b.length
  hl : da.length ≤ i
  hm : db.length ≤ j
  he : (da ++ (differ (a.drop i) (b.drop j)).1, db ++ (differ (a.drop i) (b.drop j)).2) = differ a b
section
variable {a b da db : List Nm} {i j : Nat}
theorem df0 : Df a b [] [] 0 0 := ⟨Nat.zero_le _, Nat.zero_le _, Nat.le_refl _, Nat.le_refl _, rfl⟩
theorem Df.eq (h : Df a b da db i j) (hi : i < a.length) (hj : j < b.length) (q : ((gn a i).toList == (gn b j).toList) = true) : Df a b da db (i + 1) (j + 1) := by
  have e := h.he
  rw [gn_drop hi, gn_drop hj, differ_eq (by rw [eqN_eq]; exact q)] at e
  exact ⟨hi, hj, by have := h.hl; omega, by have := h.hm; omega, e⟩
theorem lss_leN {x y : Nm} {t : Bool} (h : (x.toList == y.toList) = false) (k : Go.Op.bytesLess x.toList y.toList = t) : leN x y = t := by rw [leN_eq, k, h, Bool.or_false]
theorem Df.lt (h : Df a b da db i j) (hi : i < a.length) (hj : j < b.length) (q : ((gn a i).toList == (gn b j).toList) = false) (k : Go.Op.bytesLess (gn a i).toList (gn b j).toList = true) : Df a b (da ++ [gn a i]) db (i + 1) j := by
  have e := h.he
  rw [gn_drop hi, gn_drop hj, differ_lt (by rw [eqN_eq]; exact q) (lss_leN q k), ← gn_drop hj] at e
  refine ⟨hi, h.hj, by have := h.hl; simp; omega, h.hm, ?_⟩
  rw [List.append_assoc]; exact e
theorem Df.gt (h : Df a b da db i j) (hi : i < a.length) (hj : j < b.length) (q : ((gn a i).toList == (gn b j).toList) = false) (k : Go.Op.bytesLess (gn a i).toList (gn b j).toList = false) : Df a b da (db ++ [gn b j]) i (j + 1) := by
  have e := h.he
  rw [gn_drop hi, gn_drop hj, differ_gt (by rw [eqN_eq]; exact q) (lss_leN q k), ← gn_drop hi] at e
  refine ⟨h.hi, hj, h.hl, by have := h.hm; simp; omega, ?_⟩
  rw [List.append_assoc]; exact e
theorem Df.end (h : Df a b da db i j) (k : ¬ (i < a.length ∧ j < b.length)) : da ++ a.drop i = (differ a b).1 ∧ db ++ b.drop j = (differ a b).2 := by
  have e := h.he
  have : differ (a.drop i) (b.drop j) = (a.drop i, b.drop j) := by
    by_cases q : i < a.length
    · rw [List.drop_of_length_le (l := b) (by have := h.hj; omega)]
      cases a.drop i <;> simp [differ]
    · rw [List.drop_of_length_le (l := a) (by omega)]; simp [differ]
  rw [this] at e
  exact ⟨congrArg Prod.fst e, congrArg Prod.snd e⟩
end
/-! ### Numbers -/
def kvB (B : List Nat) (l : List (Int × Nat)) : List (Nat × Value) := l.map fun p => ((B[p.1.toNat]?).getD 0, .int .i64 (p.2 : Int))
structure NmOk (n : Nat) (z : List Nat) (l : List (Int × Nat)) : Prop where
  k : ∀ p ∈ l, ∃ i : Nat, p.1 = i ∧ i < n ∧ i ∉ z ∧ 1 ≤ p.2
theorem nm0 (n : Nat) (z : List Nat) : NmOk n z [] := ⟨fun _ h => by cases h⟩
theorem lookI_mem {n : Int} {l : List (Int × Nat)} {k : Nat} (h : lookI n l = some k) : (n, k) ∈ l := by
  induction l with
  | nil => cases h
  | cons p l ih =>
    obtain ⟨m, v⟩ := p
    unfold lookI at h
    split at h
    · rename_i e; cases h; rw [e]; exact .head _
    · exact .tail _ (ih h)
theorem NmOk.pos {n : Nat} {z : List Nat} {l : List (Int × Nat)} (h : NmOk n z l) {i : Int} {k : Nat} (hl : lookI i l = some k) : 1 ≤ k := by
  obtain ⟨_, _, _, _, h1⟩ := h.k _ (lookI_mem hl)
  exact h1
theorem NmOk.numb {n : Nat} {z : List Nat} {l : List (Int × Nat)} (h : NmOk n z l) {i : Nat} (hi : i < n) (hz : i ∉ z) : NmOk n z (numb l i).1 := by
  unfold Inf.numb
  split
  · exact h
  · exact ⟨fun p hp => by
      rcases List.mem_append.1 hp with q | q
      · exact h.k p q
      · rw [List.mem_singleton.1 q]; exact ⟨i, rfl, hi, hz, by simp⟩⟩
section
variable {ty : Nat} {B z : List Nat} {C : Nat → List Value} {w : World} {l : List (Int × Nat)}
theorem kv_cb (h : (bankI ty B C z).holds w) (hl : NmOk B.length z l) : ∀ p ∈ kvB B l, Cb w p.1 := fun p hp => by
  obtain ⟨q, hq, rfl⟩ := List.mem_map.1 hp
  obtain ⟨i, e, hi, hz, _⟩ := hl.k q hq
  have : B[q.1.toNat]? = some B[i] := by rw [e]; simp [hi]
  rw [this]
  exact bank_cb h (by simp [hi]) hz
theorem look_kvB (h : (bankI ty B C z).holds w) (hl : NmOk B.length z l) {i b : Nat} (hb : B[i]? = some b) (hz : i ∉ z) : Sx.look b (kvB B l) = (lookI i l).map fun k => .int .i64 (k : Int) := by
  induction l with
  | nil => rfl
  | cons p l ih =>
    obtain ⟨m, v⟩ := p
    obtain ⟨j, e, hj, hjz, _⟩ := hl.k _ (.head _)
    simp only at e
    subst e
    have ih := ih ⟨fun p hp => hl.k p (.tail _ hp)⟩
    have hBj : (B[((j : Nat) : Int).toNat]?).getD 0 = B[j] := by simp [hj]
    have hkv : kvB B ((((j : Nat) : Int), v) :: l) = (B[j], .int .i64 (v : Int)) :: kvB B l := by simp only [kvB, List.map_cons, hBj]
    rw [hkv]
    simp only [lookI]
    by_cases q : j = i
    · subst q
      have : B[j] = b := by simp [hj] at hb; exact hb
      rw [if_pos rfl]
      simp [Sx.look, Sx.pos, this]
    · have hne : ¬ B[j] = b := fun e => q (bank_inj h (by simp [hj, e]) hb hjz hz)
      rw [if_neg (by omega), ← ih]
      unfold Sx.look
      simp only [Sx.pos, if_neg hne]
      cases Sx.pos b (kvB B l) with
      | none => rfl
      | some k => simp
theorem upd_kvB (h : (bankI ty B C z).holds w) (hl : NmOk B.length z l) {i b : Nat} (hb : B[i]? = some b) (hz : i ∉ z) (hn : lookI i l = none) (c : Nat) : Sx.upd b (.int .i64 (c : Int)) (kvB B l) = kvB B (l ++ [((i : Int), c)]) := by
  have := look_kvB h hl hb hz
  rw [hn] at this
  unfold Sx.upd
  have hp : Sx.pos b (kvB B l) = none := look_none.1 this
  rw [hp]
  simp [kvB, hb]
theorem look_num (h : (bankI ty B C z).holds w) (hl : NmOk B.length z l) {i b : Nat} (hb : B[i]? = some b) (hz : i ∉ z) {o : Option Nat} (ho : lookI i l = o) : (Sx.look b (kvB B l)).getD (.int .i64 0) = .int .i64 ((o.getD 0 : Nat) : Int) := by
  rw [look_kvB h hl hb hz, ho]; cases o <;> rfl
theorem num0 {n : Nat} (hl : NmOk n z l) {i : Int} {o : Option Nat} (ho : lookI i l = o) (h : (((o.getD 0 : Nat) : Int) == (0 : Int)) = true) : o = none := by
  cases o with
  | none => rfl
  | some k => have := hl.pos ho; have := eq_of_beq h; simp at this; omega
theorem num1 {o : Option Nat} (h : (((o.getD 0 : Nat) : Int) == (0 : Int)) = false) : ∃ k, o = some k := by
  cases o with
  | none => simp at h
  | some k => exact ⟨k, rfl⟩
theorem kvB_len : (kvB B l).length = l.length := List.length_map _
theorem look_new {i : Int} {k : Nat} (h : lookI i l = none) : lookI i (l ++ [(i, k)]) = some k := by rw [lookI_app, h]; simp
theorem numb_none {i : Nat} (h : lookI i l = none) : numb l i = (l ++ [((i : Int), l.length + 1)], l.length + 1) := by unfold numb; rw [h]
theorem numb_some {i k : Nat} (h : lookI i l = some k) : numb l i = (l, k) := by unfold numb; rw [h]
end
end Go.Slv
