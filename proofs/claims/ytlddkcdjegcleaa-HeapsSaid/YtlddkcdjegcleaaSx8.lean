/- Quiet operations of a drawn region that need a reason; rows that are made. -/
import Derived.Test.YtlddkcdjegcleaaSx7
set_option linter.unusedVariables false
set_option linter.unusedSimpArgs false
namespace Go.Sx
open Go.RowKit Go.Gx
theorem nope {b : Bool} {p : Prop} (h : b = true) (h0 : b = false) : p := by rw [h0] at h; cases h
theorem spN {w : World} {LJ : List Item} (h : LJ = []) : Sp w LJ := by subst h; exact ⟨fun _ h => (by cases h), .nil⟩
structure Tz where
  o : Oper
  k : Value → St
  l : List (Nat × Value)
instance : Inhabited Tz := ⟨⟨default, fun _ => default, []⟩⟩
def tvR (b : Nat → Value) (n i : Nat) (C : List Nat) (x : St) : Option (Nat × Nat × Tz) :=
  match x.f with
  | .any ops LJ D fuel listed => match fuel with
    | fuel + 1 => match ops[i]? with
      | some o => match Region.noSelect ops && (Region.free .any ops listed i && ((Region.ready .any ops listed).contains i && !D.contains i)) && (Region.wanted o (yl ops b n x.l) && (waits .any ops C i && !C.contains i && D.all C.contains && C.all (fun c => !listed.getD c true))) with
        | true => some (0, 0, ⟨o, fun v => ⟨.any ops LJ D fuel (listed.setIfInBounds i true), x.k, putL o v x.l⟩, x.l⟩)
        | false => none
      | none => none
    | 0 => none
  | _ => none
section
variable [Rd] {P : Program} {B : Exit → Act → World → Prop} [Pn B] {b : Nat → Value} {n : Nat} {d : List Deferred} {w0 w : World} {x : St} {L0 L : List Item}
theorem tv (i : Nat) (C : List Nat) (v : Value) (hS : clrA x = true → Sp w (LJof x))
    (hr : ∀ w', Sp w' (LJof x) → (execOp (ev b n (vX (via P b n 0 w x (tvR b n i C))).l) (vX (via P b n 0 w x (tvR b n i C))).o).run P w' = .ok (.value v) w')
    (k : Goal P B b n d ((vX (via P b n 0 w x (tvR b n i C))).k v) w)
    (h : vA (via P b n 0 w x (tvR b n i C)) = vB w (via P b n 0 w x (tvR b n i C))) : Goal P B b n d x w := by
  obtain ⟨a, y, hr0, hf⟩ := via_ok h
  simp only [run, Option.some.injEq, Prod.mk.injEq, true_and] at hr0
  subst hr0
  generalize vX (via P b n 0 w x (tvR b n i C)) = z at *
  obtain ⟨f, kk, l⟩ := x
  unfold tvR at hf
  split at hf <;> try contradiction
  rename_i ops LJ D fuel listed hfo
  split at hf <;> try contradiction
  rename_i fuel
  split at hf <;> try contradiction
  rename_i o ho
  split at hf <;> try contradiction
  rename_i hc
  simp only at hfo
  subst hfo
  simp only [Option.some.injEq, Prod.mk.injEq] at hf
  obtain ⟨_, _, rfl⟩ := hf
  rw [Bool.and_eq_true, Bool.and_eq_true (Region.wanted _ _)] at hc
  obtain ⟨h0, hw, hC⟩ := hc
  simp only [Bool.and_eq_true (Region.noSelect _), Bool.and_eq_true (Region.free _ _ _ _), Bool.and_eq_true (Array.contains _ _), Bool.and_eq_true (List.contains _ _), Bool.not_eq_true'] at h0
  obtain ⟨h1, h2, h3, h4⟩ := h0
  have hC' := hC
  simp only [Bool.and_eq_true] at hC'
  have hcl : clear D listed = true := clear_of hC'.1.2 (fun c hc => by simpa using List.all_eq_true.1 hC'.2 c hc)
  exact anyE_takeS i C v v rfl ho h1 h2 h3 h4 hC (fun _ _ _ => bp_panic) (hS hcl) hw hr k
def iaO (P : Program) (b : Nat → Value) (n : Nat) (z : Tz) : Option (List Value × List Nat) := match z.o.op with
  | .indexAddr t s ix => match P.underlying t with
    | some (.slice e) => match P.info? e with
      | some inf => some ([ev b n z.l s, ev b n z.l ix], [inf.size])
      | none => none
    | _ => none
  | _ => none
/-- A row's element's address. -/
theorem tvi (i : Nat) (C : List Nat) (a : Addr) (j sz len cap : Nat) {A : Option Addr} (hA : A = some a) (hj : j < len) (hS : clrA x = true → Sp w (LJof x))
    (k : Goal P B b n d ((vX (via P b n 0 w x (tvR b n i C))).k (.pointer (some (a.add (j * sz))))) w)
    (h : vA (via P b n 0 w x (tvR b n i C)) = vB w (via P b n 0 w x (tvR b n i C)) := by kernel_rfl)
    (h2 : iaO P b n (vX (via P b n 0 w x (tvR b n i C))) = some ([.slice A len cap, .int .i64 (j : Int)], [sz]) := by kernel_rfl) : Goal P B b n d x w := by
  refine tv i C _ hS (fun w' _ => ?_) k h
  generalize vX (via P b n 0 w x (tvR b n i C)) = z at *
  unfold iaO at h2
  split at h2 <;> try contradiction
  rename_i t s ix hop
  split at h2 <;> try contradiction
  rename_i e hu
  split at h2 <;> try contradiction
  rename_i inf hinf
  simp only [Option.some.injEq, Prod.mk.injEq, List.cons.injEq, and_true] at h2
  obtain ⟨⟨h3, h4⟩, rfl⟩ := h2
  exact run_indexAddrO hop e inf.size hu (by rw [hinf]; rfl) a hA len cap h3 .i64 j h4 hj
/-- The same of a row of one's own. -/
theorem tvg (i : Nat) (C : List Nat) (g j sz len cap : Nat) (hj : j < len) (hS : clrA x = true → Sp w (LJof x))
    (k : Goal P B b n d ((vX (via P b n 0 w x (tvR b n i C))).k (.pointer (some ⟨g, j * sz, none⟩))) w)
    (h : vA (via P b n 0 w x (tvR b n i C)) = vB w (via P b n 0 w x (tvR b n i C)) := by kernel_rfl)
    (h2 : iaO P b n (vX (via P b n 0 w x (tvR b n i C))) = some ([.slice (some ⟨g, 0, none⟩) len cap, .int .i64 (j : Int)], [sz]) := by kernel_rfl) : Goal P B b n d x w := by
  refine tvi i C ⟨g, 0, none⟩ j sz len cap rfl hj hS ?_ h h2
  have e : (⟨g, 0, none⟩ : Addr).add (j * sz) = ⟨g, j * sz, none⟩ := by unfold Addr.add; split <;> simp_all
  rw [e]
  exact k
def ldO (b : Nat → Value) (n : Nat) (z : Tz) : Option (List Value × List Nat) := match z.o.op with
  | .load t s => some ([ev b n z.l s], [t])
  | _ => none
/-- A cell, or some, of a row of one's own. -/
theorem tvl (i : Nat) (C : List Nat) (jj e sz t g cap c off : Nat) (xs : List Value) (v : Value) (hv : loadX P t xs off v) (hS : clrA x = true → Sp w (LJof x))
    (k : Goal P B b n d ((vX (via P b n 0 w x (tvR b n i C))).k v) w)
    (h : vA (via P b n 0 w x (tvR b n i C)) = vB w (via P b n 0 w x (tvR b n i C)) := by kernel_rfl)
    (h2 : ldO b n (vX (via P b n 0 w x (tvR b n i C))) = some ([.pointer (some ⟨g, off, none⟩)], [t]) := by kernel_rfl) (hi : (LJof x)[jj]? = some (.own e sz (some ⟨g, 0, none⟩) cap c xs) := by kernel_rfl) : Goal P B b n d x w := by
  refine tv i C _ hS (fun w' hs => ?_) k h
  generalize vX (via P b n 0 w x (tvR b n i C)) = z at *
  unfold ldO at h2
  split at h2 <;> try contradiction
  rename_i t' s hop
  simp only [Option.some.injEq, Prod.mk.injEq, List.cons.injEq, and_true] at h2
  obtain ⟨h3, rfl⟩ := h2
  obtain ⟨cur, hg, ht, _⟩ := own_cell (hs.all _ (List.mem_of_getElem? hi))
  exact Gx.run_load hop off v h3 hg (loadX_B hv ht)
/-- Cells of a row that is only read. -/
theorem tvo (i : Nat) (C : List Nat) {a : Addr} {t c : Nat} (cs : List Value) (v : Value) (hc : ∀ w', Sp w' (LJof x) → w'.cells? 0 a c = some cs) (hS : clrA x = true → Sp w (LJof x))
    (k : Goal P B b n d ((vX (via P b n 0 w x (tvR b n i C))).k v) w)
    (h : vA (via P b n 0 w x (tvR b n i C)) = vB w (via P b n 0 w x (tvR b n i C)) := by kernel_rfl)
    (h2 : ldO b n (vX (via P b n 0 w x (tvR b n i C))) = some ([.pointer (some a)], [t]) := by kernel_rfl)
    (hm : Nat.beq cs.length c = true := by kernel_rfl) (hv : loadL P t cs = some v := by kernel_rfl) : Goal P B b n d x w := by
  refine tv i C _ hS (fun w' hs => ?_) k h
  generalize vX (via P b n 0 w x (tvR b n i C)) = z at *
  unfold ldO at h2
  split at h2 <;> try contradiction
  rename_i t' s hop
  simp only [Option.some.injEq, Prod.mk.injEq, List.cons.injEq, and_true] at h2
  obtain ⟨h3, rfl⟩ := h2
  exact run_loadO hop cs v h3 c (hc w' hs) hm hv
/-- A value in other words. -/
theorem tva (i : Nat) (C : List Nat) (u v : Value) (e : u = v) (hS : clrA x = true → Sp w (LJof x))
    (k : Goal P B b n d ((vX (via P b n 0 w x (tvR b n i C))).k v) w)
    (h : vA (via P b n 0 w x (tvR b n i C)) = vB w (via P b n 0 w x (tvR b n i C)) := by kernel_rfl)
    (h2 : ∀ w', (execOp (ev b n (vX (via P b n 0 w x (tvR b n i C))).l) (vX (via P b n 0 w x (tvR b n i C))).o).run P w' = .ok (.value u) w' := by intro w'; kernel_rfl) : Goal P B b n d x w := by
  subst e
  exact tv i C _ hS (fun w' _ => h2 w') k h
end
section
variable [Rd] {P : Program} {B : Exit → Act → World → Prop} {b : Nat → Value} {n : Nat} {d : List Deferred} {w0 w : World} {x : St} {L0 L : List Item}
def mkA (P : Program) (b : Nat → Value) (n : Nat) (x : St) : Option Ask :=
  match hd b n x with
  | some q => match q.2.2.op with
    | .makeSlice t l c => match P.underlying t with
      | some (.slice e) => match P.info? e with
        | some inf => match inf.zero with
          | some z => some ⟨[ev b n x.l l, ev b n x.l c, z], [e, inf.size, inf.bytes], x, q⟩
          | none => none
        | none => none
      | _ => none
    | _ => none
  | none => none
/-- A row is made. -/
theorem mk (m e by_ len : Nat) (z : Value) (H : Hs w0 L0 w L) (hb : by_ * len ≤ 281474976710656) (hn : len ≤ 9223372036854775807)
    (k : ∀ g w', Hs w0 L0 w' (L ++ [.own e 1 (some ⟨g, 0, none⟩) len len (List.replicate len z)]) → Goal P B b n d (nx (vX (via P b n m w x (ask (mkA P b n)))).y (vX (via P b n m w x (ask (mkA P b n)))).q (.slice (some ⟨g, 0, none⟩) len len)) w')
    (h : vA (via P b n m w x (ask (mkA P b n))) = vB w (via P b n m w x (ask (mkA P b n))) := by kernel_rfl)
    (h2 : ((vX (via P b n m w x (ask (mkA P b n)))).u, (vX (via P b n m w x (ask (mkA P b n)))).t) = ([.int .i64 (len : Int), .int .i64 (len : Int), z], [e, 1, by_]) := by kernel_rfl) (hz : z.cells = #[z] := by kernel_rfl) : Goal P B b n d x w := by
  obtain ⟨y, hr, hf⟩ := ask_ok h
  refine run_sound hr ?_
  generalize vX (via P b n m w x (ask (mkA P b n))) = zz at *
  unfold mkA at hf
  split at hf <;> try contradiction
  rename_i q hq
  split at hf <;> try contradiction
  rename_i t l c hop
  split at hf <;> try contradiction
  rename_i e1 hu
  split at hf <;> try contradiction
  rename_i inf hinf
  split at hf <;> try contradiction
  rename_i zv hzv
  simp only [Option.some.injEq] at hf
  subst hf
  simp only [Prod.mk.injEq, List.cons.injEq, and_true] at h2
  obtain ⟨⟨h3, h4, rfl⟩, rfl, hsz, rfl⟩ := h2
  obtain ⟨w', hr, hown, hg'⟩ := run_make_full (P := P) w 0 t e1 inf zv 1 hu hinf hzv hsz .i64 .i64 len hb (by unfold maxLen; omega) (Nat.zero_le _)
  rw [hz, Nat.mul_one, toList_madeCells_one] at hown
  refine hd_val hq ?_ (k w.heap.size w' (H.add (it := .own e1 1 (some ⟨w.heap.size, 0, none⟩) len len (List.replicate len zv)) hg' hown (fun c hc => ?_)))
  · unfold execOp
    simp [hop, h3, h4, Sem.run_bind, hr]
  · have : some w.heap.size = some c := hc
    exact Nat.le_of_eq (Option.some.inj this)
end
end Go.Sx
namespace Go.Sx
section
variable [Rd] {P : Program} {B : Exit → Act → World → Prop} {b : Nat → Value} {n : Nat} {d : List Deferred} {w : World} {x : St}
/-- A state gets a name. -/
theorem nmx (k : let z := x; Goal P B b n d z w) : Goal P B b n d x w := k
end
end Go.Sx
namespace Go.Sx
open Go.RowKit Go.Gx
section
variable {w0 w : World} {L0 L : List Item}
/-- A block as a row of one's own. -/
theorem Hs.toOwn (H : Hs w0 L0 w L) (i sz n : Nat) {k e : Nat} {cs : Array Value} (hi : L[i]? = some (.blk k (.cells cs e))) (hs : cs.size = n * sz) (hn : n ≤ 9223372036854775807) : Hs w0 L0 w (L.set i (.own e sz (some ⟨k, 0, none⟩) n n cs.toList)) :=
  H.as i _ hi rfl ⟨by simpa using hs, .inr ⟨k, n, cs, rfl, Nat.zero_le _, H.at i hi, Nat.le_refl _, hn, hs, List.take_of_length_le (by rw [Array.length_toList, hs]; exact Nat.le_refl _)⟩⟩ (fun c hc => by
    have : some k = some c := hc
    exact (Option.some.inj this).symm)
end
end Go.Sx
namespace Go.Sx
open Go.RowKit Go.Gx Go.MapKept
section
variable [Rd] {P : Program} {B : Exit → Act → World → Prop} [Pn B] {b : Nat → Value} {n : Nat} {d : List Deferred} {w0 w : World} {x : St} {L0 L : List Item} {α : Type} [DecidableEq α]
omit [Rd] in
theorem lk_run {o : Oper} {t kt et : TypeId} {mo ix : Operand} {l : List (Nat × Value)} (hop : o.op = .lookup t mo ix true) {kd : TypeDesc} {enc : α → Value} {bt : Nat} {mp : List (α × Value)} {a : α} {z : Value}
    (h3 : ev b n l mo = .map (some bt)) (h4 : ev b n l ix = enc a) (hh : (mapI kd enc bt mp).holds w) (hk : ∀ a, IsKey kd (enc a)) (hinj : ∀ a b, enc a = enc b → a = b)
    (ht : mapT P t = some (kt, et)) (hkt : P.underlying kt = some kd) (hz : (P.info? et).bind (·.zero) = some z) :
    (execOp (ev b n l) o).run P w = .ok (.value (.tuple #[(Sx.look a mp).getD z, .bool (Sx.look a mp).isSome])) w := by
  obtain ⟨⟨es, ck, hb, hst, hky, hm⟩, _, _⟩ := hh
  have hmt := mapT_eq ht
  have hfn := findNow_pos hk hinj a es.toList mp 0 hm
  rw [look_eq] at hfn
  have hzv : (zeroValue et).run P w = .ok z w := by
    cases hinf : P.info? et with
    | none => simp [hinf] at hz
    | some inf => rw [hinf] at hz; simp only [Option.bind_some] at hz; simp [zeroValue, typeInfo, hinf, hz]
  unfold execOp
  have hgo := MapKept.run_getObj_map (P := P) (w := w) hb
  have hck : (Instr.checkKey es.isEmpty 10000 kt (enc a)).run P w = .ok () w := run_checkKey hkt (hk a) _ 9999
  cases hp : pos a mp with
  | none =>
    have hl := look_none.2 hp
    rw [hp] at hfn
    have hfk := run_findKey (P := P) (w := w) hkt hfn
    simp [hop, h3, h4, Instr.lookup, run_underlying hmt, Sem.run_bind, hgo, hck, hfk, hzv, hl, Result.andThen]
  | some j =>
    obtain ⟨v, hv⟩ := pos_some hp
    have hl : Sx.look a mp = some v := by unfold Sx.look; rw [hp]; simp [hv]
    rw [hp] at hfn
    simp only [hl, Option.map_some] at hfn
    have hfk := run_findKey (P := P) (w := w) hkt hfn
    simp [hop, h3, h4, Instr.lookup, run_underlying hmt, Sem.run_bind, hgo, hck, hfk, hl, Result.andThen]
def lkO (b : Nat → Value) (n : Nat) (z : Tz) : Option (List Value × List Nat) := match z.o.op with
  | .lookup t mp ix ok => match ok with
    | true => some ([ev b n z.l mp, ev b n z.l ix], [t])
    | false => none
  | _ => none
/-- A map is asked, with ok. -/
theorem tvk (i : Nat) (C : List Nat) (jj : Nat) {kd : TypeDesc} {enc : α → Value} {bt t kt et : Nat} {mp : List (α × Value)} (a : α) (z v : Value) (hk : ∀ a, IsKey kd (enc a)) (hinj : ∀ a b, enc a = enc b → a = b)
    (hv : .tuple #[(Sx.look a mp).getD z, .bool (Sx.look a mp).isSome] = v) (hS : clrA x = true → Sp w (LJof x))
    (k : Goal P B b n d ((vX (via P b n 0 w x (tvR b n i C))).k v) w) (hi : (LJof x)[jj]? = some (mapI kd enc bt mp))
    (h : vA (via P b n 0 w x (tvR b n i C)) = vB w (via P b n 0 w x (tvR b n i C)))
    (h2 : lkO b n (vX (via P b n 0 w x (tvR b n i C))) = some ([.map (some bt), enc a], [t]))
    (ht : mapT P t = some (kt, et)) (hkt : P.underlying kt = some kd) (hz : (P.info? et).bind (·.zero) = some z) : Goal P B b n d x w := by
  refine tv i C _ hS (fun w' hs => ?_) k h
  generalize vX (via P b n 0 w x (tvR b n i C)) = zz at *
  unfold lkO at h2
  split at h2 <;> try contradiction
  rename_i t' mo ix ok hop
  split at h2 <;> try contradiction
  simp only [Option.some.injEq, Prod.mk.injEq, List.cons.injEq, and_true] at h2
  obtain ⟨⟨h3, h4⟩, rfl⟩ := h2
  subst hv
  exact lk_run hop h3 h4 (hs.all _ (List.mem_of_getElem? hi)) hk hinj ht hkt hz
end
end Go.Sx
namespace Go.Sx
open Go.RowKit Go.Gx
section
variable {w0 w : World} {L0 L : List Item}
/-- What is only read, said once more in other words. -/
theorem Hs.ro (H : Hs w0 L0 w L) (i : Nat) {S : Nat → Prop} {A B : World → Prop} (hi : L[i]? = some (.ro S A)) (hB : B w) (hl : Loc S B) : Hs w0 L0 w (L ++ [.ro S B]) := by
  have hm : (Item.ro S A) ∈ L := List.mem_of_getElem? hi
  have hA := H.sp.all _ hm
  refine H.step (Kp.refl (fun _ => False) w) (fun _ q => q.elim) ⟨fun j hj => ?_, ?_⟩ ?_ ?_
  · rcases List.mem_append.1 hj with q | q
    · exact H.sp.all j q
    · rw [List.mem_singleton.1 q]; exact ⟨hB, hA.2.1, hl⟩
  · refine List.pairwise_append.2 ⟨H.sp.dis, List.pairwise_singleton _ _, fun x hx y hy => ?_⟩
    rw [List.mem_singleton.1 hy]
    obtain ⟨j, hj⟩ := List.mem_iff_getElem?.1 hx
    obtain ⟨hi', ei⟩ := List.getElem?_eq_some_iff.1 hi
    obtain ⟨hj', ej⟩ := List.getElem?_eq_some_iff.1 hj
    have pw := List.pairwise_iff_getElem.1 H.sp.dis
    intro hw c hc hc'
    rcases Nat.lt_trichotomy j i with r | r | r
    · have := pw j i hj' hi' r; rw [ei, ej] at this; exact this hw c hc hc'
    · subst r; rw [ei] at ej; subst ej; cases hw
    · have := pw i j hi' hj' r; rw [ei, ej] at this; exact this (by rw [Bool.or_comm]; exact hw) c hc' hc
  · intro x hx c hc _
    rcases List.mem_append.1 hx with q | q
    · exact ⟨x, q, hc⟩
    · rw [List.mem_singleton.1 q] at hc; exact ⟨_, hm, hc⟩
  · intro x hx hxw c hc _
    rcases List.mem_append.1 hx with q | q
    · exact ⟨x, q, hxw, hc⟩
    · rw [List.mem_singleton.1 q] at hxw; cases hxw
end
end Go.Sx
namespace Go.Sx
open Go.RowKit Go.Gx
section
variable {w0 w : World} {L0 L L1 : List Item}
/-- Some things become one that is only read. -/
theorem Hs.fz (H : Hs w0 L0 w L) (I : List Nat) (hi : picked I L = some L1) {φ : World → Prop} (hφ : Sp w L1 → φ w) (hl : Loc (fpA L1) φ) : Hs w0 L0 w (.ro (fpA L1) φ :: rest I L) := by
  have k := H.perm (picked_perm hi)
  have pw := List.pairwise_append.1 k.sp.dis
  have s1 : Sp w L1 := ⟨fun it hi => k.sp.all it (List.mem_append_left _ hi), pw.1⟩
  refine ⟨k.kp, ⟨fun it hi => ?_, List.pairwise_cons.2 ⟨fun y hy => ?_, pw.2.1⟩⟩, fun it hi c hc hl => ?_, fun it hi hww c hc hl => ?_⟩
  · rcases List.mem_cons.1 hi with rfl | q
    · exact ⟨hφ s1, fun c ⟨it, hi, hc⟩ => Item.lt (s1.all it hi) hc, hl⟩
    · exact k.sp.all it (List.mem_append_right _ q)
  · rintro hw c ⟨x, hx, hc⟩ hcy
    have : y.wr = true := by simpa [Item.wr] using hw
    exact pw.2.2 x hx y hy (by rw [this, Bool.or_true]) c hc hcy
  · rcases List.mem_cons.1 hi with rfl | q
    · obtain ⟨x, hx, hc⟩ := hc; exact k.ofA x (List.mem_append_left _ hx) c hc hl
    · exact k.ofA it (List.mem_append_right _ q) c hc hl
  · rcases List.mem_cons.1 hi with rfl | q
    · cases hww
    · exact k.ofW it (List.mem_append_right _ q) hww c hc hl
end
end Go.Sx
