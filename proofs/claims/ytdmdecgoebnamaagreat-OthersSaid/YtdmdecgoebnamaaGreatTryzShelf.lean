/-
  DERIVED: THE SHELF's CONTRACTS AT THIS DUMP, IN PLAIN WORDS (tools/lay-plain.mjs out of 'TryzShelf.lean', which tools/lay-shelf.mjs wrote): THE SAME DECLARATIONS UNDER THE SAME NAMES: 'import', 'namespace', 'open', 'def', 'theorem' AND NOTHING ELSE: no command of the shelf's: FOR A HAND-IN. Each laying: the table of numbers ('.._ren') and one theorem, a field a fact of the dump's own or the kernel's comparison; each contract: ONE APPLICATION.
-/
import Derived.Shelf.Strings.Builder1
import Derived.Shelf.Strings.Builder2
import Derived.Shelf.Strings.OnBuilder
import Derived.Shelf.Strings.BuilderF
import Derived.Shelf.Strings.BuilderK
import Derived.Shelf.Strings.Builder2Cap
import Derived.Test.YtdmdecgoebnamaaGreatProg
import Derived.Test.YtdmdecgoebnamaaGreatInfShow
import Derived.Test.YtdmdecgoebnamaaGreatGraph
set_option linter.unusedVariables false
set_option linter.unusedSimpArgs false
namespace Go.Proofs
open Go.Shelf
def Tryz.lays156_ren : Go.Shelf.Ren := ⟨fun | 156 => 23 | 165 => 30 | 166 => 31 | 169 => 32 | 240 => 41 | 241 => 42 | 276 => 72 | 277 => 73 | n => n, fun | 31 => 30 | 9 => 9 | 3 => 3 | 4 => 4 | 0 => 0 | 20 => 20 | 72 => 81 | 76 => 84 | 70 => 79 | 37 => 78 | 75 => 83 | 127 => 100 | 164 => 144 | 5 => 5 | 80 => 86 | n => n, fun | n => n⟩
theorem Tryz.lays156 : Go.Proofs.Lays.n156 Tryz.prog Tryz.lays156_ren := {
  mixed := by kernel_rfl
  f156 := Tryz.func23.trans (congrArg some (by kernel_rfl))
  f165 := Tryz.func30.trans (congrArg some (by kernel_rfl))
  f166 := Tryz.func31.trans (congrArg some (by kernel_rfl))
  f169 := Tryz.func32.trans (congrArg some (by kernel_rfl))
  f240 := Tryz.func41.trans (congrArg some (by kernel_rfl))
  f241 := Tryz.func42.trans (congrArg some (by kernel_rfl))
  f276 := Tryz.func72.trans (congrArg some (by kernel_rfl))
  f277 := Tryz.func73.trans (congrArg some (by kernel_rfl))
  t0 := Tryz.underlying0
  a0 := Tryz.isAgg0
  z0 := Tryz.sizeOf0
  v0 := Tryz.zeroValue0
  t3 := Tryz.underlying3
  a3 := Tryz.isAgg3
  z3 := Tryz.sizeOf3
  v3 := Tryz.zeroValue3
  t4 := Tryz.underlying4
  a4 := Tryz.isAgg4
  z4 := Tryz.sizeOf4
  v4 := Tryz.zeroValue4
  t9 := Tryz.underlying9
  a9 := Tryz.isAgg9
  z9 := Tryz.sizeOf9
  v9 := Tryz.zeroValue9
  t20 := Tryz.underlying20
  a20 := Tryz.isAgg20
  z20 := Tryz.sizeOf20
  v20 := Tryz.zeroValue20
  t31 := Tryz.underlying30
  a31 := Tryz.isAgg30
  z31 := Tryz.sizeOf30
  v31 := Tryz.zeroValue30
  t37 := Tryz.underlying78
  a37 := Tryz.isAgg78
  z37 := Tryz.sizeOf78
  v37 := Tryz.zeroValue78
  t70 := Tryz.underlying79
  a70 := Tryz.isAgg79
  z70 := Tryz.sizeOf79
  v70 := Tryz.zeroValue79
  t72 := Tryz.underlying81
  a72 := Tryz.isAgg81
  z72 := Tryz.sizeOf81
  v72 := Tryz.zeroValue81
  t75 := Tryz.underlying83
  a75 := Tryz.isAgg83
  z75 := Tryz.sizeOf83
  v75 := Tryz.zeroValue83
  t76 := Tryz.underlying84
  a76 := Tryz.isAgg84
  z76 := Tryz.sizeOf84
  v76 := Tryz.zeroValue84
  t127 := Tryz.underlying100
  a127 := Tryz.isAgg100
  z127 := Tryz.sizeOf100
  v127 := Tryz.zeroValue100
  t164 := Tryz.underlying144
  a164 := Tryz.isAgg144
  z164 := Tryz.sizeOf144
  v164 := Tryz.zeroValue144 }
theorem Tryz.Builder_Extra_156 : Builder.Extra Tryz.prog Tryz.lays156_ren := {
  sizeBuilder := by kernel_rfl
  liesBuilder := by kernel_rfl
  t5 := Tryz.underlying5
  a5 := Tryz.isAgg5
  z5 := Tryz.sizeOf5
  v5 := Tryz.zeroValue5
  infoByte := by kernel_rfl
  cellsByte := by kernel_rfl
  sizeByte := by kernel_rfl
  neB5 := by decide }
open Go.RowKit in
/-- strings.Join: "Join concatenates the elements of its first argument to create a single string. The separator string sep is placed between elements in the resulting string.": HOWEVER MANY ELEMENTS. Below the heap's end the world is as it was. (LAID: no walk: one application.) -/
theorem Tryz.strings_Join (bk o c : Nat) (xs : List ByteArray) (sep : ByteArray) (w : World) (hcells : ∀ (j : Nat) x, xs[j]? = some x → w.cell? ⟨bk, o + j, none⟩ = some (.string x)) (hbk : bk < w.heap.size) (hN : xs.length ≤ 140737488355328) (hcap : xs.length ≤ c) (hlen : (Lib.join (xs.map (·.data.toList)) sep.data.toList).length ≤ 140737488355328) :
    Calls Tryz.prog 23 #[.slice (some ⟨bk, o, none⟩) xs.length c, .string sep] w fun e w' => e = .returned (.string ⟨(Lib.join (xs.map (·.data.toList)) sep.data.toList).toArray⟩) ∧ Below w.heap.size w w' := Any.strings_Join Tryz.lays156 Tryz.Builder_Extra_156 bk o c xs sep w hcells hbk hN hcap hlen
end Go.Proofs
/- The texts of the prelude, read off the program's own form; strings.Join beside the things of the other functions. -/
namespace Go.Inf
open Go.Syn
def lnK (c : Code) : List ByteArray := match c with
  | .region _ ops _ => ops.toList.flatMap fun o => match o.op with
    | .buildSlice _ _ parts => parts.toList.filterMap fun x => match x.2 with
      | .const (.string s) => some s
      | _ => none
    | _ => []
  | _ => []
noncomputable def lnS (p : List Nat) : List ByteArray := lnK (Sx.cat p (Sx.bodyOf Proofs.Tryz.f22))
noncomputable def lnC (p : List Nat) : Array Value := ((lnS p).map Value.string).toArray
def joinT (ls : List ByteArray) : ByteArray := ⟨(Lib.join (ls.map (·.data.toList)) (⟨#[10]⟩ : ByteArray).data.toList).toArray⟩
noncomputable def txt (p : List Nat) : ByteArray := joinT (lnS p) ++ ⟨#[10]⟩
def Begun (t a b : ByteArray) : Prop := ∃ (kd na : Nat) (nm : Nm) (nb : Nat) (ks : List Nd) (fk fa k : Nat) (r : List (Nm × Ty) × Ty × Nat × Int),
  parseP (t ++ ⟨#[32, 109, 97, 105, 110, 32, 61, 32, 49]⟩) = (.mk kd na nm (nb : Int) ks, fk, fa) ∧ foundM k nb ks = some r ∧ kd = 0 ∧ fk = 0 ∧ r.2.2.1 = 0 ∧ t.size ≤ 1500 ∧ r.1.length < 1000000000 ∧ bgM a b (r.1.map (·.1)) 0 = true
end Go.Inf
namespace Go.Proofs.YtdmdecgoebnamaaGreat
open Go.RowKit Go.Sx Go.Inf Go.Syn
theorem Join_s (bk : Nat) (ls : List ByteArray) (w : World) (K : Ending → World → Prop) (H0 : Sp w [.blk bk (.cells (ls.map Value.string).toArray 9)]) (hN : ls.length ≤ 1000) (hl : (joinT ls).size ≤ 100000)
    (hK : ∀ w', Hs w [.blk bk (.cells (ls.map Value.string).toArray 9)] w' [.blk bk (.cells (ls.map Value.string).toArray 9)] → K (.returned (.string (joinT ls))) w') :
    Calls Tryz.prog 23 #[.slice (some ⟨bk, 0, none⟩) ls.length ls.length, .string ⟨#[10]⟩] w K := by
  have hb : w.heap[bk]? = some (.cells (ls.map Value.string).toArray 9) := H0.all _ (List.mem_singleton.2 rfl)
  refine (Tryz.strings_Join bk 0 ls.length ls ⟨#[10]⟩ w (fun j x hx => ?_) ?_ (by omega) (Nat.le_refl _) ?_).mono ?_
  · have e : (ls.map Value.string).toArray[0 + j]? = some (.string x) := by rw [Nat.zero_add]; simp [hx]
    simp [World.cell?, hb, e, hx]
  · exact (Array.getElem?_eq_some_iff.1 hb).1
  · have : (joinT ls).size = (Lib.join (ls.map (·.data.toList)) (⟨#[10]⟩ : ByteArray).data.toList).length := by unfold joinT; show (List.toArray _).size = _; simp
    omega
  · rintro e w' ⟨rfl, hbl⟩
    exact hK w' ((Hs.refl H0).ext (Gx.Ext.of_below hbl))
theorem begins_s (t a b : ByteArray) (w : World) (K : Ending → World → Prop) (H0 : Sp w []) (hg : Begun t a b) (hK : ∀ w', Hs w [] w' [] → K (.returned (.bool true)) w') : Calls Tryz.prog 11 #[.string t, .string a, .string b] w K := by
  obtain ⟨kd, na, nm, nb, ks, fk, fa, k, r, h1, h2, h3, h4, h5, h6, h7, h8⟩ := hg
  exact begins_c t a b w K H0 kd na nm nb ks fk fa h1 k r h2 h3 h4 h5 h6 h7 (fun w' x => by rw [h8]; exact hK w' x)
end Go.Proofs.YtdmdecgoebnamaaGreat
namespace Go.Proofs.YtdmdecgoebnamaaGreat
open Go.RowKit Go.Sx Go.Inf Go.Syn Go.Show
attribute [local irreducible] Go.wpOps Go.Code.wp Go.wpOp Go.wpAnyH Go.Calls Go.Sx.Goal
set_option maxRecDepth 20000
theorem lines_state  (w : World) (K : Ending → World → Prop) (H0 : Sp w []) (hK : ∀ (b : Nat) w', Hs w [] w' [.blk b (.cells (lnC [1, 0, 1, 0, 1, 0, 0]) 9)] → K (.returned (.slice (some ⟨b, 0, none⟩) 3 3)) w') :
    Calls Tryz.prog 22 #[.string (⟨#[115, 116, 97, 116, 101]⟩ : ByteArray)] w K := by
  obtain ⟨L0, hL0, H⟩ := Sx.op0 H0
  refine Sx.en (vs := [.string (⟨#[115, 116, 97, 116, 101]⟩ : ByteArray)]) 19 Tryz.func22 ?_
  refine Sx.br 18 ((⟨#[115, 116, 97, 116, 101]⟩ : ByteArray).toList == (⟨#[115, 116, 97, 116, 101]⟩ : ByteArray).toList) (fun h_c4 => ?_) (fun h_c4 => ?_)
  · refine Sx.nw 2 H fun k1 w1 H1 => ?_
    refine Sx.rt 6 [] H1 (.slice (some ⟨k1, 0, none⟩) 3 3) ?_
    subst hL0
    exact hK k1 _ (H1.pk [0])
  exact Bool.noConfusion (h_c4.symm.trans (show _ = true by kernel_rfl))
theorem lines_choose  (w : World) (K : Ending → World → Prop) (H0 : Sp w []) (hK : ∀ (b : Nat) w', Hs w [] w' [.blk b (.cells (lnC [1, 0, 1, 0, 1, 1, 1, 0, 0]) 9)] → K (.returned (.slice (some ⟨b, 0, none⟩) 4 4)) w') :
    Calls Tryz.prog 22 #[.string (⟨#[99, 104, 111, 111, 115, 101]⟩ : ByteArray)] w K := by
  obtain ⟨L0, hL0, H⟩ := Sx.op0 H0
  refine Sx.en (vs := [.string (⟨#[99, 104, 111, 111, 115, 101]⟩ : ByteArray)]) 19 Tryz.func22 ?_
  refine Sx.br 18 ((⟨#[99, 104, 111, 111, 115, 101]⟩ : ByteArray).toList == (⟨#[115, 116, 97, 116, 101]⟩ : ByteArray).toList) (fun h_c4 => ?_) (fun h_c4 => ?_)
  · exact Bool.noConfusion (h_c4.symm.trans (show _ = false by kernel_rfl))
  refine Sx.br 6 ((⟨#[99, 104, 111, 111, 115, 101]⟩ : ByteArray).toList == (⟨#[99, 104, 111, 111, 115, 101]⟩ : ByteArray).toList) (fun h_c7 => ?_) (fun h_c7 => ?_)
  · refine Sx.nw 2 H fun k1 w1 H1 => ?_
    refine Sx.rt 6 [] H1 (.slice (some ⟨k1, 0, none⟩) 4 4) ?_
    subst hL0
    exact hK k1 _ (H1.pk [0])
  exact Bool.noConfusion (h_c7.symm.trans (show _ = true by kernel_rfl))
theorem lines_gen  (w : World) (K : Ending → World → Prop) (H0 : Sp w []) (hK : ∀ (b : Nat) w', Hs w [] w' [.blk b (.cells (lnC [1, 0, 1, 0, 1, 1, 1, 1, 1, 0, 0]) 9)] → K (.returned (.slice (some ⟨b, 0, none⟩) 3 3)) w') :
    Calls Tryz.prog 22 #[.string (⟨#[103, 101, 110]⟩ : ByteArray)] w K := by
  obtain ⟨L0, hL0, H⟩ := Sx.op0 H0
  refine Sx.en (vs := [.string (⟨#[103, 101, 110]⟩ : ByteArray)]) 19 Tryz.func22 ?_
  refine Sx.br 18 ((⟨#[103, 101, 110]⟩ : ByteArray).toList == (⟨#[115, 116, 97, 116, 101]⟩ : ByteArray).toList) (fun h_c4 => ?_) (fun h_c4 => ?_)
  · exact Bool.noConfusion (h_c4.symm.trans (show _ = false by kernel_rfl))
  refine Sx.br 6 ((⟨#[103, 101, 110]⟩ : ByteArray).toList == (⟨#[99, 104, 111, 111, 115, 101]⟩ : ByteArray).toList) (fun h_c7 => ?_) (fun h_c7 => ?_)
  · exact Bool.noConfusion (h_c7.symm.trans (show _ = false by kernel_rfl))
  refine Sx.br 6 ((⟨#[103, 101, 110]⟩ : ByteArray).toList == (⟨#[103, 101, 110]⟩ : ByteArray).toList) (fun h_c10 => ?_) (fun h_c10 => ?_)
  · refine Sx.nw 2 H fun k1 w1 H1 => ?_
    refine Sx.rt 6 [] H1 (.slice (some ⟨k1, 0, none⟩) 3 3) ?_
    subst hL0
    exact hK k1 _ (H1.pk [0])
  exact Bool.noConfusion (h_c10.symm.trans (show _ = true by kernel_rfl))
theorem lines_sched  (w : World) (K : Ending → World → Prop) (H0 : Sp w []) (hK : ∀ (b : Nat) w', Hs w [] w' [.blk b (.cells (lnC [1, 0, 1, 0, 1, 1, 1, 1, 1, 1, 1, 0, 0]) 9)] → K (.returned (.slice (some ⟨b, 0, none⟩) 9 9)) w') :
    Calls Tryz.prog 22 #[.string (⟨#[115, 99, 104, 101, 100]⟩ : ByteArray)] w K := by
  obtain ⟨L0, hL0, H⟩ := Sx.op0 H0
  refine Sx.en (vs := [.string (⟨#[115, 99, 104, 101, 100]⟩ : ByteArray)]) 19 Tryz.func22 ?_
  refine Sx.br 18 ((⟨#[115, 99, 104, 101, 100]⟩ : ByteArray).toList == (⟨#[115, 116, 97, 116, 101]⟩ : ByteArray).toList) (fun h_c4 => ?_) (fun h_c4 => ?_)
  · exact Bool.noConfusion (h_c4.symm.trans (show _ = false by kernel_rfl))
  refine Sx.br 6 ((⟨#[115, 99, 104, 101, 100]⟩ : ByteArray).toList == (⟨#[99, 104, 111, 111, 115, 101]⟩ : ByteArray).toList) (fun h_c7 => ?_) (fun h_c7 => ?_)
  · exact Bool.noConfusion (h_c7.symm.trans (show _ = false by kernel_rfl))
  refine Sx.br 6 ((⟨#[115, 99, 104, 101, 100]⟩ : ByteArray).toList == (⟨#[103, 101, 110]⟩ : ByteArray).toList) (fun h_c10 => ?_) (fun h_c10 => ?_)
  · exact Bool.noConfusion (h_c10.symm.trans (show _ = false by kernel_rfl))
  refine Sx.br 6 ((⟨#[115, 99, 104, 101, 100]⟩ : ByteArray).toList == (⟨#[115, 99, 104, 101, 100]⟩ : ByteArray).toList) (fun h_c13 => ?_) (fun h_c13 => ?_)
  · refine Sx.nw 2 H fun k1 w1 H1 => ?_
    refine Sx.nz 3 (.code (Sx.ct 13821 Tryz.f22)) [.blk 0, .code (Sx.ct 7 Tryz.f22)] [(2, .slice (some ⟨k1, 0, none⟩) 9 9)] fun b1 => Sx.rt 3 [] H1 (.slice (some ⟨k1, 0, none⟩) 9 9) ?_
    subst hL0
    exact hK k1 _ (H1.pk [0])
  exact Bool.noConfusion (h_c13.symm.trans (show _ = true by kernel_rfl))
theorem lines_catch  (w : World) (K : Ending → World → Prop) (H0 : Sp w []) (hK : ∀ (b : Nat) w', Hs w [] w' [.blk b (.cells (lnC [1, 0, 1, 0, 1, 1, 1, 1, 1, 1, 1, 1, 1, 0, 0]) 9)] → K (.returned (.slice (some ⟨b, 0, none⟩) 3 3)) w') :
    Calls Tryz.prog 22 #[.string (⟨#[99, 97, 116, 99, 104]⟩ : ByteArray)] w K := by
  obtain ⟨L0, hL0, H⟩ := Sx.op0 H0
  refine Sx.en (vs := [.string (⟨#[99, 97, 116, 99, 104]⟩ : ByteArray)]) 19 Tryz.func22 ?_
  refine Sx.br 18 ((⟨#[99, 97, 116, 99, 104]⟩ : ByteArray).toList == (⟨#[115, 116, 97, 116, 101]⟩ : ByteArray).toList) (fun h_c4 => ?_) (fun h_c4 => ?_)
  · exact Bool.noConfusion (h_c4.symm.trans (show _ = false by kernel_rfl))
  refine Sx.br 6 ((⟨#[99, 97, 116, 99, 104]⟩ : ByteArray).toList == (⟨#[99, 104, 111, 111, 115, 101]⟩ : ByteArray).toList) (fun h_c7 => ?_) (fun h_c7 => ?_)
  · exact Bool.noConfusion (h_c7.symm.trans (show _ = false by kernel_rfl))
  refine Sx.br 6 ((⟨#[99, 97, 116, 99, 104]⟩ : ByteArray).toList == (⟨#[103, 101, 110]⟩ : ByteArray).toList) (fun h_c10 => ?_) (fun h_c10 => ?_)
  · exact Bool.noConfusion (h_c10.symm.trans (show _ = false by kernel_rfl))
  refine Sx.br 6 ((⟨#[99, 97, 116, 99, 104]⟩ : ByteArray).toList == (⟨#[115, 99, 104, 101, 100]⟩ : ByteArray).toList) (fun h_c13 => ?_) (fun h_c13 => ?_)
  · exact Bool.noConfusion (h_c13.symm.trans (show _ = false by kernel_rfl))
  refine Sx.nz 6 (.code (Sx.ct 13823 Tryz.f22)) [.blk 0, .code (Sx.ct 7 Tryz.f22)] [(16, .bool ((⟨#[99, 97, 116, 99, 104]⟩ : ByteArray).toList == (⟨#[99, 97, 116, 99, 104]⟩ : ByteArray).toList))] fun b1 => ?_
  refine Sx.br 0 ((⟨#[99, 97, 116, 99, 104]⟩ : ByteArray).toList == (⟨#[99, 97, 116, 99, 104]⟩ : ByteArray).toList) (fun h_c16 => ?_) (fun h_c16 => ?_)
  · refine Sx.nw 2 H fun k1 w1 H1 => ?_
    refine Sx.rt 6 [] H1 (.slice (some ⟨k1, 0, none⟩) 3 3) ?_
    subst hL0
    exact hK k1 _ (H1.pk [0])
  exact Bool.noConfusion (h_c16.symm.trans (show _ = true by kernel_rfl))
theorem lines_other (s : ByteArray) (w : World) (K : Ending → World → Prop) (H0 : Sp w []) (n_state : (s.toList == (⟨#[115, 116, 97, 116, 101]⟩ : ByteArray).toList) = false) (n_choose : (s.toList == (⟨#[99, 104, 111, 111, 115, 101]⟩ : ByteArray).toList) = false) (n_gen : (s.toList == (⟨#[103, 101, 110]⟩ : ByteArray).toList) = false) (n_sched : (s.toList == (⟨#[115, 99, 104, 101, 100]⟩ : ByteArray).toList) = false) (n_catch : (s.toList == (⟨#[99, 97, 116, 99, 104]⟩ : ByteArray).toList) = false) (hK : ∀ w', Hs w [] w' [] → K (.returned (.slice none 0 0)) w') :
    Calls Tryz.prog 22 #[.string s] w K := by
  obtain ⟨L0, hL0, H⟩ := Sx.op0 H0
  refine Sx.en (vs := [.string s]) 19 Tryz.func22 ?_
  refine Sx.br 18 (s.toList == (⟨#[115, 116, 97, 116, 101]⟩ : ByteArray).toList) (fun h_c4 => ?_) (fun h_c4 => ?_)
  · exact Bool.noConfusion (h_c4.symm.trans n_state)
  refine Sx.br 6 (s.toList == (⟨#[99, 104, 111, 111, 115, 101]⟩ : ByteArray).toList) (fun h_c7 => ?_) (fun h_c7 => ?_)
  · exact Bool.noConfusion (h_c7.symm.trans n_choose)
  refine Sx.br 6 (s.toList == (⟨#[103, 101, 110]⟩ : ByteArray).toList) (fun h_c10 => ?_) (fun h_c10 => ?_)
  · exact Bool.noConfusion (h_c10.symm.trans n_gen)
  refine Sx.br 6 (s.toList == (⟨#[115, 99, 104, 101, 100]⟩ : ByteArray).toList) (fun h_c13 => ?_) (fun h_c13 => ?_)
  · exact Bool.noConfusion (h_c13.symm.trans n_sched)
  refine Sx.nz 6 (.code (Sx.ct 13823 Tryz.f22)) [.blk 0, .code (Sx.ct 7 Tryz.f22)] [(16, .bool (s.toList == (⟨#[99, 97, 116, 99, 104]⟩ : ByteArray).toList))] fun b1 => ?_
  refine Sx.br 0 (s.toList == (⟨#[99, 97, 116, 99, 104]⟩ : ByteArray).toList) (fun h_c16 => ?_) (fun h_c16 => ?_)
  · exact Bool.noConfusion (h_c16.symm.trans n_catch)
  refine Sx.rt 9 [] H (.slice none 0 0) ?_
  subst hL0
  exact hK _ (H.pk [])
theorem Text_state  (w : World) (K : Ending → World → Prop) (H0 : Sp w []) (hK : ∀ w', Hs w [] w' [] → K (.returned (.string (txt [1, 0, 1, 0, 1, 0, 0]))) w') :
    Calls Tryz.prog 10 #[.string (⟨#[115, 116, 97, 116, 101]⟩ : ByteArray)] w K := by
  obtain ⟨L0, hL0, H⟩ := Sx.op0 H0
  refine Sx.en (vs := [.string (⟨#[115, 116, 97, 116, 101]⟩ : ByteArray)]) 11 Tryz.func10 ?_
  refine Sx.c 8 [] H (fun Hp R hZ => lines_state w R Hp  (fun lb1 w1 G1 => hZ _ _ _ G1 fun H1 => ?_))
  refine Sx.c 16 [0] H1 (fun Hp R hZ => Join_s lb1 (lnS [1, 0, 1, 0, 1, 0, 0]) w1 R Hp (Nat.le_of_ble_eq_true (by kernel_rfl)) (Nat.le_of_ble_eq_true (by kernel_rfl)) (fun w2 G2 => hZ _ _ _ G2 fun H2 => ?_))
  refine Sx.scat 0 (joinT (lnS [1, 0, 1, 0, 1, 0, 0])) (⟨#[10]⟩ : ByteArray) (Nat.le_of_ble_eq_true (by kernel_rfl)) <| Sx.rt 4 [] H2 (.string ((joinT (lnS [1, 0, 1, 0, 1, 0, 0])) ++ (⟨#[10]⟩ : ByteArray))) ?_
  subst hL0
  exact Gx.ret_as (v' := .string (txt [1, 0, 1, 0, 1, 0, 0])) rfl (hK _ (H2.pk []))
theorem Text_choose  (w : World) (K : Ending → World → Prop) (H0 : Sp w []) (hK : ∀ w', Hs w [] w' [] → K (.returned (.string (txt [1, 0, 1, 0, 1, 1, 1, 0, 0]))) w') :
    Calls Tryz.prog 10 #[.string (⟨#[99, 104, 111, 111, 115, 101]⟩ : ByteArray)] w K := by
  obtain ⟨L0, hL0, H⟩ := Sx.op0 H0
  refine Sx.en (vs := [.string (⟨#[99, 104, 111, 111, 115, 101]⟩ : ByteArray)]) 11 Tryz.func10 ?_
  refine Sx.c 8 [] H (fun Hp R hZ => lines_choose w R Hp  (fun lb1 w1 G1 => hZ _ _ _ G1 fun H1 => ?_))
  refine Sx.c 16 [0] H1 (fun Hp R hZ => Join_s lb1 (lnS [1, 0, 1, 0, 1, 1, 1, 0, 0]) w1 R Hp (Nat.le_of_ble_eq_true (by kernel_rfl)) (Nat.le_of_ble_eq_true (by kernel_rfl)) (fun w2 G2 => hZ _ _ _ G2 fun H2 => ?_))
  refine Sx.scat 0 (joinT (lnS [1, 0, 1, 0, 1, 1, 1, 0, 0])) (⟨#[10]⟩ : ByteArray) (Nat.le_of_ble_eq_true (by kernel_rfl)) <| Sx.rt 4 [] H2 (.string ((joinT (lnS [1, 0, 1, 0, 1, 1, 1, 0, 0])) ++ (⟨#[10]⟩ : ByteArray))) ?_
  subst hL0
  exact Gx.ret_as (v' := .string (txt [1, 0, 1, 0, 1, 1, 1, 0, 0])) rfl (hK _ (H2.pk []))
theorem Text_gen  (w : World) (K : Ending → World → Prop) (H0 : Sp w []) (hK : ∀ w', Hs w [] w' [] → K (.returned (.string (txt [1, 0, 1, 0, 1, 1, 1, 1, 1, 0, 0]))) w') :
    Calls Tryz.prog 10 #[.string (⟨#[103, 101, 110]⟩ : ByteArray)] w K := by
  obtain ⟨L0, hL0, H⟩ := Sx.op0 H0
  refine Sx.en (vs := [.string (⟨#[103, 101, 110]⟩ : ByteArray)]) 11 Tryz.func10 ?_
  refine Sx.c 8 [] H (fun Hp R hZ => lines_gen w R Hp  (fun lb1 w1 G1 => hZ _ _ _ G1 fun H1 => ?_))
  refine Sx.c 16 [0] H1 (fun Hp R hZ => Join_s lb1 (lnS [1, 0, 1, 0, 1, 1, 1, 1, 1, 0, 0]) w1 R Hp (Nat.le_of_ble_eq_true (by kernel_rfl)) (Nat.le_of_ble_eq_true (by kernel_rfl)) (fun w2 G2 => hZ _ _ _ G2 fun H2 => ?_))
  refine Sx.scat 0 (joinT (lnS [1, 0, 1, 0, 1, 1, 1, 1, 1, 0, 0])) (⟨#[10]⟩ : ByteArray) (Nat.le_of_ble_eq_true (by kernel_rfl)) <| Sx.rt 4 [] H2 (.string ((joinT (lnS [1, 0, 1, 0, 1, 1, 1, 1, 1, 0, 0])) ++ (⟨#[10]⟩ : ByteArray))) ?_
  subst hL0
  exact Gx.ret_as (v' := .string (txt [1, 0, 1, 0, 1, 1, 1, 1, 1, 0, 0])) rfl (hK _ (H2.pk []))
theorem Text_sched  (w : World) (K : Ending → World → Prop) (H0 : Sp w []) (hK : ∀ w', Hs w [] w' [] → K (.returned (.string (txt [1, 0, 1, 0, 1, 1, 1, 1, 1, 1, 1, 0, 0]))) w') :
    Calls Tryz.prog 10 #[.string (⟨#[115, 99, 104, 101, 100]⟩ : ByteArray)] w K := by
  obtain ⟨L0, hL0, H⟩ := Sx.op0 H0
  refine Sx.en (vs := [.string (⟨#[115, 99, 104, 101, 100]⟩ : ByteArray)]) 11 Tryz.func10 ?_
  refine Sx.c 8 [] H (fun Hp R hZ => lines_sched w R Hp  (fun lb1 w1 G1 => hZ _ _ _ G1 fun H1 => ?_))
  refine Sx.c 16 [0] H1 (fun Hp R hZ => Join_s lb1 (lnS [1, 0, 1, 0, 1, 1, 1, 1, 1, 1, 1, 0, 0]) w1 R Hp (Nat.le_of_ble_eq_true (by kernel_rfl)) (Nat.le_of_ble_eq_true (by kernel_rfl)) (fun w2 G2 => hZ _ _ _ G2 fun H2 => ?_))
  refine Sx.scat 0 (joinT (lnS [1, 0, 1, 0, 1, 1, 1, 1, 1, 1, 1, 0, 0])) (⟨#[10]⟩ : ByteArray) (Nat.le_of_ble_eq_true (by kernel_rfl)) <| Sx.rt 4 [] H2 (.string ((joinT (lnS [1, 0, 1, 0, 1, 1, 1, 1, 1, 1, 1, 0, 0])) ++ (⟨#[10]⟩ : ByteArray))) ?_
  subst hL0
  exact Gx.ret_as (v' := .string (txt [1, 0, 1, 0, 1, 1, 1, 1, 1, 1, 1, 0, 0])) rfl (hK _ (H2.pk []))
theorem Text_catch  (w : World) (K : Ending → World → Prop) (H0 : Sp w []) (hK : ∀ w', Hs w [] w' [] → K (.returned (.string (txt [1, 0, 1, 0, 1, 1, 1, 1, 1, 1, 1, 1, 1, 0, 0]))) w') :
    Calls Tryz.prog 10 #[.string (⟨#[99, 97, 116, 99, 104]⟩ : ByteArray)] w K := by
  obtain ⟨L0, hL0, H⟩ := Sx.op0 H0
  refine Sx.en (vs := [.string (⟨#[99, 97, 116, 99, 104]⟩ : ByteArray)]) 11 Tryz.func10 ?_
  refine Sx.c 8 [] H (fun Hp R hZ => lines_catch w R Hp  (fun lb1 w1 G1 => hZ _ _ _ G1 fun H1 => ?_))
  refine Sx.c 16 [0] H1 (fun Hp R hZ => Join_s lb1 (lnS [1, 0, 1, 0, 1, 1, 1, 1, 1, 1, 1, 1, 1, 0, 0]) w1 R Hp (Nat.le_of_ble_eq_true (by kernel_rfl)) (Nat.le_of_ble_eq_true (by kernel_rfl)) (fun w2 G2 => hZ _ _ _ G2 fun H2 => ?_))
  refine Sx.scat 0 (joinT (lnS [1, 0, 1, 0, 1, 1, 1, 1, 1, 1, 1, 1, 1, 0, 0])) (⟨#[10]⟩ : ByteArray) (Nat.le_of_ble_eq_true (by kernel_rfl)) <| Sx.rt 4 [] H2 (.string ((joinT (lnS [1, 0, 1, 0, 1, 1, 1, 1, 1, 1, 1, 1, 1, 0, 0])) ++ (⟨#[10]⟩ : ByteArray))) ?_
  subst hL0
  exact Gx.ret_as (v' := .string (txt [1, 0, 1, 0, 1, 1, 1, 1, 1, 1, 1, 1, 1, 0, 0])) rfl (hK _ (H2.pk []))
theorem Text_other (s : ByteArray) (w : World) (K : Ending → World → Prop) (H0 : Sp w []) (n_state : (s.toList == (⟨#[115, 116, 97, 116, 101]⟩ : ByteArray).toList) = false) (n_choose : (s.toList == (⟨#[99, 104, 111, 111, 115, 101]⟩ : ByteArray).toList) = false) (n_gen : (s.toList == (⟨#[103, 101, 110]⟩ : ByteArray).toList) = false) (n_sched : (s.toList == (⟨#[115, 99, 104, 101, 100]⟩ : ByteArray).toList) = false) (n_catch : (s.toList == (⟨#[99, 97, 116, 99, 104]⟩ : ByteArray).toList) = false) (hK : ∀ w', Hs w [] w' [] → K (.returned (.string ⟨#[]⟩)) w') :
    Calls Tryz.prog 10 #[.string s] w K := by
  obtain ⟨L0, hL0, H⟩ := Sx.op0 H0
  refine Sx.en (vs := [.string s]) 11 Tryz.func10 ?_
  refine Sx.c 8 [] H (fun Hp R hZ => lines_other s w R Hp n_state n_choose n_gen n_sched n_catch (fun w1 G1 => hZ _ _ _ G1 fun H1 => ?_))
  refine Sx.rt 18 [] H1 (.string (⟨#[]⟩ : ByteArray)) ?_
  subst hL0
  exact hK _ (H1.pk [])
theorem Others_state  (w : World) (K : Ending → World → Prop) (H0 : Sp w []) (g_state : Begun (txt [1, 0, 1, 0, 1, 0, 0]) (⟨#[115, 116, 97, 116, 101]⟩ : ByteArray) (⟨#[115, 116, 97, 116, 101]⟩ : ByteArray)) (hK : ∀ w', Hs w [] w' [] → K (.returned (.bool true)) w') :
    Calls Tryz.prog 3 #[.string (⟨#[115, 116, 97, 116, 101]⟩ : ByteArray)] w K := by
  obtain ⟨L0, hL0, H⟩ := Sx.op0 H0
  refine Sx.en (vs := [.string (⟨#[115, 116, 97, 116, 101]⟩ : ByteArray)]) 34 Tryz.func3 ?_
  refine Sx.c 8 [] H (fun Hp R hZ => Text_state w R Hp  (fun w1 G1 => hZ _ _ _ G1 fun H1 => ?_))
  refine Sx.c 5 [] H1 (fun Hp R hZ => Text_state w1 R Hp  (fun w2 G2 => hZ _ _ _ G2 fun H2 => ?_))
  refine Sx.c 0 [] H2 (fun Hp R hZ => begins_s (txt [1, 0, 1, 0, 1, 0, 0]) (⟨#[115, 116, 97, 116, 101]⟩ : ByteArray) (⟨#[115, 116, 97, 116, 101]⟩ : ByteArray) w2 R Hp g_state (fun w3 G3 => hZ _ _ _ G3 fun H3 => ?_))
  refine Sx.br 16 ((⟨#[115, 116, 97, 116, 101]⟩ : ByteArray).toList == (⟨#[115, 116, 97, 116, 101]⟩ : ByteArray).toList) (fun h_c10 => ?_) (fun h_c10 => ?_)
  · refine Sx.rt 9 [] H3 (.bool true) ?_
    subst hL0
    exact Gx.ret_as (v' := .bool true) (by first | rfl | kernel_rfl) (hK _ (H3.pk []))
  exact Bool.noConfusion (h_c10.symm.trans (show _ = true by kernel_rfl))
theorem Others_choose  (w : World) (K : Ending → World → Prop) (H0 : Sp w []) (g_state : Begun (txt [1, 0, 1, 0, 1, 0, 0]) (⟨#[115, 116, 97, 116, 101]⟩ : ByteArray) (⟨#[115, 116, 97, 116, 101]⟩ : ByteArray)) (g_choose : Begun (txt [1, 0, 1, 0, 1, 1, 1, 0, 0]) (⟨#[97, 108, 108]⟩ : ByteArray) (⟨#[102, 105, 114, 115, 116]⟩ : ByteArray)) (hK : ∀ w', Hs w [] w' [] → K (.returned (.bool true)) w') :
    Calls Tryz.prog 3 #[.string (⟨#[99, 104, 111, 111, 115, 101]⟩ : ByteArray)] w K := by
  obtain ⟨L0, hL0, H⟩ := Sx.op0 H0
  refine Sx.en (vs := [.string (⟨#[99, 104, 111, 111, 115, 101]⟩ : ByteArray)]) 34 Tryz.func3 ?_
  refine Sx.c 8 [] H (fun Hp R hZ => Text_choose w R Hp  (fun w1 G1 => hZ _ _ _ G1 fun H1 => ?_))
  refine Sx.c 5 [] H1 (fun Hp R hZ => Text_state w1 R Hp  (fun w2 G2 => hZ _ _ _ G2 fun H2 => ?_))
  refine Sx.c 0 [] H2 (fun Hp R hZ => begins_s (txt [1, 0, 1, 0, 1, 0, 0]) (⟨#[115, 116, 97, 116, 101]⟩ : ByteArray) (⟨#[115, 116, 97, 116, 101]⟩ : ByteArray) w2 R Hp g_state (fun w3 G3 => hZ _ _ _ G3 fun H3 => ?_))
  refine Sx.br 16 ((⟨#[99, 104, 111, 111, 115, 101]⟩ : ByteArray).toList == (⟨#[115, 116, 97, 116, 101]⟩ : ByteArray).toList) (fun h_c10 => ?_) (fun h_c10 => ?_)
  · exact Bool.noConfusion (h_c10.symm.trans (show _ = false by kernel_rfl))
  refine Sx.br 6 ((⟨#[99, 104, 111, 111, 115, 101]⟩ : ByteArray).toList == (⟨#[99, 104, 111, 111, 115, 101]⟩ : ByteArray).toList) (fun h_c13 => ?_) (fun h_c13 => ?_)
  · refine Sx.c 3 [] H3 (fun Hp R hZ => begins_s (txt [1, 0, 1, 0, 1, 1, 1, 0, 0]) (⟨#[97, 108, 108]⟩ : ByteArray) (⟨#[102, 105, 114, 115, 116]⟩ : ByteArray) w3 R Hp g_choose (fun w4 G4 => hZ _ _ _ G4 fun H4 => ?_))
    refine Sx.rt 6 [] H4 (.bool true) ?_
    subst hL0
    exact Gx.ret_as (v' := .bool true) (by first | rfl | kernel_rfl) (hK _ (H4.pk []))
  exact Bool.noConfusion (h_c13.symm.trans (show _ = true by kernel_rfl))
theorem Others_gen  (w : World) (K : Ending → World → Prop) (H0 : Sp w []) (g_state : Begun (txt [1, 0, 1, 0, 1, 0, 0]) (⟨#[115, 116, 97, 116, 101]⟩ : ByteArray) (⟨#[115, 116, 97, 116, 101]⟩ : ByteArray)) (g_gen : Begun (txt [1, 0, 1, 0, 1, 1, 1, 1, 1, 0, 0]) (⟨#[101, 109, 105, 116, 116, 101, 100]⟩ : ByteArray) (⟨#[116, 97, 107, 101]⟩ : ByteArray)) (hK : ∀ w', Hs w [] w' [] → K (.returned (.bool true)) w') :
    Calls Tryz.prog 3 #[.string (⟨#[103, 101, 110]⟩ : ByteArray)] w K := by
  obtain ⟨L0, hL0, H⟩ := Sx.op0 H0
  refine Sx.en (vs := [.string (⟨#[103, 101, 110]⟩ : ByteArray)]) 34 Tryz.func3 ?_
  refine Sx.c 8 [] H (fun Hp R hZ => Text_gen w R Hp  (fun w1 G1 => hZ _ _ _ G1 fun H1 => ?_))
  refine Sx.c 5 [] H1 (fun Hp R hZ => Text_state w1 R Hp  (fun w2 G2 => hZ _ _ _ G2 fun H2 => ?_))
  refine Sx.c 0 [] H2 (fun Hp R hZ => begins_s (txt [1, 0, 1, 0, 1, 0, 0]) (⟨#[115, 116, 97, 116, 101]⟩ : ByteArray) (⟨#[115, 116, 97, 116, 101]⟩ : ByteArray) w2 R Hp g_state (fun w3 G3 => hZ _ _ _ G3 fun H3 => ?_))
  refine Sx.br 16 ((⟨#[103, 101, 110]⟩ : ByteArray).toList == (⟨#[115, 116, 97, 116, 101]⟩ : ByteArray).toList) (fun h_c10 => ?_) (fun h_c10 => ?_)
  · exact Bool.noConfusion (h_c10.symm.trans (show _ = false by kernel_rfl))
  refine Sx.br 6 ((⟨#[103, 101, 110]⟩ : ByteArray).toList == (⟨#[99, 104, 111, 111, 115, 101]⟩ : ByteArray).toList) (fun h_c13 => ?_) (fun h_c13 => ?_)
  · exact Bool.noConfusion (h_c13.symm.trans (show _ = false by kernel_rfl))
  refine Sx.br 6 ((⟨#[103, 101, 110]⟩ : ByteArray).toList == (⟨#[103, 101, 110]⟩ : ByteArray).toList) (fun h_c17 => ?_) (fun h_c17 => ?_)
  · refine Sx.c 3 [] H3 (fun Hp R hZ => begins_s (txt [1, 0, 1, 0, 1, 1, 1, 1, 1, 0, 0]) (⟨#[101, 109, 105, 116, 116, 101, 100]⟩ : ByteArray) (⟨#[116, 97, 107, 101]⟩ : ByteArray) w3 R Hp g_gen (fun w4 G4 => hZ _ _ _ G4 fun H4 => ?_))
    refine Sx.nz 3 (.code (Sx.ct 15741 Tryz.f3)) [.blk 0, .code (Sx.ct 31 Tryz.f3)] [(2, .bool true)] fun b1 => Sx.rt 3 [] H4 (.bool true) ?_
    subst hL0
    exact Gx.ret_as (v' := .bool true) (by first | rfl | kernel_rfl) (hK _ (H4.pk []))
  exact Bool.noConfusion (h_c17.symm.trans (show _ = true by kernel_rfl))
theorem Others_sched  (w : World) (K : Ending → World → Prop) (H0 : Sp w []) (g_state : Begun (txt [1, 0, 1, 0, 1, 0, 0]) (⟨#[115, 116, 97, 116, 101]⟩ : ByteArray) (⟨#[115, 116, 97, 116, 101]⟩ : ByteArray)) (g_sched : Begun (txt [1, 0, 1, 0, 1, 1, 1, 1, 1, 1, 1, 0, 0]) (⟨#[114, 117, 110]⟩ : ByteArray) (⟨#[114, 117, 110]⟩ : ByteArray)) (hK : ∀ w', Hs w [] w' [] → K (.returned (.bool true)) w') :
    Calls Tryz.prog 3 #[.string (⟨#[115, 99, 104, 101, 100]⟩ : ByteArray)] w K := by
  obtain ⟨L0, hL0, H⟩ := Sx.op0 H0
  refine Sx.en (vs := [.string (⟨#[115, 99, 104, 101, 100]⟩ : ByteArray)]) 34 Tryz.func3 ?_
  refine Sx.c 8 [] H (fun Hp R hZ => Text_sched w R Hp  (fun w1 G1 => hZ _ _ _ G1 fun H1 => ?_))
  refine Sx.c 5 [] H1 (fun Hp R hZ => Text_state w1 R Hp  (fun w2 G2 => hZ _ _ _ G2 fun H2 => ?_))
  refine Sx.c 0 [] H2 (fun Hp R hZ => begins_s (txt [1, 0, 1, 0, 1, 0, 0]) (⟨#[115, 116, 97, 116, 101]⟩ : ByteArray) (⟨#[115, 116, 97, 116, 101]⟩ : ByteArray) w2 R Hp g_state (fun w3 G3 => hZ _ _ _ G3 fun H3 => ?_))
  refine Sx.br 16 ((⟨#[115, 99, 104, 101, 100]⟩ : ByteArray).toList == (⟨#[115, 116, 97, 116, 101]⟩ : ByteArray).toList) (fun h_c10 => ?_) (fun h_c10 => ?_)
  · exact Bool.noConfusion (h_c10.symm.trans (show _ = false by kernel_rfl))
  refine Sx.br 6 ((⟨#[115, 99, 104, 101, 100]⟩ : ByteArray).toList == (⟨#[99, 104, 111, 111, 115, 101]⟩ : ByteArray).toList) (fun h_c13 => ?_) (fun h_c13 => ?_)
  · exact Bool.noConfusion (h_c13.symm.trans (show _ = false by kernel_rfl))
  refine Sx.br 6 ((⟨#[115, 99, 104, 101, 100]⟩ : ByteArray).toList == (⟨#[103, 101, 110]⟩ : ByteArray).toList) (fun h_c17 => ?_) (fun h_c17 => ?_)
  · exact Bool.noConfusion (h_c17.symm.trans (show _ = false by kernel_rfl))
  refine Sx.nz 6 (.code (Sx.ct 15743 Tryz.f3)) [.blk 0, .code (Sx.ct 31 Tryz.f3)] [(3, .string (txt [1, 0, 1, 0, 1, 1, 1, 1, 1, 1, 1, 0, 0])), (4, .bool true), (9, .string (⟨#[115, 99, 104, 101, 100]⟩ : ByteArray)), (21, .bool ((⟨#[115, 99, 104, 101, 100]⟩ : ByteArray).toList == (⟨#[115, 99, 104, 101, 100]⟩ : ByteArray).toList))] fun b1 => ?_
  refine Sx.br 0 ((⟨#[115, 99, 104, 101, 100]⟩ : ByteArray).toList == (⟨#[115, 99, 104, 101, 100]⟩ : ByteArray).toList) (fun h_c21 => ?_) (fun h_c21 => ?_)
  · refine Sx.c 3 [] H3 (fun Hp R hZ => begins_s (txt [1, 0, 1, 0, 1, 1, 1, 1, 1, 1, 1, 0, 0]) (⟨#[114, 117, 110]⟩ : ByteArray) (⟨#[114, 117, 110]⟩ : ByteArray) w3 R Hp g_sched (fun w4 G4 => hZ _ _ _ G4 fun H4 => ?_))
    refine Sx.rt 6 [] H4 (.bool true) ?_
    subst hL0
    exact Gx.ret_as (v' := .bool true) (by first | rfl | kernel_rfl) (hK _ (H4.pk []))
  exact Bool.noConfusion (h_c21.symm.trans (show _ = true by kernel_rfl))
theorem Others_catch  (w : World) (K : Ending → World → Prop) (H0 : Sp w []) (g_state : Begun (txt [1, 0, 1, 0, 1, 0, 0]) (⟨#[115, 116, 97, 116, 101]⟩ : ByteArray) (⟨#[115, 116, 97, 116, 101]⟩ : ByteArray)) (g_catch : Begun (txt [1, 0, 1, 0, 1, 1, 1, 1, 1, 1, 1, 1, 1, 0, 0]) (⟨#[99, 97, 116, 99, 104]⟩ : ByteArray) (⟨#[114, 101, 116, 114, 121]⟩ : ByteArray)) (hK : ∀ w', Hs w [] w' [] → K (.returned (.bool true)) w') :
    Calls Tryz.prog 3 #[.string (⟨#[99, 97, 116, 99, 104]⟩ : ByteArray)] w K := by
  obtain ⟨L0, hL0, H⟩ := Sx.op0 H0
  refine Sx.en (vs := [.string (⟨#[99, 97, 116, 99, 104]⟩ : ByteArray)]) 34 Tryz.func3 ?_
  refine Sx.c 8 [] H (fun Hp R hZ => Text_catch w R Hp  (fun w1 G1 => hZ _ _ _ G1 fun H1 => ?_))
  refine Sx.c 5 [] H1 (fun Hp R hZ => Text_state w1 R Hp  (fun w2 G2 => hZ _ _ _ G2 fun H2 => ?_))
  refine Sx.c 0 [] H2 (fun Hp R hZ => begins_s (txt [1, 0, 1, 0, 1, 0, 0]) (⟨#[115, 116, 97, 116, 101]⟩ : ByteArray) (⟨#[115, 116, 97, 116, 101]⟩ : ByteArray) w2 R Hp g_state (fun w3 G3 => hZ _ _ _ G3 fun H3 => ?_))
  refine Sx.br 16 ((⟨#[99, 97, 116, 99, 104]⟩ : ByteArray).toList == (⟨#[115, 116, 97, 116, 101]⟩ : ByteArray).toList) (fun h_c10 => ?_) (fun h_c10 => ?_)
  · exact Bool.noConfusion (h_c10.symm.trans (show _ = false by kernel_rfl))
  refine Sx.br 6 ((⟨#[99, 97, 116, 99, 104]⟩ : ByteArray).toList == (⟨#[99, 104, 111, 111, 115, 101]⟩ : ByteArray).toList) (fun h_c13 => ?_) (fun h_c13 => ?_)
  · exact Bool.noConfusion (h_c13.symm.trans (show _ = false by kernel_rfl))
  refine Sx.br 6 ((⟨#[99, 97, 116, 99, 104]⟩ : ByteArray).toList == (⟨#[103, 101, 110]⟩ : ByteArray).toList) (fun h_c17 => ?_) (fun h_c17 => ?_)
  · exact Bool.noConfusion (h_c17.symm.trans (show _ = false by kernel_rfl))
  refine Sx.nz 6 (.code (Sx.ct 15743 Tryz.f3)) [.blk 0, .code (Sx.ct 31 Tryz.f3)] [(3, .string (txt [1, 0, 1, 0, 1, 1, 1, 1, 1, 1, 1, 1, 1, 0, 0])), (4, .bool true), (9, .string (⟨#[99, 97, 116, 99, 104]⟩ : ByteArray)), (21, .bool ((⟨#[99, 97, 116, 99, 104]⟩ : ByteArray).toList == (⟨#[115, 99, 104, 101, 100]⟩ : ByteArray).toList))] fun b1 => ?_
  refine Sx.br 0 ((⟨#[99, 97, 116, 99, 104]⟩ : ByteArray).toList == (⟨#[115, 99, 104, 101, 100]⟩ : ByteArray).toList) (fun h_c21 => ?_) (fun h_c21 => ?_)
  · exact Bool.noConfusion (h_c21.symm.trans (show _ = false by kernel_rfl))
  refine Sx.br 6 ((⟨#[99, 97, 116, 99, 104]⟩ : ByteArray).toList == (⟨#[99, 97, 116, 99, 104]⟩ : ByteArray).toList) (fun h_c25 => ?_) (fun h_c25 => ?_)
  · refine Sx.c 3 [] H3 (fun Hp R hZ => begins_s (txt [1, 0, 1, 0, 1, 1, 1, 1, 1, 1, 1, 1, 1, 0, 0]) (⟨#[99, 97, 116, 99, 104]⟩ : ByteArray) (⟨#[114, 101, 116, 114, 121]⟩ : ByteArray) w3 R Hp g_catch (fun w4 G4 => hZ _ _ _ G4 fun H4 => ?_))
    refine Sx.rt 6 [] H4 (.bool true) ?_
    subst hL0
    exact Gx.ret_as (v' := .bool true) (by first | rfl | kernel_rfl) (hK _ (H4.pk []))
  exact Bool.noConfusion (h_c25.symm.trans (show _ = true by kernel_rfl))
theorem Others_other (s : ByteArray) (w : World) (K : Ending → World → Prop) (H0 : Sp w []) (n_state : (s.toList == (⟨#[115, 116, 97, 116, 101]⟩ : ByteArray).toList) = false) (n_choose : (s.toList == (⟨#[99, 104, 111, 111, 115, 101]⟩ : ByteArray).toList) = false) (n_gen : (s.toList == (⟨#[103, 101, 110]⟩ : ByteArray).toList) = false) (n_sched : (s.toList == (⟨#[115, 99, 104, 101, 100]⟩ : ByteArray).toList) = false) (n_catch : (s.toList == (⟨#[99, 97, 116, 99, 104]⟩ : ByteArray).toList) = false) (g_state : Begun (txt [1, 0, 1, 0, 1, 0, 0]) (⟨#[115, 116, 97, 116, 101]⟩ : ByteArray) (⟨#[115, 116, 97, 116, 101]⟩ : ByteArray)) (hK : ∀ w', Hs w [] w' [] → K (.returned (.bool true)) w') :
    Calls Tryz.prog 3 #[.string s] w K := by
  obtain ⟨L0, hL0, H⟩ := Sx.op0 H0
  refine Sx.en (vs := [.string s]) 34 Tryz.func3 ?_
  refine Sx.c 8 [] H (fun Hp R hZ => Text_other s w R Hp n_state n_choose n_gen n_sched n_catch (fun w1 G1 => hZ _ _ _ G1 fun H1 => ?_))
  refine Sx.c 5 [] H1 (fun Hp R hZ => Text_state w1 R Hp  (fun w2 G2 => hZ _ _ _ G2 fun H2 => ?_))
  refine Sx.c 0 [] H2 (fun Hp R hZ => begins_s (txt [1, 0, 1, 0, 1, 0, 0]) (⟨#[115, 116, 97, 116, 101]⟩ : ByteArray) (⟨#[115, 116, 97, 116, 101]⟩ : ByteArray) w2 R Hp g_state (fun w3 G3 => hZ _ _ _ G3 fun H3 => ?_))
  refine Sx.br 16 (s.toList == (⟨#[115, 116, 97, 116, 101]⟩ : ByteArray).toList) (fun h_c10 => ?_) (fun h_c10 => ?_)
  · exact Bool.noConfusion (h_c10.symm.trans n_state)
  refine Sx.br 6 (s.toList == (⟨#[99, 104, 111, 111, 115, 101]⟩ : ByteArray).toList) (fun h_c13 => ?_) (fun h_c13 => ?_)
  · exact Bool.noConfusion (h_c13.symm.trans n_choose)
  refine Sx.br 6 (s.toList == (⟨#[103, 101, 110]⟩ : ByteArray).toList) (fun h_c17 => ?_) (fun h_c17 => ?_)
  · exact Bool.noConfusion (h_c17.symm.trans n_gen)
  refine Sx.nz 6 (.code (Sx.ct 15743 Tryz.f3)) [.blk 0, .code (Sx.ct 31 Tryz.f3)] [(3, .string (⟨#[]⟩ : ByteArray)), (4, .bool true), (9, .string s), (21, .bool (s.toList == (⟨#[115, 99, 104, 101, 100]⟩ : ByteArray).toList))] fun b1 => ?_
  refine Sx.br 0 (s.toList == (⟨#[115, 99, 104, 101, 100]⟩ : ByteArray).toList) (fun h_c21 => ?_) (fun h_c21 => ?_)
  · exact Bool.noConfusion (h_c21.symm.trans n_sched)
  refine Sx.br 6 (s.toList == (⟨#[99, 97, 116, 99, 104]⟩ : ByteArray).toList) (fun h_c25 => ?_) (fun h_c25 => ?_)
  · exact Bool.noConfusion (h_c25.symm.trans n_catch)
  refine Sx.rt 14 [] H3 (.bool ((⟨#[]⟩ : ByteArray).toList == (⟨#[]⟩ : ByteArray).toList)) ?_
  subst hL0
  exact Gx.ret_as (v' := .bool true) (by first | rfl | kernel_rfl) (hK _ (H3.pk []))
end Go.Proofs.YtdmdecgoebnamaaGreat
