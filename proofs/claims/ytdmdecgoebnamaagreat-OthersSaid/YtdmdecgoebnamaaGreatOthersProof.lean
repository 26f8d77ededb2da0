/- The law Others returns true of every text: the five texts of the prelude define what they have to, and there are no more. There are no conditions. -/
import Derived.Test.YtdmdecgoebnamaaGreatTryzShelf
import Derived.Test.YtdmdecgoebnamaaGreatRunN
import Derived.Test.YtdmdecgoebnamaaGreatInfEvsched
import Derived.Test.YtdmdecgoebnamaaGreatInfEvcatch
import Derived.Test.YtdmdecgoebnamaaGreatRows
import Derived.WalkKit
import Derived.ProofKit
import Derived.OpenShut
import Derived.ShutString
set_option linter.unusedVariables false
set_option linter.unusedSimpArgs false
namespace Go.Proofs.YtdmdecgoebnamaaGreat.others
open Go.ChangeShapes Go.WideShapes Go.ChangeAt Go.RowKit
open Go.WideMaps Go.WideElems
open Go.ChangeMaps (setBlock shut_map_nil open_string shut_string keptBut_setBlock frozen?_setBlock heap_setBlock_same)
theorem ext_of {w w' : World} (h : Sx.Hs w [] w' []) : Gx.Ext w w' :=
  ⟨h.kp.os, h.kp.tape, h.kp.output, h.kp.size, fun i hi _ => h.kp.block i hi (fun ⟨_, a, _⟩ => by cases a)⟩
theorem same_text {s t : ByteArray} (h : (s.toList == t.toList) = true) : s = t := by
  have e := eq_of_beq h
  rw [ByteArray.toList_eq, ByteArray.toList_eq] at e
  obtain ⟨⟨a⟩⟩ := s
  obtain ⟨⟨b⟩⟩ := t
  cases e
  rfl
theorem Others_c (s : ByteArray) (w : World) (K : Ending → World → Prop) (hK : ∀ w', Gx.Ext w w' → K (.returned (.bool true)) w') : Calls Tryz.prog 3 #[.string s] w K := by
  have H0 : Sx.Sp w [] := ⟨fun _ h => (by cases h), .nil⟩
  rcases n_state : (s.toList == (⟨#[115, 116, 97, 116, 101]⟩ : ByteArray).toList) with _ | _
  case true =>
    obtain rfl := same_text n_state
    exact Others_state w K H0 Inf.begun_state (fun w' x => hK w' (ext_of x))
  rcases n_choose : (s.toList == (⟨#[99, 104, 111, 111, 115, 101]⟩ : ByteArray).toList) with _ | _
  case true =>
    obtain rfl := same_text n_choose
    exact Others_choose w K H0 Inf.begun_state Inf.begun_choose (fun w' x => hK w' (ext_of x))
  rcases n_gen : (s.toList == (⟨#[103, 101, 110]⟩ : ByteArray).toList) with _ | _
  case true =>
    obtain rfl := same_text n_gen
    exact Others_gen w K H0 Inf.begun_state Inf.begun_gen (fun w' x => hK w' (ext_of x))
  rcases n_sched : (s.toList == (⟨#[115, 99, 104, 101, 100]⟩ : ByteArray).toList) with _ | _
  case true =>
    obtain rfl := same_text n_sched
    exact Others_sched w K H0 Inf.begun_state Inf.begun_sched (fun w' x => hK w' (ext_of x))
  rcases n_catch : (s.toList == (⟨#[99, 97, 116, 99, 104]⟩ : ByteArray).toList) with _ | _
  case true =>
    obtain rfl := same_text n_catch
    exact Others_catch w K H0 Inf.begun_state Inf.begun_catch (fun w' x => hK w' (ext_of x))
  exact Others_other s w K H0 n_state n_choose n_gen n_sched n_catch Inf.begun_state (fun w' x => hK w' (ext_of x))
theorem own : ownKnob Tryz.prog.godebug = none := by kernel_rfl
theorem laidOut : laidOutB Tryz.prog = true := by kernel_rfl
theorem trodAll_below {H : Type} {enc : TypeId × Value → H} {P : Program} (hl : laidOutB P = true) {W W' : World} (hb : Below W.heap.size W W') :
    ∀ (ts : List TypeId) (vs : List Value) (ds : List (DataW H)) (ps : List MemPlace), (∀ t ∈ ts, P.readableRec t = true ∧ t < P.types.size) → (∀ x ∈ ps, x.block < W.heap.size) →
      DataW.TrodAll enc P W 0 (fun _ => true) true ts vs ds ps → DataW.TrodAll enc P W' 0 (fun b => decide (b < W.heap.size)) true ts vs ds ps
  | [], [], [], _, _, _, h => h
  | t :: ts, v :: vs, d :: ds, ps, hr, hlt, h => by
    obtain ⟨p, q, h1, h2, e⟩ := h
    subst e
    exact ⟨p, q, Below.trod hl (hr t (by simp)).1 (hr t (by simp)).2 h1 hb (fun x hx => hlt x (List.mem_append_left _ hx)),
      trodAll_below hl hb ts vs ds q (fun u hu => hr u (by simp [hu])) (fun x hx => hlt x (List.mem_append_right _ hx)) h2, rfl⟩
  | [], _ :: _, _, _, _, _, h => h.elim
  | [], [], _ :: _, _, _, _, h => h.elim
  | _ :: _, [], _, _, _, _, h => h.elim
  | _ :: _, _ :: _, [], _, _, _, h => h.elim
set_option maxRecDepth 100000 in
theorem lifted (os : Os) (started : os.Started) (H : Type) (enc : TypeId × Value → H) :
    ReturnsInHanded {} Tryz.checked os 3 .any (Rows.othersSpec.pre6 enc Tryz.prog Tryz.f3 Rows.othersRow.domain false) (Rows.othersSpec.post enc Tryz.prog Tryz.f3 false true false false) := by
  refine returnsInHanded_of_change (C := Tryz.checked) own started (by kernel_rfl) Tryz.func3
    (ChangeSpec.witness6 (enc := enc) (C := Tryz.checked) false ⟨#[], #[.string ⟨#[]⟩], []⟩ 8 (by kernel_rfl) (by kernel_rfl) (by kernel_rfl) (by kernel_rfl)) ?_
  intro W base args ds gs before hval0 hW hcnd _
  have hval : ∀ (j : Nat) t v, Tryz.f3.params[j]? = some t → args[j]? = some v → Value.okWide Tryz.prog W .any base t v := hval0
  have hW' := hW
  have hlt := hW.lt
  obtain ⟨p, q, hA0, hV, rfl, hfz, hnd⟩ := hW
  have hA : DataW.TrodAll enc Tryz.prog W 0 (fun _ => true) true Tryz.f3.params.toList args.toList ds p := hA0
  have hAk := hA
  rw [Tryz.params3] at hA hval
  obtain ⟨v0, d0, rfl, rfl, h0⟩ := trodAll_one hA
  obtain ⟨rfl, rfl⟩ := trodVars_none hV
  obtain ⟨s, e0, e1, e2, hs⟩ := open_string Tryz.underlying9 (hval 0 9 v0 rfl rfl) h0
  subst e0 e1
  clear hval0
  refine Others_c s W _ (fun W' hb => ?_)
  exact ⟨_, rfl, _, _, _, [], p, [], hW', trodAll_mk1 (shut_bool Tryz.underlying4 true),
    trodAll_below laidOut hb.below _ _ _ _ (by rw [Tryz.params3]; intro t ht; simp at ht; subst ht; exact ⟨by kernel_rfl, of_decide_eq_true (by kernel_rfl)⟩) (fun x hx => hlt x (by simpa using hx)) hAk, rfl, hb.below.frame _, fun h => by cases h⟩
theorem over : Rows.othersRow.holds Tryz.pinned (OpenSpec.ofChange Rows.othersSpec) :=
  OpenClaim.holds_of_wide 3 Tryz.f3 rfl rfl rfl rfl rfl rfl rfl ⟨rfl, rfl, rfl, rfl, rfl⟩ rfl rfl rfl rfl rfl (by kernel_rfl) Tryz.func3 (by kernel_rfl)
    (of_decide_eq_true (by kernel_rfl)) (by unfold Func.isWrapper; first | (rw [if_pos (by decide +kernel)]; kernel_rfl) | (rw [if_neg (by decide +kernel)]; exact ⟨rfl, rfl⟩))
    (fun os started H enc _ => lifted os started H enc)
theorem proved : Rows.OthersSaid := over
#print axioms proved
end Go.Proofs.YtdmdecgoebnamaaGreat.others
