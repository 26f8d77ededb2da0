/- General: the law's maps in memory; steps of the fit. -/
import Derived.Test.YtfkkocjheeoobaaGc
import Derived.Test.YtfkkocjheeoobaaSw9
import Derived.Test.YtfkkocjheeoobaaPx
set_option linter.unusedVariables false
set_option linter.unusedSimpArgs false
set_option linter.unusedVariables false
set_option linter.unusedSimpArgs false
namespace Go.Sx
open Go.RowKit Go.Gx Go.Inf
section
variable [Rd] {P : Program} {B : Exit → Act → World → Prop} {b : Nat → Value} {n : Nat} {d : List Deferred} {w0 w : World} {x : St} {L0 L : List Item}
theorem lkS (m i : Nat) (H : Hs w0 L0 w L) {bt t kt et : Nat} {mp : List (Int × Value)} (a : Int) (v z : Value) (ho : look a mp = some v) (hi : L[i]? = some (mapI (.int .i64) encN bt mp))
    (k : Goal P B b n d (nx (vX (via P b n m w x (ask (lkA b n)))).y (vX (via P b n m w x (ask (lkA b n)))).q (.tuple #[v, .bool true])) w)
    (h : vA (via P b n m w x (ask (lkA b n))) = vB w (via P b n m w x (ask (lkA b n))) := by kernel_rfl)
    (h2 : ((vX (via P b n m w x (ask (lkA b n)))).u, (vX (via P b n m w x (ask (lkA b n)))).t) = ([.map (some bt), encN a], [t, 1]) := by kernel_rfl)
    (ht : mapT P t = some (kt, et) := by kernel_rfl) (hkt : P.underlying kt = some (.int .i64) := by kernel_rfl) (hz : (P.info? et).bind (·.zero) = some z := by kernel_rfl) : Goal P B b n d x w :=
  lk (r := 1) m i H a z hi keyN injN (by rw [ho]; exact k) h h2 ht hkt hz
theorem lkN (m i : Nat) (H : Hs w0 L0 w L) {bt t kt et : Nat} {mp : List (Int × Value)} (a : Int) (z : Value) (ho : look a mp = none) (hi : L[i]? = some (mapI (.int .i64) encN bt mp))
    (k : Goal P B b n d (nx (vX (via P b n m w x (ask (lkA b n)))).y (vX (via P b n m w x (ask (lkA b n)))).q (.tuple #[z, .bool false])) w)
    (h : vA (via P b n m w x (ask (lkA b n))) = vB w (via P b n m w x (ask (lkA b n))) := by kernel_rfl)
    (h2 : ((vX (via P b n m w x (ask (lkA b n)))).u, (vX (via P b n m w x (ask (lkA b n)))).t) = ([.map (some bt), encN a], [t, 1]) := by kernel_rfl)
    (ht : mapT P t = some (kt, et) := by kernel_rfl) (hkt : P.underlying kt = some (.int .i64) := by kernel_rfl) (hz : (P.info? et).bind (·.zero) = some z := by kernel_rfl) : Goal P B b n d x w :=
  lk (r := 1) m i H a z hi keyN injN (by rw [ho]; exact k) h h2 ht hkt hz
theorem muV (m i : Nat) (H : Hs w0 L0 w L) {bt t kt et : Nat} {mp : List (Int × Value)} (a : Int) (v : Value) (hi : L[i]? = some (mapI (.int .i64) encN bt mp))
    (k : ∀ w', Hs w0 L0 w' (L.set i (mapI (.int .i64) encN bt (upd a v mp))) → Goal P B b n d (nx (vX (via P b n m w x (ask (muA b n)))).y (vX (via P b n m w x (ask (muA b n)))).q undef) w')
    (h : vA (via P b n m w x (ask (muA b n))) = vB w (via P b n m w x (ask (muA b n))) := by kernel_rfl)
    (h2 : ((vX (via P b n m w x (ask (muA b n)))).u, (vX (via P b n m w x (ask (muA b n)))).t) = ([.map (some bt), encN a, v], [t]) := by kernel_rfl)
    (ht : mapT P t = some (kt, et) := by kernel_rfl) (hkt : P.underlying kt = some (.int .i64) := by kernel_rfl) : Goal P B b n d x w :=
  mu m i H a v hi keyN injN bitsN k h h2 ht hkt
end
theorem look_upd (a b : Int) (v : Value) (m : List (Int × Value)) : look a (upd b v m) = if b = a then some v else look a m := by
  induction m with
  | nil =>
    by_cases q : b = a
    · subst q; rw [if_pos rfl]; simp [upd, look, pos]
    · rw [if_neg q]; simp [upd, look, pos, q]
  | cons p r ih =>
    have lc : ∀ (p : Int × Value) (r : List (Int × Value)), look a (p :: r) = if p.1 = a then some p.2 else look a r := fun p r => by
      by_cases q : p.1 = a
      · rw [if_pos q]; simp [look, pos, q]
      · rw [if_neg q]; simp only [look, pos, if_neg q]
        cases pos a r with
        | none => rfl
        | some j => simp
    rw [upd_cons]
    by_cases q : p.1 = b
    · rw [if_pos q, lc, lc, q]
      by_cases e : b = a
      · rw [if_pos e, if_pos e]
      · rw [if_neg e, if_neg e, if_neg e]
    · rw [if_neg q, lc, lc, ih]
      by_cases e : p.1 = a
      · rw [if_pos e, if_pos e, if_neg (by omega)]
      · rw [if_neg e, if_neg e]
end Go.Sx
namespace Go.Slv
open Go.RowKit Go.Sx Go.Inf Go.Gx
/-! ### The maps -/
abbrev gvV (A : Option Addr) (n c : Nat) (m : Int) : Value := .agg #[.int .i64 0, .int .i64 0, .int .i64 0, .int .i64 0, .slice none 0 0, .slice none 0 0, .int .i64 0, .slice A n c, .int .i64 m]
def MapT (MT : List (Int × Value)) (f : Nat → Option Ty) (KT : List Kd) : Prop := ∀ n : Nat, (f n = none ∧ Sx.look (n : Int) MT = none) ∨ ∃ p u, f n = some u ∧ Sx.look (n : Int) MT = some (.agg (tvC u p).toArray) ∧ (p, u) ∈ KT
def MapR (MR : List (Int × Value)) (f : Nat → Option (List Nm × Nat)) (KR : List (Option Addr × List Nm)) : Prop := ∀ n : Nat, (f n = none ∧ Sx.look (n : Int) MR = none) ∨ ∃ A c l m, f n = some (l, m) ∧ Sx.look (n : Int) MR = some (gvV A l.length c (m : Nat)) ∧ (A, l) ∈ KR
theorem MapT.nil : MapT [] (fun _ => none) [] := fun n => .inl ⟨rfl, rfl⟩
theorem MapR.nil : MapR [] (fun _ => none) [] := fun n => .inl ⟨rfl, rfl⟩
theorem MapT.add {MT : List (Int × Value)} {f : Nat → Option Ty} {KT : List Kd} (h : MapT MT f KT) (n : Nat) (p : Tv) (u : Ty) : MapT (Sx.upd (n : Int) (.agg (tvC u p).toArray) MT) (updF f n u) (KT ++ [(p, u)]) := fun k => by
  rw [look_upd]
  unfold updF
  by_cases q : k = n
  · subst q; rw [if_pos rfl, if_pos rfl]; exact .inr ⟨p, u, rfl, rfl, by simp⟩
  · rw [if_neg q, if_neg (by omega)]
    rcases h k with a | ⟨p', u', a, b, c⟩
    · exact .inl a
    · exact .inr ⟨p', u', a, b, List.mem_append_left _ c⟩
theorem MapR.add {MR : List (Int × Value)} {f : Nat → Option (List Nm × Nat)} {KR : List (Option Addr × List Nm)} (h : MapR MR f KR) (n : Nat) (A : Option Addr) (c : Nat) (l : List Nm) (m : Nat) : MapR (Sx.upd (n : Int) (gvV A l.length c (m : Nat)) MR) (updF f n (l, m)) (KR ++ [(A, l)]) := fun k => by
  rw [look_upd]
  unfold updF
  by_cases q : k = n
  · subst q; rw [if_pos rfl, if_pos rfl]; exact .inr ⟨A, c, l, m, rfl, rfl, by simp⟩
  · rw [if_neg q, if_neg (by omega)]
    rcases h k with a | ⟨A', c', l', m', a, b, e⟩
    · exact .inl a
    · exact .inr ⟨A', c', l', m', a, b, List.mem_append_left _ e⟩
theorem MapT.hit {MT : List (Int × Value)} {f : Nat → Option Ty} {KT : List Kd} (h : MapT MT f KT) {n : Nat} {u : Ty} (k : f n = some u) : ∃ p, Sx.look (n : Int) MT = some (.agg (tvC u p).toArray) ∧ (p, u) ∈ KT := by
  rcases h n with ⟨a, _⟩ | ⟨p, u', a, b, c⟩
  · rw [a] at k; cases k
  · rw [a] at k; cases k; exact ⟨p, b, c⟩
theorem MapT.no {MT : List (Int × Value)} {f : Nat → Option Ty} {KT : List Kd} (h : MapT MT f KT) {n : Nat} (k : f n = none) : Sx.look (n : Int) MT = none := by
  rcases h n with ⟨_, b⟩ | ⟨p, u', a, b, c⟩
  · exact b
  · rw [a] at k; cases k
theorem MapR.hit {MR : List (Int × Value)} {f : Nat → Option (List Nm × Nat)} {KR : List (Option Addr × List Nm)} (h : MapR MR f KR) {n m : Nat} {l : List Nm} (k : f n = some (l, m)) : ∃ A c, Sx.look (n : Int) MR = some (gvV A l.length c (m : Nat)) ∧ (A, l) ∈ KR := by
  rcases h n with ⟨a, _⟩ | ⟨A, c, l', m', a, b, e⟩
  · rw [a] at k; cases k
  · rw [a] at k; cases k; exact ⟨A, c, b, e⟩
theorem MapR.no {MR : List (Int × Value)} {f : Nat → Option (List Nm × Nat)} {KR : List (Option Addr × List Nm)} (h : MapR MR f KR) {n : Nat} (k : f n = none) : Sx.look (n : Int) MR = none := by
  rcases h n with ⟨_, b⟩ | ⟨A, c, l', m', a, b, e⟩
  · exact b
  · rw [a] at k; cases k
def rnI (S : Nat → Prop) (l : List (Option Addr × List Nm)) : Sx.Item := .ro S (fun w => ∀ k ∈ l, Strs w S k.1 k.2)
theorem rnI_loc (S : Nat → Prop) (l : List (Option Addr × List Nm)) : Sx.Loc S (fun w => ∀ k ∈ l, Strs w S k.1 k.2) := fun _ _ _ hk h k hm => (h k hm).keep hk
theorem rnI_nil {w : World} : (rnI (fun _ => False) []).holds w := ⟨fun _ h => (by cases h), fun _ h => h.elim, rnI_loc _ _⟩
section
variable {w0 w : World} {L0 L : List Sx.Item}
theorem rn_add (H : Hs w0 L0 w L) (I : List Nat) {S S2 : Nat → Prop} {l : List (Option Addr × List Nm)} {A : Option Addr} {m : List Nm} (hp : picked I L = some [rnI S l, strI S2 A m]) : ∃ S', Hs w0 L0 w (rnI S' (l ++ [(A, m)]) :: rest I L) := by
  refine ⟨_, H.fz I hp (fun s => ?_) (rnI_loc _ _)⟩
  have h0 := s.all _ (.head _)
  have h1 := s.all _ (.tail _ (.head _))
  intro k hk
  rcases List.mem_append.1 hk with q | q
  · exact (h0.1 k q).mono fun c hc => ⟨_, .head _, hc⟩
  · rw [List.mem_singleton.1 q]; exact h1.1.mono fun c hc => ⟨_, .tail _ (.head _), hc⟩
theorem Hs.rn1 {S : Nat → Prop} {l : List (Option Addr × List Nm)} {B : Option Addr} {m : List Nm} (H : Hs w0 L0 w L) (j : Nat) (hi : L[j]? = some (rnI S l)) (h : (B, m) ∈ l) : Hs w0 L0 w (L ++ [roS S B m]) := H.ro j hi ((H.at j hi).1 _ h) (strI_loc _ _ _)
theorem Hs.ts1 {S : Nat → Prop} {l : List Kd} {p : Tv} {u : Ty} (H : Hs w0 L0 w L) (j : Nat) (hi : L[j]? = some (tysI S l)) (h : (p, u) ∈ l) : Hs w0 L0 w (L ++ [tyI S p u]) := H.ro j hi ((H.at j hi).1 _ h) (tyI_loc _ _ _)
theorem sri_at {S : Nat → Prop} {A : Option Addr} {l : List Nm} (H : Hs w0 L0 w L) (j : Nat) (hi : L[j]? = some (strI S A l)) : Strs w S A l := (H.at j hi).1
theorem sri_one {S : Nat → Prop} {A : Option Addr} {l : List Nm} (H : Sp w L) (j : Nat) (hi : L[j]? = some (strI S A l)) {a : Addr} (ha : A = some a) {i : Nat} {s : Nm} (h : l[i]? = some s) : w.cells? 0 (a.add (i * 1)) 1 = some [.string s] := by
  have hT : Strs w S A l := (H.all _ (List.mem_of_getElem? hi)).1
  obtain ⟨a', ha', _, hc⟩ := hT i s h
  rw [ha] at ha'; cases ha'; exact hc
end
/-! ### Two rows -/
theorem fitR_cs {f f' : Nat → Option (List Nm × Nat)} {ops opt : List Nm} {row rov : Nat} (h : FitR f ops row opt rov f') :
    (row = 0 ∧ rov = 0 ∧ mg ops opt = ([], []) ∧ f' = f) ∨ (row ≠ 0 ∧ f row = none ∧ (mg ops opt).1 = [] ∧ f' = updF f row ((mg ops opt).2, rov)) ∨ (row ≠ 0 ∧ f row = some ((mg ops opt).2, rov) ∧ (mg ops opt).1 = [] ∧ f' = f) := by
  cases h with
  | z => exact .inl ⟨rfl, rfl, mg_self _, rfl⟩
  | new h0 hn hm => exact .inr (.inl ⟨h0, hn, by rw [hm], by rw [hm]⟩)
  | old h0 hs hm => exact .inr (.inr ⟨h0, by rw [hm]; exact hs, by rw [hm], rfl⟩)
theorem dropE {α : Type} {l : List α} {i : Nat} {s : α} (h : l[i]? = some s) : l.drop i = s :: l.drop (i + 1) := by
  obtain ⟨hl, rfl⟩ := List.getElem?_eq_some_iff.1 h
  exact List.drop_eq_getElem_cons hl
/-- How far two rows have been held against each other. -/
def MgTo (ops opt : List Nm) (i j : Nat) (mr : List Nm) : Prop := mg ops opt = ((mg (ops.drop i) (opt.drop j)).1, mr ++ (mg (ops.drop i) (opt.drop j)).2)
theorem MgTo.nil (ops opt : List Nm) : MgTo ops opt 0 0 [] := rfl
theorem MgTo.both {ops opt : List Nm} {i j : Nat} {mr : List Nm} {s : Nm} (h : MgTo ops opt i j mr) (h1 : ops[i]? = some s) (h2 : opt[j]? = some s) : MgTo ops opt (i + 1) (j + 1) mr := by
  unfold MgTo at h ⊢
  rw [dropE h1, dropE h2, mg_cc, if_pos (eqN_iff.2 rfl)] at h
  exact h
theorem MgTo.more {ops opt : List Nm} {i j : Nat} {mr : List Nm} {s : Nm} (h : MgTo ops opt i j mr) (h1 : ops.length ≤ i ∨ ∃ r, ops[i]? = some r ∧ r ≠ s) (h2 : opt[j]? = some s) : MgTo ops opt i (j + 1) (mr ++ [s]) := by
  unfold MgTo at h ⊢
  rw [dropE h2] at h
  rcases h1 with h1 | ⟨r, h1, hne⟩
  · rw [List.drop_eq_nil_of_le h1] at h ⊢
    rw [h, mg_nil, mg_nil]; simp
  · rw [dropE h1] at h ⊢
    rw [mg_cc, if_neg (fun e => hne (eqN_iff.1 e))] at h
    rw [h]; simp
theorem MgTo.done {ops opt : List Nm} {i j : Nat} {mr : List Nm} (h : MgTo ops opt i j mr) (hj : opt.length ≤ j) : mg ops opt = (ops.drop i, mr) := by
  unfold MgTo at h
  rw [List.drop_eq_nil_of_le hj] at h
  rw [h]; simp [mg]
theorem row_cs (ops opt : List Nm) (i j : Nat) : (j < opt.length ∧ i < ops.length ∧ ∃ s, ops[i]? = some s ∧ opt[j]? = some s) ∨ (j < opt.length ∧ i < ops.length ∧ ∃ r s, ops[i]? = some r ∧ opt[j]? = some s ∧ r ≠ s) ∨ (j < opt.length ∧ ops.length ≤ i ∧ ∃ s, opt[j]? = some s) ∨ opt.length ≤ j := by
  rcases Nat.lt_or_ge j opt.length with h | h
  · rcases Nat.lt_or_ge i ops.length with k | k
    · by_cases e : ops[i] = opt[j]
      · exact .inl ⟨h, k, ops[i], List.getElem?_eq_getElem k, by rw [e]; exact List.getElem?_eq_getElem h⟩
      · exact .inr (.inl ⟨h, k, _, _, List.getElem?_eq_getElem k, List.getElem?_eq_getElem h, e⟩)
    · exact .inr (.inr (.inl ⟨h, k, _, List.getElem?_eq_getElem h⟩))
  · exact .inr (.inr (.inr h))
theorem sn_t (s : Nm) : Value.bool (s.toList == s.toList) = .bool true := by simp
theorem sn_f {r s : Nm} (h : r ≠ s) : Value.bool (r.toList == s.toList) = .bool false := by
  congr 1
  cases q : r.toList == s.toList with
  | false => rfl
  | true =>
    have e : r.toList = s.toList := by simpa using q
    rw [ByteArray.toList_eq, ByteArray.toList_eq] at e
    exact absurd (ByteArray.ext (Array.toList_inj.1 e)) h
theorem ns_f (s : Nm) : Value.bool (!(s.toList == s.toList)) = .bool false := by simp
/-! ### Two types -/
inductive FitsK : Fm → List Ty → List Ty → Fm → Prop
  | nil {m : Fm} : FitsK m [] [] m
  | cons {m m1 m2 : Fm} {t u : Ty} {ts us : List Ty} (h : Fits m t u m1) (k : FitsK m1 ts us m2) : FitsK m (t :: ts) (u :: us) m2
theorem fits_cs {m m' : Fm} {kd u row ke v rov : Nat} {ops opt : List Nm} {args art : List Ty} (h : Fits m (.mk kd u row ops args) (.mk ke v rov opt art) m') :
    (kd = 0 ∧ m.T u = some (.mk ke v rov opt art) ∧ m' = m) ∨ (kd = 0 ∧ m.T u = none ∧ m' = ⟨updF m.T u (.mk ke v rov opt art), m.R⟩) ∨
    (kd ≠ 0 ∧ kd = ke ∧ args.length = art.length ∧ ∃ m2, FitsK m args art m2 ∧ ((kd ≠ 6 ∧ m' = m2) ∨ (kd = 6 ∧ ∃ R, FitR m2.R ops row opt rov R ∧ m' = ⟨m2.T, R⟩))) := by
  cases h with
  | vo h => exact .inl ⟨rfl, h, rfl⟩
  | vn h => exact .inr (.inl ⟨rfl, h, rfl⟩)
  | c h => exact .inr (.inr ⟨by omega, rfl, rfl, m, .nil, .inl ⟨by omega, rfl⟩⟩)
  | l h => exact .inr (.inr ⟨by omega, rfl, rfl, _, .cons h .nil, .inl ⟨by omega, rfl⟩⟩)
  | p h k => exact .inr (.inr ⟨by omega, rfl, rfl, _, .cons h (.cons k .nil), .inl ⟨by omega, rfl⟩⟩)
  | f h k hr => exact .inr (.inr ⟨by omega, rfl, rfl, _, .cons h (.cons k .nil), .inr ⟨rfl, _, hr, rfl⟩⟩)
theorem FitsK.step {m m2 : Fm} {args art : List Ty} {i : Nat} (h : FitsK m (args.drop i) (art.drop i) m2) (hi : i < args.length) : ∃ t u m1, args[i]? = some t ∧ art[i]? = some u ∧ Fits m t u m1 ∧ FitsK m1 (args.drop (i + 1)) (art.drop (i + 1)) m2 := by
  have h1 := dropE (List.getElem?_eq_getElem hi)
  rw [h1] at h
  generalize hd : art.drop i = ad at h
  cases h with
  | @cons _ m1 _ _ u _ us h k =>
    have hj : i < art.length := by
      rcases Nat.lt_or_ge i art.length with q | q
      · exact q
      · rw [List.drop_eq_nil_of_le q] at hd; cases hd
    rw [dropE (List.getElem?_eq_getElem hj)] at hd
    cases hd
    exact ⟨_, _, m1, List.getElem?_eq_getElem hi, List.getElem?_eq_getElem hj, h, k⟩
theorem FitsK.end {m m2 : Fm} {args art : List Ty} {i : Nat} (h : FitsK m (args.drop i) (art.drop i) m2) (hi : args.length ≤ i) : m2 = m := by
  rw [List.drop_eq_nil_of_le hi] at h
  generalize art.drop i = ad at h
  cases h with
  | nil => rfl
theorem fits_lp {mi m2 m' : Fm} {args art : List Ty} {i kd row rov : Nat} {ops opt : List Nm} (h : FitsK mi (args.drop i) (art.drop i) m2) (k : (kd ≠ 6 ∧ m' = m2) ∨ (kd = 6 ∧ ∃ R, FitR m2.R ops row opt rov R ∧ m' = ⟨m2.T, R⟩)) :
    i < args.length ∨ (args.length ≤ i ∧ kd ≠ 6 ∧ m' = mi) ∨ (args.length ≤ i ∧ kd = 6 ∧ ∃ R, FitR mi.R ops row opt rov R ∧ m' = ⟨mi.T, R⟩) := by
  rcases Nat.lt_or_ge i args.length with q | q
  · exact .inl q
  · have e := h.end q
    subst e
    rcases k with ⟨a, b⟩ | ⟨a, R, b, c⟩
    · exact .inr (.inl ⟨q, a, b⟩)
    · exact .inr (.inr ⟨q, a, R, b, c⟩)
end Go.Slv
set_option linter.unusedVariables false
set_option linter.unusedSimpArgs false
namespace Go.Proofs.Ytfkkocjheeoobaa
open Go.RowKit Go.Sx Go.Inf Go.Slv
attribute [local irreducible] Go.wpOps Go.Code.wp Go.wpOp Go.wpAnyH Go.Calls Go.Sx.Goal
set_option maxRecDepth 20000
set_option maxHeartbeats 16000000 in
theorem row_c (bT bR : Nat) (MR : List (Int × Value)) (SR : Nat → Prop) (KR : List (Option Addr × List Nm)) (f f' : Nat → Option (List Nm × Nat)) (Sa : Nat → Prop) (kd u row : Nat) (ops : List Nm) (args : List Ty) (p : Tv) (Sb : Nat → Prop) (ke v rov : Nat) (opt : List Nm) (art : List Ty) (q : Tv) (w : World) (K : Ending → World → Prop) (H0 : Sp w [mapI (.int .i64) encN bR MR, rnI SR KR, tyI Sa p (Ty.mk kd u row ops args), tyI Sb q (Ty.mk ke v rov opt art)]) (hR : MapR MR f KR) (hf : FitR f ops row opt rov f') (hK : ∀ (MR' : List (Int × Value)) (KR' : List (Option Addr × List Nm)) (SR' : Nat → Prop) w', Hs w [mapI (.int .i64) encN bR MR, rnI SR KR, tyI Sa p (Ty.mk kd u row ops args), tyI Sb q (Ty.mk ke v rov opt art)] w' [mapI (.int .i64) encN bR MR', rnI SR' KR', tyI Sa p (Ty.mk kd u row ops args), tyI Sb q (Ty.mk ke v rov opt art)] → (MapR MR' f' KR') → K (.returned (.bool true)) w') :
    Calls Try.prog 26 #[.agg #[.map (some bT), .map (some bR)], .agg #[.int .i64 ((kd : Nat) : Int), .int .i64 ((u : Nat) : Int), .int .i64 ((row : Nat) : Int), .slice p.A p.na p.ca, .slice p.B p.nb p.cb], .agg #[.int .i64 ((ke : Nat) : Int), .int .i64 ((v : Nat) : Int), .int .i64 ((rov : Nat) : Int), .slice q.A q.na q.ca, .slice q.B q.nb q.cb]] w K := by
  obtain ⟨L0, hL0, H⟩ : ∃ L0, L0 = [mapI (.int .i64) encN bR MR, rnI SR KR, tyI Sa p (Ty.mk kd u row ops args), tyI Sb q (Ty.mk ke v rov opt art)] ∧ Hs w L0 w [mapI (.int .i64) encN bR MR, rnI SR KR, tyI Sa p (Ty.mk kd u row ops args), tyI Sb q (Ty.mk ke v rov opt art)] := ⟨_, rfl, Hs.refl H0⟩
  refine Sx.en (vs := [.agg #[.map (some bT), .map (some bR)], .agg #[.int .i64 ((kd : Nat) : Int), .int .i64 ((u : Nat) : Int), .int .i64 ((row : Nat) : Int), .slice p.A p.na p.ca, .slice p.B p.nb p.cb], .agg #[.int .i64 ((ke : Nat) : Int), .int .i64 ((v : Nat) : Int), .int .i64 ((rov : Nat) : Int), .slice q.A q.na q.ca, .slice q.B q.nb q.cb]]) 111 Try.func26 ?_
  have hob_ := (ty_at (S := Sa) (p := p) (t := Ty.mk kd u row ops args) H 2 (by kernel_rfl)).open
  obtain ⟨_, hna, hca, hnb, _⟩ := hob_
  have hob_ := (ty_at (S := Sb) (p := q) (t := Ty.mk ke v rov opt art) H 3 (by kernel_rfl)).open
  obtain ⟨_, hnc, hcc, hnd, _⟩ := hob_
  have hob_ := fitR_cs hf
  rcases hob_ with ⟨h0, h1, hmg, rfl⟩ | ⟨h0, hlk, hmg, rfl⟩ | ⟨h0, hlk, hmg, rfl⟩
  · skip
    refine Sx.nw 2 H fun k1 w1 H1 => ?_
    refine Sx.nw 0 H1 fun k2 w2 H2 => ?_
    refine Sx.nw 0 H2 fun k3 w3 H3 => ?_
    have H4 := H3.add (Gx.Ext.refl _) (it := .own 9 1 none 0 0 []) (World.ownsRow_nil _ _ _ _) (fun _ h => by cases h)
    have H5 := H4.pick (a := [mapI (.int .i64) encN bR MR, rnI SR KR, tyI Sa p (Ty.mk kd u row ops args), tyI Sb q (Ty.mk ke v rov opt art), .blk k1 (.cells #[.map (some bT), .map (some bR)] 42), .blk k2 (.cells #[.int .i64 ((kd : Nat) : Int), .int .i64 ((u : Nat) : Int), .int .i64 ((row : Nat) : Int), .slice p.A p.na p.ca, .slice p.B p.nb p.cb] 32), .blk k3 (.cells #[.int .i64 ((ke : Nat) : Int), .int .i64 ((v : Nat) : Int), .int .i64 ((rov : Nat) : Int), .slice q.A q.na q.ca, .slice q.B q.nb q.cb] 32), .own 9 1 none 0 0 (strs [])]) [0, 0, 0, 0, 0, 0, 0, 0] (by kernel_rfl)
    refine Sx.lp 20 (fun z l' w' => ∃ (i : Nat) (j : Nat) (A5 : Option Addr) (c5 : Nat) (n5 : Nat) (mr : List Nm), l' = [(3, .pointer (some ⟨k1, 0, none⟩)), (4, .pointer (some ⟨k2, 0, none⟩)), (5, .pointer (some ⟨k3, 0, none⟩)), (7, .slice A5 n5 c5), (8, .int .i64 ((i : Nat) : Int)), (9, .int .i64 ((j : Nat) : Int))] ∧ z = opt.length - j ∧ Hs w L0 w' [mapI (.int .i64) encN bR MR, rnI SR KR, tyI Sa p (Ty.mk kd u row ops args), tyI Sb q (Ty.mk ke v rov opt art), .blk k1 (.cells #[.map (some bT), .map (some bR)] 42), .blk k2 (.cells #[.int .i64 ((kd : Nat) : Int), .int .i64 ((u : Nat) : Int), .int .i64 ((row : Nat) : Int), .slice p.A p.na p.ca, .slice p.B p.nb p.cb] 32), .blk k3 (.cells #[.int .i64 ((ke : Nat) : Int), .int .i64 ((v : Nat) : Int), .int .i64 ((rov : Nat) : Int), .slice q.A q.na q.ca, .slice q.B q.nb q.cb] 32), .own 9 1 A5 c5 n5 (strs mr)] ∧ (MgTo ops opt i j mr) ∧ (n5 = mr.length) ∧ (i ≤ j) ∧ (mr.length ≤ j ∧ j ≤ opt.length)) _ [(3, .pointer (some ⟨k1, 0, none⟩)), (4, .pointer (some ⟨k2, 0, none⟩)), (5, .pointer (some ⟨k3, 0, none⟩)), (7, .slice none 0 0), (8, .int .i64 ((0 : Nat) : Int)), (9, .int .i64 ((0 : Nat) : Int))] ⟨0, 0, none, 0, 0, [], rfl, rfl, H5, (MgTo.nil _ _), rfl, (Nat.le_refl _), ⟨Nat.le_refl _, Nat.zero_le _⟩⟩ (fun b1 z1 l1 w4 hI1 K1 hK1 => ?_)
    obtain ⟨i, j, A5, c5, n5, mr, rfl, rfl, H6, hmt, hn5, hij, hmj⟩ := hI1
    have hob_ := row_cs ops opt i j
    rcases hob_ with ⟨hjj, hii, s, hs1, hs2⟩ | ⟨hjj, hii, r, s, hs1, hs2, hrs⟩ | ⟨hjj, hii, s, hs2⟩ | hjj
    · skip
      have hob_ := (ty_at (S := Sb) (p := q) (t := Ty.mk ke v rov opt art) H6 3 (by kernel_rfl)).open.1 j s hs2
      obtain ⟨yb, hyb, _, _⟩ := hob_
      have hob_ := (ty_at (S := Sa) (p := p) (t := Ty.mk kd u row ops args) H6 2 (by kernel_rfl)).open.1 i _ hs1
      obtain ⟨ya, hya, _, _⟩ := hob_
      refine Sx.l 5 6 H6 ?_
      refine Sx.v 1 (.bool (decide (((j : Nat) : Int) < ((q.na : Nat) : Int)))) (.bool true) (dT (by omega)) ?_
      refine Sx.dr 9 H6 [5, 2, 6, 3] [] (LJ := [.blk k2 (.cells #[.int .i64 ((kd : Nat) : Int), .int .i64 ((u : Nat) : Int), .int .i64 ((row : Nat) : Int), .slice p.A p.na p.ca, .slice p.B p.nb p.cb] 32), tyI Sa p (Ty.mk kd u row ops args), .blk k3 (.cells #[.int .i64 ((ke : Nat) : Int), .int .i64 ((v : Nat) : Int), .int .i64 ((rov : Nat) : Int), .slice q.A q.na q.ca, .slice q.B q.nb q.cb] 32), tyI Sb q (Ty.mk ke v rov opt art)]) (by kernel_rfl) fun w5 H7 => ?_
      refine Sx.tk [(0, none), (1, none), (2, some (0, [])), (3, none)] (fun _ => (H7.sub [5, 2, 4, 2] (by kernel_rfl))) ?_
      refine Sx.tva 4 [] (.bool (decide (((i : Nat) : Int) < ((p.na : Nat) : Int)))) (.bool true) (dT (by omega)) (fun _ => (H7.sub [5, 2, 4, 2] (by kernel_rfl))) ?_
      refine Sx.tk [(5, none), (6, none), (7, some (0, [])), (8, none)] (fun _ => (H7.sub [5, 2, 4, 2] (by kernel_rfl))) ?_
      refine Sx.tvi 9 [] ya i 1 p.na p.ca hya (by omega) (fun _ => (H7.sub [5, 2, 4, 2] (by kernel_rfl))) ?_
      refine Sx.tvo (c := 1) (t := 9) 10 [] [.string s] (.string s) (fun w' hs => ty_str (S := Sa) (p := p) (kd := kd) (n := u) (row := row) (ops := ops) (args := args) hs 1 (by kernel_rfl) hya hs1) (fun _ => (H7.sub [5, 2, 4, 2] (by kernel_rfl))) ?_
      refine Sx.tk [(11, none), (12, some (2, [])), (13, none)] (fun _ => (H7.sub [5, 2, 4, 2] (by kernel_rfl))) ?_
      refine Sx.tvi 14 [] yb j 1 q.na q.ca hyb (by omega) (fun _ => (H7.sub [5, 2, 4, 2] (by kernel_rfl))) ?_
      refine Sx.tvo (c := 1) (t := 9) 15 [] [.string s] (.string s) (fun w' hs => ty_str (S := Sb) (p := q) (kd := ke) (n := v) (row := rov) (ops := opt) (args := art) hs 3 (by kernel_rfl) hyb hs2) (fun _ => (H7.sub [5, 2, 4, 2] (by kernel_rfl))) ?_
      refine Sx.tva 16 [] (.bool (s.toList == s.toList)) (.bool true) (sn_t _) (fun _ => (H7.sub [5, 2, 4, 2] (by kernel_rfl))) ?_
      refine Sx.tk [(17, none)] (fun _ => (H7.sub [5, 2, 4, 2] (by kernel_rfl))) ?_
      refine Sx.dn ?_
      refine Sx.v 5 (.int .i64 (IntKind.i64.wrap (((i : Nat) : Int) + (1 : Int)))) (.int .i64 ((i + 1 : Nat) : Int)) (congrArg (Value.int .i64) (Gx.i64n (by omega) (by omega))) ?_
      refine Sx.v 9 (.int .i64 (IntKind.i64.wrap (((j : Nat) : Int) + (1 : Int)))) (.int .i64 ((j + 1 : Nat) : Int)) (congrArg (Value.int .i64) (Gx.i64n (by omega) (by omega))) ?_
      have H8 := H7.pick (a := [mapI (.int .i64) encN bR MR, rnI SR KR, tyI Sa p (Ty.mk kd u row ops args), tyI Sb q (Ty.mk ke v rov opt art), .blk k1 (.cells #[.map (some bT), .map (some bR)] 42), .blk k2 (.cells #[.int .i64 ((kd : Nat) : Int), .int .i64 ((u : Nat) : Int), .int .i64 ((row : Nat) : Int), .slice p.A p.na p.ca, .slice p.B p.nb p.cb] 32), .blk k3 (.cells #[.int .i64 ((ke : Nat) : Int), .int .i64 ((v : Nat) : Int), .int .i64 ((rov : Nat) : Int), .slice q.A q.na q.ca, .slice q.B q.nb q.cb] 32), .own 9 1 A5 c5 n5 (strs mr)]) [0, 0, 0, 0, 0, 0, 0, 0] (by kernel_rfl)
      exact Sx.to 2 [(3, .pointer (some ⟨k1, 0, none⟩)), (4, .pointer (some ⟨k2, 0, none⟩)), (5, .pointer (some ⟨k3, 0, none⟩)), (7, .slice A5 n5 c5), (8, .int .i64 (((i + 1) : Nat) : Int)), (9, .int .i64 (((j + 1) : Nat) : Int))] (hK1 _ _ _ _ (by omega) ⟨(i + 1), (j + 1), A5, c5, n5, mr, rfl, rfl, H8, (hmt.both hs1 hs2), hn5, (by omega), ⟨by omega, by omega⟩⟩)
    · skip
      have hob_ := (ty_at (S := Sb) (p := q) (t := Ty.mk ke v rov opt art) H6 3 (by kernel_rfl)).open.1 j s hs2
      obtain ⟨yb, hyb, _, _⟩ := hob_
      have hob_ := (ty_at (S := Sa) (p := p) (t := Ty.mk kd u row ops args) H6 2 (by kernel_rfl)).open.1 i _ hs1
      obtain ⟨ya, hya, _, _⟩ := hob_
      refine Sx.l 5 6 H6 ?_
      refine Sx.v 1 (.bool (decide (((j : Nat) : Int) < ((q.na : Nat) : Int)))) (.bool true) (dT (by omega)) ?_
      refine Sx.dr 9 H6 [5, 2, 6, 3] [] (LJ := [.blk k2 (.cells #[.int .i64 ((kd : Nat) : Int), .int .i64 ((u : Nat) : Int), .int .i64 ((row : Nat) : Int), .slice p.A p.na p.ca, .slice p.B p.nb p.cb] 32), tyI Sa p (Ty.mk kd u row ops args), .blk k3 (.cells #[.int .i64 ((ke : Nat) : Int), .int .i64 ((v : Nat) : Int), .int .i64 ((rov : Nat) : Int), .slice q.A q.na q.ca, .slice q.B q.nb q.cb] 32), tyI Sb q (Ty.mk ke v rov opt art)]) (by kernel_rfl) fun w6 H9 => ?_
      refine Sx.tk [(0, none), (1, none), (2, some (0, [])), (3, none)] (fun _ => (H9.sub [5, 2, 4, 2] (by kernel_rfl))) ?_
      refine Sx.tva 4 [] (.bool (decide (((i : Nat) : Int) < ((p.na : Nat) : Int)))) (.bool true) (dT (by omega)) (fun _ => (H9.sub [5, 2, 4, 2] (by kernel_rfl))) ?_
      refine Sx.tk [(5, none), (6, none), (7, some (0, [])), (8, none)] (fun _ => (H9.sub [5, 2, 4, 2] (by kernel_rfl))) ?_
      refine Sx.tvi 9 [] ya i 1 p.na p.ca hya (by omega) (fun _ => (H9.sub [5, 2, 4, 2] (by kernel_rfl))) ?_
      refine Sx.tvo (c := 1) (t := 9) 10 [] [.string r] (.string r) (fun w' hs => ty_str (S := Sa) (p := p) (kd := kd) (n := u) (row := row) (ops := ops) (args := args) hs 1 (by kernel_rfl) hya hs1) (fun _ => (H9.sub [5, 2, 4, 2] (by kernel_rfl))) ?_
      refine Sx.tk [(11, none), (12, some (2, [])), (13, none)] (fun _ => (H9.sub [5, 2, 4, 2] (by kernel_rfl))) ?_
      refine Sx.tvi 14 [] yb j 1 q.na q.ca hyb (by omega) (fun _ => (H9.sub [5, 2, 4, 2] (by kernel_rfl))) ?_
      refine Sx.tvo (c := 1) (t := 9) 15 [] [.string s] (.string s) (fun w' hs => ty_str (S := Sb) (p := q) (kd := ke) (n := v) (row := rov) (ops := opt) (args := art) hs 3 (by kernel_rfl) hyb hs2) (fun _ => (H9.sub [5, 2, 4, 2] (by kernel_rfl))) ?_
      refine Sx.tva 16 [] (.bool (r.toList == s.toList)) (.bool false) (sn_f hrs) (fun _ => (H9.sub [5, 2, 4, 2] (by kernel_rfl))) ?_
      refine Sx.tk [(17, none)] (fun _ => (H9.sub [5, 2, 4, 2] (by kernel_rfl))) ?_
      refine Sx.dn ?_
      refine Sx.l 7 6 H9 ?_
      refine Sx.ia 1 yb j 1 q.na q.ca hyb (by omega) ?_
      refine Sx.lo (c := 1) (t := 9) 0 [.string s] (.string s) (ty_str (S := Sb) (p := q) (kd := ke) (n := v) (row := rov) (ops := opt) (args := art) H9.sp 3 (by kernel_rfl) hyb hs2) ?_
      refine Sx.nw 0 H9 fun k4 w7 H10 => ?_
      refine Sx.ap 0 7 8 16 1 0 9 1 30 1 k4 A5 c5 n5 (strs mr) [.string s] H10 (by omega) (by omega) (strs_app _ _) fun A1 cap1 w8 H11 => ?_
      refine Sx.v 6 (.int .i64 (IntKind.i64.wrap (((j : Nat) : Int) + (1 : Int)))) (.int .i64 ((j + 1 : Nat) : Int)) (congrArg (Value.int .i64) (Gx.i64n (by omega) (by omega))) ?_
      have H12 := H11.pick (a := [mapI (.int .i64) encN bR MR, rnI SR KR, tyI Sa p (Ty.mk kd u row ops args), tyI Sb q (Ty.mk ke v rov opt art), .blk k1 (.cells #[.map (some bT), .map (some bR)] 42), .blk k2 (.cells #[.int .i64 ((kd : Nat) : Int), .int .i64 ((u : Nat) : Int), .int .i64 ((row : Nat) : Int), .slice p.A p.na p.ca, .slice p.B p.nb p.cb] 32), .blk k3 (.cells #[.int .i64 ((ke : Nat) : Int), .int .i64 ((v : Nat) : Int), .int .i64 ((rov : Nat) : Int), .slice q.A q.na q.ca, .slice q.B q.nb q.cb] 32), .own 9 1 A1 cap1 (n5 + 1) (strs (mr ++ [s]))]) [0, 0, 0, 0, 0, 0, 0, 0] (by kernel_rfl)
      exact Sx.to 2 [(3, .pointer (some ⟨k1, 0, none⟩)), (4, .pointer (some ⟨k2, 0, none⟩)), (5, .pointer (some ⟨k3, 0, none⟩)), (7, .slice A1 (n5 + 1) cap1), (8, .int .i64 ((i : Nat) : Int)), (9, .int .i64 (((j + 1) : Nat) : Int))] (hK1 _ _ _ _ (by omega) ⟨i, (j + 1), A1, cap1, n5 + 1, (mr ++ [s]), rfl, rfl, H12, (hmt.more (.inr ⟨_, hs1, hrs⟩) hs2), (by rw [List.length_append, hn5]; rfl), (by omega), ⟨by rw [List.length_append, List.length_singleton]; omega, by omega⟩⟩)
    · skip
      have hob_ := (ty_at (S := Sb) (p := q) (t := Ty.mk ke v rov opt art) H6 3 (by kernel_rfl)).open.1 j s hs2
      obtain ⟨yb, hyb, _, _⟩ := hob_
      refine Sx.l 5 6 H6 ?_
      refine Sx.v 1 (.bool (decide (((j : Nat) : Int) < ((q.na : Nat) : Int)))) (.bool true) (dT (by omega)) ?_
      refine Sx.dr 9 H6 [5] [] (LJ := [.blk k2 (.cells #[.int .i64 ((kd : Nat) : Int), .int .i64 ((u : Nat) : Int), .int .i64 ((row : Nat) : Int), .slice p.A p.na p.ca, .slice p.B p.nb p.cb] 32)]) (by kernel_rfl) fun w9 H13 => ?_
      refine Sx.tk [(0, none), (1, none), (2, some (0, [])), (3, none)] (fun _ => (H13.sub [5] (by kernel_rfl))) ?_
      refine Sx.tva 4 [] (.bool (decide (((i : Nat) : Int) < ((p.na : Nat) : Int)))) (.bool false) (dF (by omega)) (fun _ => (H13.sub [5] (by kernel_rfl))) ?_
      refine Sx.tk [(5, none), (6, none), (7, none), (8, none), (9, none), (10, none), (11, none), (12, none), (13, none), (14, none), (15, none), (16, none), (17, none)] (fun _ => (H13.sub [5] (by kernel_rfl))) ?_
      refine Sx.dn ?_
      refine Sx.l 7 6 H13 ?_
      refine Sx.ia 1 yb j 1 q.na q.ca hyb (by omega) ?_
      refine Sx.lo (c := 1) (t := 9) 0 [.string s] (.string s) (ty_str (S := Sb) (p := q) (kd := ke) (n := v) (row := rov) (ops := opt) (args := art) H13.sp 3 (by kernel_rfl) hyb hs2) ?_
      refine Sx.nw 0 H13 fun k5 w10 H14 => ?_
      refine Sx.ap 0 7 8 16 1 0 9 1 30 1 k5 A5 c5 n5 (strs mr) [.string s] H14 (by omega) (by omega) (strs_app _ _) fun A2 cap2 w11 H15 => ?_
      refine Sx.v 6 (.int .i64 (IntKind.i64.wrap (((j : Nat) : Int) + (1 : Int)))) (.int .i64 ((j + 1 : Nat) : Int)) (congrArg (Value.int .i64) (Gx.i64n (by omega) (by omega))) ?_
      have H16 := H15.pick (a := [mapI (.int .i64) encN bR MR, rnI SR KR, tyI Sa p (Ty.mk kd u row ops args), tyI Sb q (Ty.mk ke v rov opt art), .blk k1 (.cells #[.map (some bT), .map (some bR)] 42), .blk k2 (.cells #[.int .i64 ((kd : Nat) : Int), .int .i64 ((u : Nat) : Int), .int .i64 ((row : Nat) : Int), .slice p.A p.na p.ca, .slice p.B p.nb p.cb] 32), .blk k3 (.cells #[.int .i64 ((ke : Nat) : Int), .int .i64 ((v : Nat) : Int), .int .i64 ((rov : Nat) : Int), .slice q.A q.na q.ca, .slice q.B q.nb q.cb] 32), .own 9 1 A2 cap2 (n5 + 1) (strs (mr ++ [s]))]) [0, 0, 0, 0, 0, 0, 0, 0] (by kernel_rfl)
      exact Sx.to 2 [(3, .pointer (some ⟨k1, 0, none⟩)), (4, .pointer (some ⟨k2, 0, none⟩)), (5, .pointer (some ⟨k3, 0, none⟩)), (7, .slice A2 (n5 + 1) cap2), (8, .int .i64 ((i : Nat) : Int)), (9, .int .i64 (((j + 1) : Nat) : Int))] (hK1 _ _ _ _ (by omega) ⟨i, (j + 1), A2, cap2, n5 + 1, (mr ++ [s]), rfl, rfl, H16, (hmt.more (.inl hii) hs2), (by rw [List.length_append, hn5]; rfl), (by omega), ⟨by rw [List.length_append, List.length_singleton]; omega, by omega⟩⟩)
    have hmd := hmt.done hjj
    rw [hmd] at hmg
    have hdi : ops.drop i = [] := (Prod.mk.inj hmg).1
    have hil : ops.length ≤ i := by have := congrArg List.length hdi; simp at this; omega
    have hmr : mr = [] := (Prod.mk.inj hmg).2
    have hmr0 : mr.length = 0 := by rw [hmr]; rfl
    refine Sx.l 5 6 H6 ?_
    refine Sx.v 1 (.bool (decide (((j : Nat) : Int) < ((q.na : Nat) : Int)))) (.bool false) (dF (by omega)) ?_
    refine Sx.l 13 5 H6 ?_
    refine Sx.v 1 (.bool (decide (((i : Nat) : Int) < ((p.na : Nat) : Int)))) (.bool false) (dF (by omega)) ?_
    refine Sx.l 9 5 H6 ?_
    refine Sx.v 0 (.bool (((row : Nat) : Int) == (0 : Int))) (.bool true) (eT (by omega)) ?_
    refine Sx.v 7 (.bool (((n5 : Nat) : Int) == (0 : Int))) (.bool true) (eT (by omega)) ?_
    refine Sx.l 2 6 H6 ?_
    refine Sx.v 0 (.bool (((rov : Nat) : Int) == (0 : Int))) (.bool true) (eT (by omega)) ?_
    refine Sx.rt 6 [] H6 (.bool true) ?_
    subst hL0
    exact hK MR KR SR _ (H6.pick [0, 0, 0, 0] (by kernel_rfl)) hR
  · skip
    refine Sx.nw 2 H fun k6 w12 H17 => ?_
    refine Sx.nw 0 H17 fun k7 w13 H18 => ?_
    refine Sx.nw 0 H18 fun k8 w14 H19 => ?_
    have H20 := H19.add (Gx.Ext.refl _) (it := .own 9 1 none 0 0 []) (World.ownsRow_nil _ _ _ _) (fun _ h => by cases h)
    have H21 := H20.pick (a := [mapI (.int .i64) encN bR MR, rnI SR KR, tyI Sa p (Ty.mk kd u row ops args), tyI Sb q (Ty.mk ke v rov opt art), .blk k6 (.cells #[.map (some bT), .map (some bR)] 42), .blk k7 (.cells #[.int .i64 ((kd : Nat) : Int), .int .i64 ((u : Nat) : Int), .int .i64 ((row : Nat) : Int), .slice p.A p.na p.ca, .slice p.B p.nb p.cb] 32), .blk k8 (.cells #[.int .i64 ((ke : Nat) : Int), .int .i64 ((v : Nat) : Int), .int .i64 ((rov : Nat) : Int), .slice q.A q.na q.ca, .slice q.B q.nb q.cb] 32), .own 9 1 none 0 0 (strs [])]) [0, 0, 0, 0, 0, 0, 0, 0] (by kernel_rfl)
    refine Sx.lp 20 (fun z l' w' => ∃ (i : Nat) (j : Nat) (A5 : Option Addr) (c5 : Nat) (n5 : Nat) (mr : List Nm), l' = [(3, .pointer (some ⟨k6, 0, none⟩)), (4, .pointer (some ⟨k7, 0, none⟩)), (5, .pointer (some ⟨k8, 0, none⟩)), (7, .slice A5 n5 c5), (8, .int .i64 ((i : Nat) : Int)), (9, .int .i64 ((j : Nat) : Int))] ∧ z = opt.length - j ∧ Hs w L0 w' [mapI (.int .i64) encN bR MR, rnI SR KR, tyI Sa p (Ty.mk kd u row ops args), tyI Sb q (Ty.mk ke v rov opt art), .blk k6 (.cells #[.map (some bT), .map (some bR)] 42), .blk k7 (.cells #[.int .i64 ((kd : Nat) : Int), .int .i64 ((u : Nat) : Int), .int .i64 ((row : Nat) : Int), .slice p.A p.na p.ca, .slice p.B p.nb p.cb] 32), .blk k8 (.cells #[.int .i64 ((ke : Nat) : Int), .int .i64 ((v : Nat) : Int), .int .i64 ((rov : Nat) : Int), .slice q.A q.na q.ca, .slice q.B q.nb q.cb] 32), .own 9 1 A5 c5 n5 (strs mr)] ∧ (MgTo ops opt i j mr) ∧ (n5 = mr.length) ∧ (i ≤ j) ∧ (mr.length ≤ j ∧ j ≤ opt.length)) _ [(3, .pointer (some ⟨k6, 0, none⟩)), (4, .pointer (some ⟨k7, 0, none⟩)), (5, .pointer (some ⟨k8, 0, none⟩)), (7, .slice none 0 0), (8, .int .i64 ((0 : Nat) : Int)), (9, .int .i64 ((0 : Nat) : Int))] ⟨0, 0, none, 0, 0, [], rfl, rfl, H21, (MgTo.nil _ _), rfl, (Nat.le_refl _), ⟨Nat.le_refl _, Nat.zero_le _⟩⟩ (fun b2 z2 l2 w15 hI2 K2 hK2 => ?_)
    obtain ⟨i, j, A5, c5, n5, mr, rfl, rfl, H22, hmt, hn5, hij, hmj⟩ := hI2
    have hob_ := row_cs ops opt i j
    rcases hob_ with ⟨hjj, hii, s, hs1, hs2⟩ | ⟨hjj, hii, r, s, hs1, hs2, hrs⟩ | ⟨hjj, hii, s, hs2⟩ | hjj
    · skip
      have hob_ := (ty_at (S := Sb) (p := q) (t := Ty.mk ke v rov opt art) H22 3 (by kernel_rfl)).open.1 j s hs2
      obtain ⟨yb, hyb, _, _⟩ := hob_
      have hob_ := (ty_at (S := Sa) (p := p) (t := Ty.mk kd u row ops args) H22 2 (by kernel_rfl)).open.1 i _ hs1
      obtain ⟨ya, hya, _, _⟩ := hob_
      refine Sx.l 5 6 H22 ?_
      refine Sx.v 1 (.bool (decide (((j : Nat) : Int) < ((q.na : Nat) : Int)))) (.bool true) (dT (by omega)) ?_
      refine Sx.dr 9 H22 [5, 2, 6, 3] [] (LJ := [.blk k7 (.cells #[.int .i64 ((kd : Nat) : Int), .int .i64 ((u : Nat) : Int), .int .i64 ((row : Nat) : Int), .slice p.A p.na p.ca, .slice p.B p.nb p.cb] 32), tyI Sa p (Ty.mk kd u row ops args), .blk k8 (.cells #[.int .i64 ((ke : Nat) : Int), .int .i64 ((v : Nat) : Int), .int .i64 ((rov : Nat) : Int), .slice q.A q.na q.ca, .slice q.B q.nb q.cb] 32), tyI Sb q (Ty.mk ke v rov opt art)]) (by kernel_rfl) fun w16 H23 => ?_
      refine Sx.tk [(0, none), (1, none), (2, some (0, [])), (3, none)] (fun _ => (H23.sub [5, 2, 4, 2] (by kernel_rfl))) ?_
      refine Sx.tva 4 [] (.bool (decide (((i : Nat) : Int) < ((p.na : Nat) : Int)))) (.bool true) (dT (by omega)) (fun _ => (H23.sub [5, 2, 4, 2] (by kernel_rfl))) ?_
      refine Sx.tk [(5, none), (6, none), (7, some (0, [])), (8, none)] (fun _ => (H23.sub [5, 2, 4, 2] (by kernel_rfl))) ?_
      refine Sx.tvi 9 [] ya i 1 p.na p.ca hya (by omega) (fun _ => (H23.sub [5, 2, 4, 2] (by kernel_rfl))) ?_
      refine Sx.tvo (c := 1) (t := 9) 10 [] [.string s] (.string s) (fun w' hs => ty_str (S := Sa) (p := p) (kd := kd) (n := u) (row := row) (ops := ops) (args := args) hs 1 (by kernel_rfl) hya hs1) (fun _ => (H23.sub [5, 2, 4, 2] (by kernel_rfl))) ?_
      refine Sx.tk [(11, none), (12, some (2, [])), (13, none)] (fun _ => (H23.sub [5, 2, 4, 2] (by kernel_rfl))) ?_
      refine Sx.tvi 14 [] yb j 1 q.na q.ca hyb (by omega) (fun _ => (H23.sub [5, 2, 4, 2] (by kernel_rfl))) ?_
      refine Sx.tvo (c := 1) (t := 9) 15 [] [.string s] (.string s) (fun w' hs => ty_str (S := Sb) (p := q) (kd := ke) (n := v) (row := rov) (ops := opt) (args := art) hs 3 (by kernel_rfl) hyb hs2) (fun _ => (H23.sub [5, 2, 4, 2] (by kernel_rfl))) ?_
      refine Sx.tva 16 [] (.bool (s.toList == s.toList)) (.bool true) (sn_t _) (fun _ => (H23.sub [5, 2, 4, 2] (by kernel_rfl))) ?_
      refine Sx.tk [(17, none)] (fun _ => (H23.sub [5, 2, 4, 2] (by kernel_rfl))) ?_
      refine Sx.dn ?_
      refine Sx.v 5 (.int .i64 (IntKind.i64.wrap (((i : Nat) : Int) + (1 : Int)))) (.int .i64 ((i + 1 : Nat) : Int)) (congrArg (Value.int .i64) (Gx.i64n (by omega) (by omega))) ?_
      refine Sx.v 9 (.int .i64 (IntKind.i64.wrap (((j : Nat) : Int) + (1 : Int)))) (.int .i64 ((j + 1 : Nat) : Int)) (congrArg (Value.int .i64) (Gx.i64n (by omega) (by omega))) ?_
      have H24 := H23.pick (a := [mapI (.int .i64) encN bR MR, rnI SR KR, tyI Sa p (Ty.mk kd u row ops args), tyI Sb q (Ty.mk ke v rov opt art), .blk k6 (.cells #[.map (some bT), .map (some bR)] 42), .blk k7 (.cells #[.int .i64 ((kd : Nat) : Int), .int .i64 ((u : Nat) : Int), .int .i64 ((row : Nat) : Int), .slice p.A p.na p.ca, .slice p.B p.nb p.cb] 32), .blk k8 (.cells #[.int .i64 ((ke : Nat) : Int), .int .i64 ((v : Nat) : Int), .int .i64 ((rov : Nat) : Int), .slice q.A q.na q.ca, .slice q.B q.nb q.cb] 32), .own 9 1 A5 c5 n5 (strs mr)]) [0, 0, 0, 0, 0, 0, 0, 0] (by kernel_rfl)
      exact Sx.to 2 [(3, .pointer (some ⟨k6, 0, none⟩)), (4, .pointer (some ⟨k7, 0, none⟩)), (5, .pointer (some ⟨k8, 0, none⟩)), (7, .slice A5 n5 c5), (8, .int .i64 (((i + 1) : Nat) : Int)), (9, .int .i64 (((j + 1) : Nat) : Int))] (hK2 _ _ _ _ (by omega) ⟨(i + 1), (j + 1), A5, c5, n5, mr, rfl, rfl, H24, (hmt.both hs1 hs2), hn5, (by omega), ⟨by omega, by omega⟩⟩)
    · skip
      have hob_ := (ty_at (S := Sb) (p := q) (t := Ty.mk ke v rov opt art) H22 3 (by kernel_rfl)).open.1 j s hs2
      obtain ⟨yb, hyb, _, _⟩ := hob_
      have hob_ := (ty_at (S := Sa) (p := p) (t := Ty.mk kd u row ops args) H22 2 (by kernel_rfl)).open.1 i _ hs1
      obtain ⟨ya, hya, _, _⟩ := hob_
      refine Sx.l 5 6 H22 ?_
      refine Sx.v 1 (.bool (decide (((j : Nat) : Int) < ((q.na : Nat) : Int)))) (.bool true) (dT (by omega)) ?_
      refine Sx.dr 9 H22 [5, 2, 6, 3] [] (LJ := [.blk k7 (.cells #[.int .i64 ((kd : Nat) : Int), .int .i64 ((u : Nat) : Int), .int .i64 ((row : Nat) : Int), .slice p.A p.na p.ca, .slice p.B p.nb p.cb] 32), tyI Sa p (Ty.mk kd u row ops args), .blk k8 (.cells #[.int .i64 ((ke : Nat) : Int), .int .i64 ((v : Nat) : Int), .int .i64 ((rov : Nat) : Int), .slice q.A q.na q.ca, .slice q.B q.nb q.cb] 32), tyI Sb q (Ty.mk ke v rov opt art)]) (by kernel_rfl) fun w17 H25 => ?_
      refine Sx.tk [(0, none), (1, none), (2, some (0, [])), (3, none)] (fun _ => (H25.sub [5, 2, 4, 2] (by kernel_rfl))) ?_
      refine Sx.tva 4 [] (.bool (decide (((i : Nat) : Int) < ((p.na : Nat) : Int)))) (.bool true) (dT (by omega)) (fun _ => (H25.sub [5, 2, 4, 2] (by kernel_rfl))) ?_
      refine Sx.tk [(5, none), (6, none), (7, some (0, [])), (8, none)] (fun _ => (H25.sub [5, 2, 4, 2] (by kernel_rfl))) ?_
      refine Sx.tvi 9 [] ya i 1 p.na p.ca hya (by omega) (fun _ => (H25.sub [5, 2, 4, 2] (by kernel_rfl))) ?_
      refine Sx.tvo (c := 1) (t := 9) 10 [] [.string r] (.string r) (fun w' hs => ty_str (S := Sa) (p := p) (kd := kd) (n := u) (row := row) (ops := ops) (args := args) hs 1 (by kernel_rfl) hya hs1) (fun _ => (H25.sub [5, 2, 4, 2] (by kernel_rfl))) ?_
      refine Sx.tk [(11, none), (12, some (2, [])), (13, none)] (fun _ => (H25.sub [5, 2, 4, 2] (by kernel_rfl))) ?_
      refine Sx.tvi 14 [] yb j 1 q.na q.ca hyb (by omega) (fun _ => (H25.sub [5, 2, 4, 2] (by kernel_rfl))) ?_
      refine Sx.tvo (c := 1) (t := 9) 15 [] [.string s] (.string s) (fun w' hs => ty_str (S := Sb) (p := q) (kd := ke) (n := v) (row := rov) (ops := opt) (args := art) hs 3 (by kernel_rfl) hyb hs2) (fun _ => (H25.sub [5, 2, 4, 2] (by kernel_rfl))) ?_
      refine Sx.tva 16 [] (.bool (r.toList == s.toList)) (.bool false) (sn_f hrs) (fun _ => (H25.sub [5, 2, 4, 2] (by kernel_rfl))) ?_
      refine Sx.tk [(17, none)] (fun _ => (H25.sub [5, 2, 4, 2] (by kernel_rfl))) ?_
      refine Sx.dn ?_
      refine Sx.l 7 6 H25 ?_
      refine Sx.ia 1 yb j 1 q.na q.ca hyb (by omega) ?_
      refine Sx.lo (c := 1) (t := 9) 0 [.string s] (.string s) (ty_str (S := Sb) (p := q) (kd := ke) (n := v) (row := rov) (ops := opt) (args := art) H25.sp 3 (by kernel_rfl) hyb hs2) ?_
      refine Sx.nw 0 H25 fun k9 w18 H26 => ?_
      refine Sx.ap 0 7 8 16 1 0 9 1 30 1 k9 A5 c5 n5 (strs mr) [.string s] H26 (by omega) (by omega) (strs_app _ _) fun A3 cap3 w19 H27 => ?_
      refine Sx.v 6 (.int .i64 (IntKind.i64.wrap (((j : Nat) : Int) + (1 : Int)))) (.int .i64 ((j + 1 : Nat) : Int)) (congrArg (Value.int .i64) (Gx.i64n (by omega) (by omega))) ?_
      have H28 := H27.pick (a := [mapI (.int .i64) encN bR MR, rnI SR KR, tyI Sa p (Ty.mk kd u row ops args), tyI Sb q (Ty.mk ke v rov opt art), .blk k6 (.cells #[.map (some bT), .map (some bR)] 42), .blk k7 (.cells #[.int .i64 ((kd : Nat) : Int), .int .i64 ((u : Nat) : Int), .int .i64 ((row : Nat) : Int), .slice p.A p.na p.ca, .slice p.B p.nb p.cb] 32), .blk k8 (.cells #[.int .i64 ((ke : Nat) : Int), .int .i64 ((v : Nat) : Int), .int .i64 ((rov : Nat) : Int), .slice q.A q.na q.ca, .slice q.B q.nb q.cb] 32), .own 9 1 A3 cap3 (n5 + 1) (strs (mr ++ [s]))]) [0, 0, 0, 0, 0, 0, 0, 0] (by kernel_rfl)
      exact Sx.to 2 [(3, .pointer (some ⟨k6, 0, none⟩)), (4, .pointer (some ⟨k7, 0, none⟩)), (5, .pointer (some ⟨k8, 0, none⟩)), (7, .slice A3 (n5 + 1) cap3), (8, .int .i64 ((i : Nat) : Int)), (9, .int .i64 (((j + 1) : Nat) : Int))] (hK2 _ _ _ _ (by omega) ⟨i, (j + 1), A3, cap3, n5 + 1, (mr ++ [s]), rfl, rfl, H28, (hmt.more (.inr ⟨_, hs1, hrs⟩) hs2), (by rw [List.length_append, hn5]; rfl), (by omega), ⟨by rw [List.length_append, List.length_singleton]; omega, by omega⟩⟩)
    · skip
      have hob_ := (ty_at (S := Sb) (p := q) (t := Ty.mk ke v rov opt art) H22 3 (by kernel_rfl)).open.1 j s hs2
      obtain ⟨yb, hyb, _, _⟩ := hob_
      refine Sx.l 5 6 H22 ?_
      refine Sx.v 1 (.bool (decide (((j : Nat) : Int) < ((q.na : Nat) : Int)))) (.bool true) (dT (by omega)) ?_
      refine Sx.dr 9 H22 [5] [] (LJ := [.blk k7 (.cells #[.int .i64 ((kd : Nat) : Int), .int .i64 ((u : Nat) : Int), .int .i64 ((row : Nat) : Int), .slice p.A p.na p.ca, .slice p.B p.nb p.cb] 32)]) (by kernel_rfl) fun w20 H29 => ?_
      refine Sx.tk [(0, none), (1, none), (2, some (0, [])), (3, none)] (fun _ => (H29.sub [5] (by kernel_rfl))) ?_
      refine Sx.tva 4 [] (.bool (decide (((i : Nat) : Int) < ((p.na : Nat) : Int)))) (.bool false) (dF (by omega)) (fun _ => (H29.sub [5] (by kernel_rfl))) ?_
      refine Sx.tk [(5, none), (6, none), (7, none), (8, none), (9, none), (10, none), (11, none), (12, none), (13, none), (14, none), (15, none), (16, none), (17, none)] (fun _ => (H29.sub [5] (by kernel_rfl))) ?_
      refine Sx.dn ?_
      refine Sx.l 7 6 H29 ?_
      refine Sx.ia 1 yb j 1 q.na q.ca hyb (by omega) ?_
      refine Sx.lo (c := 1) (t := 9) 0 [.string s] (.string s) (ty_str (S := Sb) (p := q) (kd := ke) (n := v) (row := rov) (ops := opt) (args := art) H29.sp 3 (by kernel_rfl) hyb hs2) ?_
      refine Sx.nw 0 H29 fun k10 w21 H30 => ?_
      refine Sx.ap 0 7 8 16 1 0 9 1 30 1 k10 A5 c5 n5 (strs mr) [.string s] H30 (by omega) (by omega) (strs_app _ _) fun A4 cap4 w22 H31 => ?_
      refine Sx.v 6 (.int .i64 (IntKind.i64.wrap (((j : Nat) : Int) + (1 : Int)))) (.int .i64 ((j + 1 : Nat) : Int)) (congrArg (Value.int .i64) (Gx.i64n (by omega) (by omega))) ?_
      have H32 := H31.pick (a := [mapI (.int .i64) encN bR MR, rnI SR KR, tyI Sa p (Ty.mk kd u row ops args), tyI Sb q (Ty.mk ke v rov opt art), .blk k6 (.cells #[.map (some bT), .map (some bR)] 42), .blk k7 (.cells #[.int .i64 ((kd : Nat) : Int), .int .i64 ((u : Nat) : Int), .int .i64 ((row : Nat) : Int), .slice p.A p.na p.ca, .slice p.B p.nb p.cb] 32), .blk k8 (.cells #[.int .i64 ((ke : Nat) : Int), .int .i64 ((v : Nat) : Int), .int .i64 ((rov : Nat) : Int), .slice q.A q.na q.ca, .slice q.B q.nb q.cb] 32), .own 9 1 A4 cap4 (n5 + 1) (strs (mr ++ [s]))]) [0, 0, 0, 0, 0, 0, 0, 0] (by kernel_rfl)
      exact Sx.to 2 [(3, .pointer (some ⟨k6, 0, none⟩)), (4, .pointer (some ⟨k7, 0, none⟩)), (5, .pointer (some ⟨k8, 0, none⟩)), (7, .slice A4 (n5 + 1) cap4), (8, .int .i64 ((i : Nat) : Int)), (9, .int .i64 (((j + 1) : Nat) : Int))] (hK2 _ _ _ _ (by omega) ⟨i, (j + 1), A4, cap4, n5 + 1, (mr ++ [s]), rfl, rfl, H32, (hmt.more (.inl hii) hs2), (by rw [List.length_append, hn5]; rfl), (by omega), ⟨by rw [List.length_append, List.length_singleton]; omega, by omega⟩⟩)
    have hmd := hmt.done hjj
    rw [hmd] at hmg
    simp only at hmg
    have hm2 : (mg ops opt).2 = mr := by rw [hmd]
    have hdi : ops.drop i = [] := hmg
    have hil : ops.length ≤ i := by have := congrArg List.length hdi; simp at this; omega
    refine Sx.l 5 6 H22 ?_
    refine Sx.v 1 (.bool (decide (((j : Nat) : Int) < ((q.na : Nat) : Int)))) (.bool false) (dF (by omega)) ?_
    refine Sx.l 13 5 H22 ?_
    refine Sx.v 1 (.bool (decide (((i : Nat) : Int) < ((p.na : Nat) : Int)))) (.bool false) (dF (by omega)) ?_
    refine Sx.l 9 5 H22 ?_
    refine Sx.v 0 (.bool (((row : Nat) : Int) == (0 : Int))) (.bool false) (eF (by omega)) ?_
    refine Sx.l 8 4 H22 ?_
    refine Sx.l 1 5 H22 ?_
    refine Sx.lkN (bt := bR) (mp := MR) (t := 40) (kt := 3) (et := 72) 0 0 H22 ((row : Nat) : Int) (.agg #[.int .i64 0, .int .i64 0, .int .i64 0, .int .i64 0, .slice none 0 0, .slice none 0 0, .int .i64 0, .slice none 0 0, .int .i64 0]) (hR.no hlk) (by kernel_rfl) ?_
    refine Sx.nw 3 H22 fun k11 w23 H33 => ?_
    refine Sx.s 0 8 H33 fun w24 H34 => ?_
    refine Sx.l 14 4 H34 ?_
    refine Sx.l 1 5 H34 ?_
    refine Sx.l 2 6 H34 ?_
    refine Sx.muV (bt := bR) (mp := MR) (t := 40) (kt := 3) (et := 72) 1 0 H34 ((row : Nat) : Int) (.agg #[.int .i64 0, .int .i64 0, .int .i64 0, .int .i64 0, .slice none 0 0, .slice none 0 0, .int .i64 0, .slice A5 n5 c5, .int .i64 ((rov : Nat) : Int)]) (by kernel_rfl) fun w25 H35 => ?_
    refine Sx.rt 9 [] H35 (.bool true) ?_
    have H36 := Hs.toStr H35 7 (e := 9) (n := n5) (cap := c5) (A := A5) (l := mr) (by kernel_rfl)
    have hob_ := rn_add H36 [1, 6] (S := SR) (S2 := (fun c => (Value.slice A5 n5 c5).ownBlock = some c)) (l := KR) (A := A5) (m := mr) (by kernel_rfl)
    obtain ⟨S1, H37⟩ := hob_
    subst hn5
    have hRn := hR.add row A5 c5 mr rov
    subst hL0
    exact hK (Sx.upd ((row : Nat) : Int) (.agg #[.int .i64 0, .int .i64 0, .int .i64 0, .int .i64 0, .slice none 0 0, .slice none 0 0, .int .i64 0, .slice A5 mr.length c5, .int .i64 ((rov : Nat) : Int)]) MR) (KR ++ [(A5, mr)]) S1 _ (H37.pick [1, 0, 0, 0] (by kernel_rfl)) (by rw [hm2]; exact hRn)
  refine Sx.nw 2 H fun k12 w26 H38 => ?_
  refine Sx.nw 0 H38 fun k13 w27 H39 => ?_
  refine Sx.nw 0 H39 fun k14 w28 H40 => ?_
  have H41 := H40.add (Gx.Ext.refl _) (it := .own 9 1 none 0 0 []) (World.ownsRow_nil _ _ _ _) (fun _ h => by cases h)
  have H42 := H41.pick (a := [mapI (.int .i64) encN bR MR, rnI SR KR, tyI Sa p (Ty.mk kd u row ops args), tyI Sb q (Ty.mk ke v rov opt art), .blk k12 (.cells #[.map (some bT), .map (some bR)] 42), .blk k13 (.cells #[.int .i64 ((kd : Nat) : Int), .int .i64 ((u : Nat) : Int), .int .i64 ((row : Nat) : Int), .slice p.A p.na p.ca, .slice p.B p.nb p.cb] 32), .blk k14 (.cells #[.int .i64 ((ke : Nat) : Int), .int .i64 ((v : Nat) : Int), .int .i64 ((rov : Nat) : Int), .slice q.A q.na q.ca, .slice q.B q.nb q.cb] 32), .own 9 1 none 0 0 (strs [])]) [0, 0, 0, 0, 0, 0, 0, 0] (by kernel_rfl)
  refine Sx.lp 20 (fun z l' w' => ∃ (i : Nat) (j : Nat) (A5 : Option Addr) (c5 : Nat) (n5 : Nat) (mr : List Nm), l' = [(3, .pointer (some ⟨k12, 0, none⟩)), (4, .pointer (some ⟨k13, 0, none⟩)), (5, .pointer (some ⟨k14, 0, none⟩)), (7, .slice A5 n5 c5), (8, .int .i64 ((i : Nat) : Int)), (9, .int .i64 ((j : Nat) : Int))] ∧ z = opt.length - j ∧ Hs w L0 w' [mapI (.int .i64) encN bR MR, rnI SR KR, tyI Sa p (Ty.mk kd u row ops args), tyI Sb q (Ty.mk ke v rov opt art), .blk k12 (.cells #[.map (some bT), .map (some bR)] 42), .blk k13 (.cells #[.int .i64 ((kd : Nat) : Int), .int .i64 ((u : Nat) : Int), .int .i64 ((row : Nat) : Int), .slice p.A p.na p.ca, .slice p.B p.nb p.cb] 32), .blk k14 (.cells #[.int .i64 ((ke : Nat) : Int), .int .i64 ((v : Nat) : Int), .int .i64 ((rov : Nat) : Int), .slice q.A q.na q.ca, .slice q.B q.nb q.cb] 32), .own 9 1 A5 c5 n5 (strs mr)] ∧ (MgTo ops opt i j mr) ∧ (n5 = mr.length) ∧ (i ≤ j) ∧ (mr.length ≤ j ∧ j ≤ opt.length)) _ [(3, .pointer (some ⟨k12, 0, none⟩)), (4, .pointer (some ⟨k13, 0, none⟩)), (5, .pointer (some ⟨k14, 0, none⟩)), (7, .slice none 0 0), (8, .int .i64 ((0 : Nat) : Int)), (9, .int .i64 ((0 : Nat) : Int))] ⟨0, 0, none, 0, 0, [], rfl, rfl, H42, (MgTo.nil _ _), rfl, (Nat.le_refl _), ⟨Nat.le_refl _, Nat.zero_le _⟩⟩ (fun b3 z3 l3 w29 hI3 K3 hK3 => ?_)
  obtain ⟨i, j, A5, c5, n5, mr, rfl, rfl, H43, hmt, hn5, hij, hmj⟩ := hI3
  have hob_ := row_cs ops opt i j
  rcases hob_ with ⟨hjj, hii, s, hs1, hs2⟩ | ⟨hjj, hii, r, s, hs1, hs2, hrs⟩ | ⟨hjj, hii, s, hs2⟩ | hjj
  · skip
    have hob_ := (ty_at (S := Sb) (p := q) (t := Ty.mk ke v rov opt art) H43 3 (by kernel_rfl)).open.1 j s hs2
    obtain ⟨yb, hyb, _, _⟩ := hob_
    have hob_ := (ty_at (S := Sa) (p := p) (t := Ty.mk kd u row ops args) H43 2 (by kernel_rfl)).open.1 i _ hs1
    obtain ⟨ya, hya, _, _⟩ := hob_
    refine Sx.l 5 6 H43 ?_
    refine Sx.v 1 (.bool (decide (((j : Nat) : Int) < ((q.na : Nat) : Int)))) (.bool true) (dT (by omega)) ?_
    refine Sx.dr 9 H43 [5, 2, 6, 3] [] (LJ := [.blk k13 (.cells #[.int .i64 ((kd : Nat) : Int), .int .i64 ((u : Nat) : Int), .int .i64 ((row : Nat) : Int), .slice p.A p.na p.ca, .slice p.B p.nb p.cb] 32), tyI Sa p (Ty.mk kd u row ops args), .blk k14 (.cells #[.int .i64 ((ke : Nat) : Int), .int .i64 ((v : Nat) : Int), .int .i64 ((rov : Nat) : Int), .slice q.A q.na q.ca, .slice q.B q.nb q.cb] 32), tyI Sb q (Ty.mk ke v rov opt art)]) (by kernel_rfl) fun w30 H44 => ?_
    refine Sx.tk [(0, none), (1, none), (2, some (0, [])), (3, none)] (fun _ => (H44.sub [5, 2, 4, 2] (by kernel_rfl))) ?_
    refine Sx.tva 4 [] (.bool (decide (((i : Nat) : Int) < ((p.na : Nat) : Int)))) (.bool true) (dT (by omega)) (fun _ => (H44.sub [5, 2, 4, 2] (by kernel_rfl))) ?_
    refine Sx.tk [(5, none), (6, none), (7, some (0, [])), (8, none)] (fun _ => (H44.sub [5, 2, 4, 2] (by kernel_rfl))) ?_
    refine Sx.tvi 9 [] ya i 1 p.na p.ca hya (by omega) (fun _ => (H44.sub [5, 2, 4, 2] (by kernel_rfl))) ?_
    refine Sx.tvo (c := 1) (t := 9) 10 [] [.string s] (.string s) (fun w' hs => ty_str (S := Sa) (p := p) (kd := kd) (n := u) (row := row) (ops := ops) (args := args) hs 1 (by kernel_rfl) hya hs1) (fun _ => (H44.sub [5, 2, 4, 2] (by kernel_rfl))) ?_
    refine Sx.tk [(11, none), (12, some (2, [])), (13, none)] (fun _ => (H44.sub [5, 2, 4, 2] (by kernel_rfl))) ?_
    refine Sx.tvi 14 [] yb j 1 q.na q.ca hyb (by omega) (fun _ => (H44.sub [5, 2, 4, 2] (by kernel_rfl))) ?_
    refine Sx.tvo (c := 1) (t := 9) 15 [] [.string s] (.string s) (fun w' hs => ty_str (S := Sb) (p := q) (kd := ke) (n := v) (row := rov) (ops := opt) (args := art) hs 3 (by kernel_rfl) hyb hs2) (fun _ => (H44.sub [5, 2, 4, 2] (by kernel_rfl))) ?_
    refine Sx.tva 16 [] (.bool (s.toList == s.toList)) (.bool true) (sn_t _) (fun _ => (H44.sub [5, 2, 4, 2] (by kernel_rfl))) ?_
    refine Sx.tk [(17, none)] (fun _ => (H44.sub [5, 2, 4, 2] (by kernel_rfl))) ?_
    refine Sx.dn ?_
    refine Sx.v 5 (.int .i64 (IntKind.i64.wrap (((i : Nat) : Int) + (1 : Int)))) (.int .i64 ((i + 1 : Nat) : Int)) (congrArg (Value.int .i64) (Gx.i64n (by omega) (by omega))) ?_
    refine Sx.v 9 (.int .i64 (IntKind.i64.wrap (((j : Nat) : Int) + (1 : Int)))) (.int .i64 ((j + 1 : Nat) : Int)) (congrArg (Value.int .i64) (Gx.i64n (by omega) (by omega))) ?_
    have H45 := H44.pick (a := [mapI (.int .i64) encN bR MR, rnI SR KR, tyI Sa p (Ty.mk kd u row ops args), tyI Sb q (Ty.mk ke v rov opt art), .blk k12 (.cells #[.map (some bT), .map (some bR)] 42), .blk k13 (.cells #[.int .i64 ((kd : Nat) : Int), .int .i64 ((u : Nat) : Int), .int .i64 ((row : Nat) : Int), .slice p.A p.na p.ca, .slice p.B p.nb p.cb] 32), .blk k14 (.cells #[.int .i64 ((ke : Nat) : Int), .int .i64 ((v : Nat) : Int), .int .i64 ((rov : Nat) : Int), .slice q.A q.na q.ca, .slice q.B q.nb q.cb] 32), .own 9 1 A5 c5 n5 (strs mr)]) [0, 0, 0, 0, 0, 0, 0, 0] (by kernel_rfl)
    exact Sx.to 2 [(3, .pointer (some ⟨k12, 0, none⟩)), (4, .pointer (some ⟨k13, 0, none⟩)), (5, .pointer (some ⟨k14, 0, none⟩)), (7, .slice A5 n5 c5), (8, .int .i64 (((i + 1) : Nat) : Int)), (9, .int .i64 (((j + 1) : Nat) : Int))] (hK3 _ _ _ _ (by omega) ⟨(i + 1), (j + 1), A5, c5, n5, mr, rfl, rfl, H45, (hmt.both hs1 hs2), hn5, (by omega), ⟨by omega, by omega⟩⟩)
  · skip
    have hob_ := (ty_at (S := Sb) (p := q) (t := Ty.mk ke v rov opt art) H43 3 (by kernel_rfl)).open.1 j s hs2
    obtain ⟨yb, hyb, _, _⟩ := hob_
    have hob_ := (ty_at (S := Sa) (p := p) (t := Ty.mk kd u row ops args) H43 2 (by kernel_rfl)).open.1 i _ hs1
    obtain ⟨ya, hya, _, _⟩ := hob_
    refine Sx.l 5 6 H43 ?_
    refine Sx.v 1 (.bool (decide (((j : Nat) : Int) < ((q.na : Nat) : Int)))) (.bool true) (dT (by omega)) ?_
    refine Sx.dr 9 H43 [5, 2, 6, 3] [] (LJ := [.blk k13 (.cells #[.int .i64 ((kd : Nat) : Int), .int .i64 ((u : Nat) : Int), .int .i64 ((row : Nat) : Int), .slice p.A p.na p.ca, .slice p.B p.nb p.cb] 32), tyI Sa p (Ty.mk kd u row ops args), .blk k14 (.cells #[.int .i64 ((ke : Nat) : Int), .int .i64 ((v : Nat) : Int), .int .i64 ((rov : Nat) : Int), .slice q.A q.na q.ca, .slice q.B q.nb q.cb] 32), tyI Sb q (Ty.mk ke v rov opt art)]) (by kernel_rfl) fun w31 H46 => ?_
    refine Sx.tk [(0, none), (1, none), (2, some (0, [])), (3, none)] (fun _ => (H46.sub [5, 2, 4, 2] (by kernel_rfl))) ?_
    refine Sx.tva 4 [] (.bool (decide (((i : Nat) : Int) < ((p.na : Nat) : Int)))) (.bool true) (dT (by omega)) (fun _ => (H46.sub [5, 2, 4, 2] (by kernel_rfl))) ?_
    refine Sx.tk [(5, none), (6, none), (7, some (0, [])), (8, none)] (fun _ => (H46.sub [5, 2, 4, 2] (by kernel_rfl))) ?_
    refine Sx.tvi 9 [] ya i 1 p.na p.ca hya (by omega) (fun _ => (H46.sub [5, 2, 4, 2] (by kernel_rfl))) ?_
    refine Sx.tvo (c := 1) (t := 9) 10 [] [.string r] (.string r) (fun w' hs => ty_str (S := Sa) (p := p) (kd := kd) (n := u) (row := row) (ops := ops) (args := args) hs 1 (by kernel_rfl) hya hs1) (fun _ => (H46.sub [5, 2, 4, 2] (by kernel_rfl))) ?_
    refine Sx.tk [(11, none), (12, some (2, [])), (13, none)] (fun _ => (H46.sub [5, 2, 4, 2] (by kernel_rfl))) ?_
    refine Sx.tvi 14 [] yb j 1 q.na q.ca hyb (by omega) (fun _ => (H46.sub [5, 2, 4, 2] (by kernel_rfl))) ?_
    refine Sx.tvo (c := 1) (t := 9) 15 [] [.string s] (.string s) (fun w' hs => ty_str (S := Sb) (p := q) (kd := ke) (n := v) (row := rov) (ops := opt) (args := art) hs 3 (by kernel_rfl) hyb hs2) (fun _ => (H46.sub [5, 2, 4, 2] (by kernel_rfl))) ?_
    refine Sx.tva 16 [] (.bool (r.toList == s.toList)) (.bool false) (sn_f hrs) (fun _ => (H46.sub [5, 2, 4, 2] (by kernel_rfl))) ?_
    refine Sx.tk [(17, none)] (fun _ => (H46.sub [5, 2, 4, 2] (by kernel_rfl))) ?_
    refine Sx.dn ?_
    refine Sx.l 7 6 H46 ?_
    refine Sx.ia 1 yb j 1 q.na q.ca hyb (by omega) ?_
    refine Sx.lo (c := 1) (t := 9) 0 [.string s] (.string s) (ty_str (S := Sb) (p := q) (kd := ke) (n := v) (row := rov) (ops := opt) (args := art) H46.sp 3 (by kernel_rfl) hyb hs2) ?_
    refine Sx.nw 0 H46 fun k15 w32 H47 => ?_
    refine Sx.ap 0 7 8 16 1 0 9 1 30 1 k15 A5 c5 n5 (strs mr) [.string s] H47 (by omega) (by omega) (strs_app _ _) fun A5 cap5 w33 H48 => ?_
    refine Sx.v 6 (.int .i64 (IntKind.i64.wrap (((j : Nat) : Int) + (1 : Int)))) (.int .i64 ((j + 1 : Nat) : Int)) (congrArg (Value.int .i64) (Gx.i64n (by omega) (by omega))) ?_
    have H49 := H48.pick (a := [mapI (.int .i64) encN bR MR, rnI SR KR, tyI Sa p (Ty.mk kd u row ops args), tyI Sb q (Ty.mk ke v rov opt art), .blk k12 (.cells #[.map (some bT), .map (some bR)] 42), .blk k13 (.cells #[.int .i64 ((kd : Nat) : Int), .int .i64 ((u : Nat) : Int), .int .i64 ((row : Nat) : Int), .slice p.A p.na p.ca, .slice p.B p.nb p.cb] 32), .blk k14 (.cells #[.int .i64 ((ke : Nat) : Int), .int .i64 ((v : Nat) : Int), .int .i64 ((rov : Nat) : Int), .slice q.A q.na q.ca, .slice q.B q.nb q.cb] 32), .own 9 1 A5 cap5 (n5 + 1) (strs (mr ++ [s]))]) [0, 0, 0, 0, 0, 0, 0, 0] (by kernel_rfl)
    exact Sx.to 2 [(3, .pointer (some ⟨k12, 0, none⟩)), (4, .pointer (some ⟨k13, 0, none⟩)), (5, .pointer (some ⟨k14, 0, none⟩)), (7, .slice A5 (n5 + 1) cap5), (8, .int .i64 ((i : Nat) : Int)), (9, .int .i64 (((j + 1) : Nat) : Int))] (hK3 _ _ _ _ (by omega) ⟨i, (j + 1), A5, cap5, n5 + 1, (mr ++ [s]), rfl, rfl, H49, (hmt.more (.inr ⟨_, hs1, hrs⟩) hs2), (by rw [List.length_append, hn5]; rfl), (by omega), ⟨by rw [List.length_append, List.length_singleton]; omega, by omega⟩⟩)
  · skip
    have hob_ := (ty_at (S := Sb) (p := q) (t := Ty.mk ke v rov opt art) H43 3 (by kernel_rfl)).open.1 j s hs2
    obtain ⟨yb, hyb, _, _⟩ := hob_
    refine Sx.l 5 6 H43 ?_
    refine Sx.v 1 (.bool (decide (((j : Nat) : Int) < ((q.na : Nat) : Int)))) (.bool true) (dT (by omega)) ?_
    refine Sx.dr 9 H43 [5] [] (LJ := [.blk k13 (.cells #[.int .i64 ((kd : Nat) : Int), .int .i64 ((u : Nat) : Int), .int .i64 ((row : Nat) : Int), .slice p.A p.na p.ca, .slice p.B p.nb p.cb] 32)]) (by kernel_rfl) fun w34 H50 => ?_
    refine Sx.tk [(0, none), (1, none), (2, some (0, [])), (3, none)] (fun _ => (H50.sub [5] (by kernel_rfl))) ?_
    refine Sx.tva 4 [] (.bool (decide (((i : Nat) : Int) < ((p.na : Nat) : Int)))) (.bool false) (dF (by omega)) (fun _ => (H50.sub [5] (by kernel_rfl))) ?_
    refine Sx.tk [(5, none), (6, none), (7, none), (8, none), (9, none), (10, none), (11, none), (12, none), (13, none), (14, none), (15, none), (16, none), (17, none)] (fun _ => (H50.sub [5] (by kernel_rfl))) ?_
    refine Sx.dn ?_
    refine Sx.l 7 6 H50 ?_
    refine Sx.ia 1 yb j 1 q.na q.ca hyb (by omega) ?_
    refine Sx.lo (c := 1) (t := 9) 0 [.string s] (.string s) (ty_str (S := Sb) (p := q) (kd := ke) (n := v) (row := rov) (ops := opt) (args := art) H50.sp 3 (by kernel_rfl) hyb hs2) ?_
    refine Sx.nw 0 H50 fun k16 w35 H51 => ?_
    refine Sx.ap 0 7 8 16 1 0 9 1 30 1 k16 A5 c5 n5 (strs mr) [.string s] H51 (by omega) (by omega) (strs_app _ _) fun A6 cap6 w36 H52 => ?_
    refine Sx.v 6 (.int .i64 (IntKind.i64.wrap (((j : Nat) : Int) + (1 : Int)))) (.int .i64 ((j + 1 : Nat) : Int)) (congrArg (Value.int .i64) (Gx.i64n (by omega) (by omega))) ?_
    have H53 := H52.pick (a := [mapI (.int .i64) encN bR MR, rnI SR KR, tyI Sa p (Ty.mk kd u row ops args), tyI Sb q (Ty.mk ke v rov opt art), .blk k12 (.cells #[.map (some bT), .map (some bR)] 42), .blk k13 (.cells #[.int .i64 ((kd : Nat) : Int), .int .i64 ((u : Nat) : Int), .int .i64 ((row : Nat) : Int), .slice p.A p.na p.ca, .slice p.B p.nb p.cb] 32), .blk k14 (.cells #[.int .i64 ((ke : Nat) : Int), .int .i64 ((v : Nat) : Int), .int .i64 ((rov : Nat) : Int), .slice q.A q.na q.ca, .slice q.B q.nb q.cb] 32), .own 9 1 A6 cap6 (n5 + 1) (strs (mr ++ [s]))]) [0, 0, 0, 0, 0, 0, 0, 0] (by kernel_rfl)
    exact Sx.to 2 [(3, .pointer (some ⟨k12, 0, none⟩)), (4, .pointer (some ⟨k13, 0, none⟩)), (5, .pointer (some ⟨k14, 0, none⟩)), (7, .slice A6 (n5 + 1) cap6), (8, .int .i64 ((i : Nat) : Int)), (9, .int .i64 (((j + 1) : Nat) : Int))] (hK3 _ _ _ _ (by omega) ⟨i, (j + 1), A6, cap6, n5 + 1, (mr ++ [s]), rfl, rfl, H53, (hmt.more (.inl hii) hs2), (by rw [List.length_append, hn5]; rfl), (by omega), ⟨by rw [List.length_append, List.length_singleton]; omega, by omega⟩⟩)
  have hmd := hmt.done hjj
  rw [hmd] at hmg hlk
  simp only at hmg hlk
  have hdi : ops.drop i = [] := hmg
  have hil : ops.length ≤ i := by have := congrArg List.length hdi; simp at this; omega
  refine Sx.l 5 6 H43 ?_
  refine Sx.v 1 (.bool (decide (((j : Nat) : Int) < ((q.na : Nat) : Int)))) (.bool false) (dF (by omega)) ?_
  refine Sx.l 13 5 H43 ?_
  refine Sx.v 1 (.bool (decide (((i : Nat) : Int) < ((p.na : Nat) : Int)))) (.bool false) (dF (by omega)) ?_
  refine Sx.l 9 5 H43 ?_
  refine Sx.v 0 (.bool (((row : Nat) : Int) == (0 : Int))) (.bool false) (eF (by omega)) ?_
  have hob_ := hR.hit hlk
  obtain ⟨Ax, cx, hlx, hmx⟩ := hob_
  have H54 := Hs.rn1 (S := SR) (l := KR) (B := Ax) (m := mr) H43 1 (by kernel_rfl) hmx
  have H55 := Hs.toStr H54 7 (e := 9) (n := n5) (cap := c5) (A := A5) (l := mr) (by kernel_rfl)
  refine Sx.l 8 4 H55 ?_
  refine Sx.l 1 5 H55 ?_
  refine Sx.lkS (bt := bR) (mp := MR) (t := 40) (kt := 3) (et := 72) 0 0 H55 ((row : Nat) : Int) (.agg #[.int .i64 0, .int .i64 0, .int .i64 0, .int .i64 0, .slice none 0 0, .slice none 0 0, .int .i64 0, .slice Ax mr.length cx, .int .i64 ((rov : Nat) : Int)]) (.agg #[.int .i64 0, .int .i64 0, .int .i64 0, .int .i64 0, .slice none 0 0, .slice none 0 0, .int .i64 0, .slice none 0 0, .int .i64 0]) hlx (by kernel_rfl) ?_
  refine Sx.nw 3 H55 fun k17 w37 H56 => ?_
  refine Sx.s 0 9 H56 fun w38 H57 => ?_
  refine Sx.l 17 9 H57 ?_
  refine Sx.l 1 6 H57 ?_
  refine Sx.v 0 (.bool (((rov : Nat) : Int) != ((rov : Nat) : Int))) (.bool false) (nF (by omega)) ?_
  refine Sx.l 2 9 H57 ?_
  refine Sx.v 3 (.bool (((mr.length : Nat) : Int) != ((n5 : Nat) : Int))) (.bool false) (nF (by omega)) ?_
  have H58 := H57.pick (a := [mapI (.int .i64) encN bR MR, rnI SR KR, tyI Sa p (Ty.mk kd u row ops args), tyI Sb q (Ty.mk ke v rov opt art), roS SR Ax mr, strI (fun c => (Value.slice A5 n5 c5).ownBlock = some c) A5 mr, .blk k17 (.cells #[.int .i64 0, .int .i64 0, .int .i64 0, .int .i64 0, .slice none 0 0, .slice none 0 0, .int .i64 0, .slice Ax mr.length cx, .int .i64 ((rov : Nat) : Int)] 72)]) [0, 0, 0, 0, 4, 3, 3] (by kernel_rfl)
  refine Sx.lp 13 (fun z l' w' => ∃ (y : Nat), l' = [(7, .slice A5 n5 c5), (10, .pointer (some ⟨k17, 0, none⟩)), (12, .int .i64 ((y : Nat) : Int))] ∧ z = mr.length - y ∧ Hs w L0 w' [mapI (.int .i64) encN bR MR, rnI SR KR, tyI Sa p (Ty.mk kd u row ops args), tyI Sb q (Ty.mk ke v rov opt art), roS SR Ax mr, strI (fun c => (Value.slice A5 n5 c5).ownBlock = some c) A5 mr, .blk k17 (.cells #[.int .i64 0, .int .i64 0, .int .i64 0, .int .i64 0, .slice none 0 0, .slice none 0 0, .int .i64 0, .slice Ax mr.length cx, .int .i64 ((rov : Nat) : Int)] 72)] ∧ (y ≤ mr.length)) _ [(7, .slice A5 n5 c5), (10, .pointer (some ⟨k17, 0, none⟩)), (12, .int .i64 ((0 : Nat) : Int))] ⟨0, rfl, rfl, H58, (Nat.zero_le _)⟩ (fun b4 z4 l4 w39 hI4 K4 hK4 => ?_)
  obtain ⟨y, rfl, rfl, H59, hyl⟩ := hI4
  have hob_ := Nat.lt_or_ge y mr.length
  rcases hob_ with hyy | hyy
  · skip
    have hob_ : ∃ s, mr[y]? = some s := ⟨_, List.getElem?_eq_getElem hyy⟩
    obtain ⟨s, hs3⟩ := hob_
    have hob_ := (sro_at (S := SR) (A := Ax) (l := mr) H59 4 (by kernel_rfl)) y s hs3
    obtain ⟨yc, hyc, _, hcx⟩ := hob_
    have hob_ := (sri_at (S := (fun c => (Value.slice A5 n5 c5).ownBlock = some c)) (A := A5) (l := mr) H59 5 (by kernel_rfl)) y s hs3
    obtain ⟨yd, hyd, _, hcx2⟩ := hob_
    refine Sx.v 6 (.bool (decide (((y : Nat) : Int) < ((n5 : Nat) : Int)))) (.bool true) (dT (by omega)) ?_
    refine Sx.dr 8 H59 [6, 4, 5] [] (LJ := [.blk k17 (.cells #[.int .i64 0, .int .i64 0, .int .i64 0, .int .i64 0, .slice none 0 0, .slice none 0 0, .int .i64 0, .slice Ax mr.length cx, .int .i64 ((rov : Nat) : Int)] 72), roS SR Ax mr, strI (fun c => (Value.slice A5 n5 c5).ownBlock = some c) A5 mr]) (by kernel_rfl) fun w40 H60 => ?_
    refine Sx.tk [(0, none), (1, some (0, [])), (2, none)] (fun _ => (H60.sub [6, 4, 4] (by kernel_rfl))) ?_
    refine Sx.tvi 3 [] yc y 1 mr.length cx hyc (by omega) (fun _ => (H60.sub [6, 4, 4] (by kernel_rfl))) ?_
    refine Sx.tvo (c := 1) (t := 9) 4 [] [.string s] (.string s) (fun w' hs => sro_one (S := SR) (A := Ax) (l := mr) hs 1 (by kernel_rfl) hyc hs3) (fun _ => (H60.sub [6, 4, 4] (by kernel_rfl))) ?_
    refine Sx.tk [(5, none), (6, none)] (fun _ => (H60.sub [6, 4, 4] (by kernel_rfl))) ?_
    refine Sx.tvi 7 [] yd y 1 n5 c5 hyd (by omega) (fun _ => (H60.sub [6, 4, 4] (by kernel_rfl))) ?_
    refine Sx.tvo (c := 1) (t := 9) 8 [] [.string s] (.string s) (fun w' hs => sri_one (S := (fun c => (Value.slice A5 n5 c5).ownBlock = some c)) (A := A5) (l := mr) hs 2 (by kernel_rfl) hyd hs3) (fun _ => (H60.sub [6, 4, 4] (by kernel_rfl))) ?_
    refine Sx.tva 9 [] (.bool (!(s.toList == s.toList))) (.bool false) (ns_f s) (fun _ => (H60.sub [6, 4, 4] (by kernel_rfl))) ?_
    refine Sx.dn ?_
    refine Sx.v 7 (.int .i64 (IntKind.i64.wrap (((y : Nat) : Int) + (1 : Int)))) (.int .i64 ((y + 1 : Nat) : Int)) (congrArg (Value.int .i64) (Gx.i64n (by omega) (by omega))) ?_
    have H61 := H60.pick (a := [mapI (.int .i64) encN bR MR, rnI SR KR, tyI Sa p (Ty.mk kd u row ops args), tyI Sb q (Ty.mk ke v rov opt art), roS SR Ax mr, strI (fun c => (Value.slice A5 n5 c5).ownBlock = some c) A5 mr, .blk k17 (.cells #[.int .i64 0, .int .i64 0, .int .i64 0, .int .i64 0, .slice none 0 0, .slice none 0 0, .int .i64 0, .slice Ax mr.length cx, .int .i64 ((rov : Nat) : Int)] 72)]) [0, 0, 0, 0, 0, 0, 0] (by kernel_rfl)
    exact Sx.to 2 [(7, .slice A5 n5 c5), (10, .pointer (some ⟨k17, 0, none⟩)), (12, .int .i64 (((y + 1) : Nat) : Int))] (hK4 _ _ _ _ (by omega) ⟨(y + 1), rfl, rfl, H61, (by omega)⟩)
  refine Sx.v 6 (.bool (decide (((y : Nat) : Int) < ((n5 : Nat) : Int)))) (.bool false) (dF (by omega)) ?_
  refine Sx.rt 14 [] H59 (.bool true) ?_
  subst hL0
  exact hK MR KR SR _ (H59.pick [0, 0, 0, 0] (by kernel_rfl)) hR
set_option maxHeartbeats 16000000 in
theorem fits_c_s (k : Nat) (ih : ∀ (bT bR : Nat) (MT MR : List (Int × Value)) (ST SR : Nat → Prop) (KT : List Kd) (KR : List (Option Addr × List Nm)) (m m' : Fm) (Sa : Nat → Prop) (kd u row : Nat) (ops : List Nm) (args : List Ty) (p : Tv) (Sb : Nat → Prop) (ke v rov : Nat) (opt : List Nm) (art : List Ty) (q : Tv) (w : World) (K : Ending → World → Prop) (H0 : Sp w [mapI (.int .i64) encN bT MT, mapI (.int .i64) encN bR MR, Slv.tysI ST KT, rnI SR KR, tyI Sa p (Ty.mk kd u row ops args), tyI Sb q (Ty.mk ke v rov opt art)]) (hd : Dep k (Ty.mk kd u row ops args)) (hT : MapT MT m.T KT) (hR : MapR MR m.R KR) (hf : Fits m (Ty.mk kd u row ops args) (Ty.mk ke v rov opt art) m') (hK : ∀ (MT' : List (Int × Value)) (MR' : List (Int × Value)) (KT' : List Kd) (KR' : List (Option Addr × List Nm)) (ST' : Nat → Prop) (SR' : Nat → Prop) w', Hs w [mapI (.int .i64) encN bT MT, mapI (.int .i64) encN bR MR, Slv.tysI ST KT, rnI SR KR, tyI Sa p (Ty.mk kd u row ops args), tyI Sb q (Ty.mk ke v rov opt art)] w' [mapI (.int .i64) encN bT MT', mapI (.int .i64) encN bR MR', Slv.tysI ST' KT', rnI SR' KR', tyI Sa p (Ty.mk kd u row ops args), tyI Sb q (Ty.mk ke v rov opt art)] → (MapT MT' m'.T KT') → (MapR MR' m'.R KR') → K (.returned (.bool true)) w'),
    Calls Try.prog 10 #[.agg #[.map (some bT), .map (some bR)], .agg #[.int .i64 ((kd : Nat) : Int), .int .i64 ((u : Nat) : Int), .int .i64 ((row : Nat) : Int), .slice p.A p.na p.ca, .slice p.B p.nb p.cb], .agg #[.int .i64 ((ke : Nat) : Int), .int .i64 ((v : Nat) : Int), .int .i64 ((rov : Nat) : Int), .slice q.A q.na q.ca, .slice q.B q.nb q.cb]] w K) (bT bR : Nat) (MT MR : List (Int × Value)) (ST SR : Nat → Prop) (KT : List Kd) (KR : List (Option Addr × List Nm)) (m m' : Fm) (Sa : Nat → Prop) (kd u row : Nat) (ops : List Nm) (args : List Ty) (p : Tv) (Sb : Nat → Prop) (ke v rov : Nat) (opt : List Nm) (art : List Ty) (q : Tv) (w : World) (K : Ending → World → Prop) (H0 : Sp w [mapI (.int .i64) encN bT MT, mapI (.int .i64) encN bR MR, Slv.tysI ST KT, rnI SR KR, tyI Sa p (Ty.mk kd u row ops args), tyI Sb q (Ty.mk ke v rov opt art)]) (hd : Dep (k + 1) (Ty.mk kd u row ops args)) (hT : MapT MT m.T KT) (hR : MapR MR m.R KR) (hf : Fits m (Ty.mk kd u row ops args) (Ty.mk ke v rov opt art) m') (hK : ∀ (MT' : List (Int × Value)) (MR' : List (Int × Value)) (KT' : List Kd) (KR' : List (Option Addr × List Nm)) (ST' : Nat → Prop) (SR' : Nat → Prop) w', Hs w [mapI (.int .i64) encN bT MT, mapI (.int .i64) encN bR MR, Slv.tysI ST KT, rnI SR KR, tyI Sa p (Ty.mk kd u row ops args), tyI Sb q (Ty.mk ke v rov opt art)] w' [mapI (.int .i64) encN bT MT', mapI (.int .i64) encN bR MR', Slv.tysI ST' KT', rnI SR' KR', tyI Sa p (Ty.mk kd u row ops args), tyI Sb q (Ty.mk ke v rov opt art)] → (MapT MT' m'.T KT') → (MapR MR' m'.R KR') → K (.returned (.bool true)) w') :
    Calls Try.prog 10 #[.agg #[.map (some bT), .map (some bR)], .agg #[.int .i64 ((kd : Nat) : Int), .int .i64 ((u : Nat) : Int), .int .i64 ((row : Nat) : Int), .slice p.A p.na p.ca, .slice p.B p.nb p.cb], .agg #[.int .i64 ((ke : Nat) : Int), .int .i64 ((v : Nat) : Int), .int .i64 ((rov : Nat) : Int), .slice q.A q.na q.ca, .slice q.B q.nb q.cb]] w K := by
  obtain ⟨L0, hL0, H⟩ : ∃ L0, L0 = [mapI (.int .i64) encN bT MT, mapI (.int .i64) encN bR MR, Slv.tysI ST KT, rnI SR KR, tyI Sa p (Ty.mk kd u row ops args), tyI Sb q (Ty.mk ke v rov opt art)] ∧ Hs w L0 w [mapI (.int .i64) encN bT MT, mapI (.int .i64) encN bR MR, Slv.tysI ST KT, rnI SR KR, tyI Sa p (Ty.mk kd u row ops args), tyI Sb q (Ty.mk ke v rov opt art)] := ⟨_, rfl, Hs.refl H0⟩
  refine Sx.en (vs := [.agg #[.map (some bT), .map (some bR)], .agg #[.int .i64 ((kd : Nat) : Int), .int .i64 ((u : Nat) : Int), .int .i64 ((row : Nat) : Int), .slice p.A p.na p.ca, .slice p.B p.nb p.cb], .agg #[.int .i64 ((ke : Nat) : Int), .int .i64 ((v : Nat) : Int), .int .i64 ((rov : Nat) : Int), .slice q.A q.na q.ca, .slice q.B q.nb q.cb]]) 75 Try.func10 ?_
  have hob_ := (ty_at (S := Sa) (p := p) (t := Ty.mk kd u row ops args) H 4 (by kernel_rfl)).open
  obtain ⟨_, hna, hca, hnb, _⟩ := hob_
  have hob_ := (ty_at (S := Sb) (p := q) (t := Ty.mk ke v rov opt art) H 5 (by kernel_rfl)).open
  obtain ⟨_, hnc, hcc, hnd, _⟩ := hob_
  have hdd : ∀ (i : Nat) (t : Ty), args[i]? = some t → Dep k t := by cases hd with | mk h => exact h
  have hob_ := fits_cs hf
  rcases hob_ with ⟨h0, hlk, hm'⟩ | ⟨h0, hlk, hm'⟩ | ⟨h0, hke, hll, m2, hfk, hfin⟩
  · skip
    refine Sx.nw 2 H fun k1 w1 H1 => ?_
    refine Sx.nw 0 H1 fun k2 w2 H2 => ?_
    refine Sx.nw 0 H2 fun k3 w3 H3 => ?_
    refine Sx.l 7 7 H3 ?_
    refine Sx.v 0 (.bool (((kd : Nat) : Int) == (0 : Int))) (.bool true) (eT (by omega)) ?_
    have hob_ := hT.hit hlk
    obtain ⟨px, hlx, hmx⟩ := hob_
    have H4 := Hs.ts1 (S := ST) (l := KT) (p := px) (u := Ty.mk ke v rov opt art) H3 2 (by kernel_rfl) hmx
    have hob_ := TyIn.dep (ty_at (S := ST) (p := px) (t := Ty.mk ke v rov opt art) H4 9 (by kernel_rfl))
    obtain ⟨kd_, hdp⟩ := hob_
    refine Sx.l 6 6 H4 ?_
    refine Sx.l 1 7 H4 ?_
    refine Sx.lkS (bt := bT) (mp := MT) (t := 39) (kt := 3) (et := 32) 0 0 H4 ((u : Nat) : Int) (.agg #[.int .i64 ((ke : Nat) : Int), .int .i64 ((v : Nat) : Int), .int .i64 ((rov : Nat) : Int), .slice px.A px.na px.ca, .slice px.B px.nb px.cb]) (.agg #[.int .i64 0, .int .i64 0, .int .i64 0, .slice none 0 0, .slice none 0 0]) hlx (by kernel_rfl) ?_
    refine Sx.nw 3 H4 fun k4 w4 H5 => ?_
    refine Sx.s 0 10 H5 fun w5 H6 => ?_
    refine Sx.l 12 10 H6 ?_
    refine Sx.l 0 8 H6 ?_
    refine Sx.c 0 [9, 5] H6 (fun Hp1 R1 hR1 => (SameL_c _) ST Sb ke v rov opt art px q w5 R1 Hp1 hdp (fun w6 G1 => hR1 _ _ _ G1 fun H7 => ?_))
    refine Sx.rt 6 [] H7 (.bool true) ?_
    subst hL0
    exact hK MT MR KT KR ST SR _ (H7.pick [2, 2, 2, 2, 2, 1] (by kernel_rfl)) (by rw [hm']; exact hT) (by rw [hm']; exact hR)
  · skip
    refine Sx.nw 2 H fun k5 w7 H8 => ?_
    refine Sx.nw 0 H8 fun k6 w8 H9 => ?_
    refine Sx.nw 0 H9 fun k7 w9 H10 => ?_
    refine Sx.l 7 7 H10 ?_
    refine Sx.v 0 (.bool (((kd : Nat) : Int) == (0 : Int))) (.bool true) (eT (by omega)) ?_
    refine Sx.l 6 6 H10 ?_
    refine Sx.l 1 7 H10 ?_
    refine Sx.lkN (bt := bT) (mp := MT) (t := 39) (kt := 3) (et := 32) 0 0 H10 ((u : Nat) : Int) (.agg #[.int .i64 0, .int .i64 0, .int .i64 0, .slice none 0 0, .slice none 0 0]) (hT.no hlk) (by kernel_rfl) ?_
    refine Sx.nw 3 H10 fun k8 w10 H11 => ?_
    refine Sx.s 0 9 H11 fun w11 H12 => ?_
    refine Sx.l 15 6 H12 ?_
    refine Sx.l 1 7 H12 ?_
    refine Sx.l 0 8 H12 ?_
    refine Sx.muV (bt := bT) (mp := MT) (t := 39) (kt := 3) (et := 32) 0 0 H12 ((u : Nat) : Int) (.agg #[.int .i64 ((ke : Nat) : Int), .int .i64 ((v : Nat) : Int), .int .i64 ((rov : Nat) : Int), .slice q.A q.na q.ca, .slice q.B q.nb q.cb]) (by kernel_rfl) fun w12 H13 => ?_
    refine Sx.rt 9 [] H13 (.bool true) ?_
    have H14 := H13.ro 5 (S := Sb) (A := fun w => TyIn w Sb q (Ty.mk ke v rov opt art)) (B := fun w => TyIn w Sb q (Ty.mk ke v rov opt art)) (by kernel_rfl) (ty_at (S := Sb) (p := q) (t := Ty.mk ke v rov opt art) H13 5 (by kernel_rfl)) (tyI_loc _ _ _)
    have hob_ := Slv.tys_add H14 [2, 9] (S := ST) (S2 := Sb) (l := KT) (p := q) (t := Ty.mk ke v rov opt art) (by kernel_rfl)
    obtain ⟨S1, H15⟩ := hob_
    subst hL0
    exact hK (Sx.upd ((u : Nat) : Int) (.agg #[.int .i64 ((ke : Nat) : Int), .int .i64 ((v : Nat) : Int), .int .i64 ((rov : Nat) : Int), .slice q.A q.na q.ca, .slice q.B q.nb q.cb]) MT) MR (KT ++ [(q, Ty.mk ke v rov opt art)]) KR S1 SR _ (H15.pick [1, 1, 0, 0, 0, 0] (by kernel_rfl)) (by rw [hm']; exact hT.add u q (Ty.mk ke v rov opt art)) (by rw [hm']; exact hR)
  refine Sx.nw 2 H fun k9 w13 H16 => ?_
  refine Sx.nw 0 H16 fun k10 w14 H17 => ?_
  refine Sx.nw 0 H17 fun k11 w15 H18 => ?_
  refine Sx.l 7 7 H18 ?_
  refine Sx.v 0 (.bool (((kd : Nat) : Int) == (0 : Int))) (.bool false) (eF (by omega)) ?_
  refine Sx.l 9 7 H18 ?_
  refine Sx.l 1 8 H18 ?_
  refine Sx.v 0 (.bool (((kd : Nat) : Int) != ((ke : Nat) : Int))) (.bool false) (nF (by omega)) ?_
  refine Sx.l 2 7 H18 ?_
  refine Sx.l 2 8 H18 ?_
  refine Sx.v 1 (.bool (((p.nb : Nat) : Int) != ((q.nb : Nat) : Int))) (.bool false) (nF (by omega)) ?_
  have H19 := H18.pick (a := [mapI (.int .i64) encN bT MT, mapI (.int .i64) encN bR MR, Slv.tysI ST KT, rnI SR KR, tyI Sa p (Ty.mk kd u row ops args), tyI Sb q (Ty.mk ke v rov opt art), .blk k9 (.cells #[.map (some bT), .map (some bR)] 42), .blk k10 (.cells #[.int .i64 ((kd : Nat) : Int), .int .i64 ((u : Nat) : Int), .int .i64 ((row : Nat) : Int), .slice p.A p.na p.ca, .slice p.B p.nb p.cb] 32), .blk k11 (.cells #[.int .i64 ((ke : Nat) : Int), .int .i64 ((v : Nat) : Int), .int .i64 ((rov : Nat) : Int), .slice q.A q.na q.ca, .slice q.B q.nb q.cb] 32)]) [0, 0, 0, 0, 0, 0, 0, 0, 0] (by kernel_rfl)
  refine Sx.lp 13 (fun z l' w' => ∃ (i : Nat) (mi : Fm) (MTi : List (Int × Value)) (MRi : List (Int × Value)) (STi : Nat → Prop) (SRi : Nat → Prop) (KTi : List Kd) (KRi : List (Option Addr × List Nm)), l' = [(3, .pointer (some ⟨k9, 0, none⟩)), (4, .pointer (some ⟨k10, 0, none⟩)), (5, .pointer (some ⟨k11, 0, none⟩)), (9, .int .i64 ((i : Nat) : Int))] ∧ z = args.length - i ∧ Hs w L0 w' [mapI (.int .i64) encN bT MTi, mapI (.int .i64) encN bR MRi, Slv.tysI STi KTi, rnI SRi KRi, tyI Sa p (Ty.mk kd u row ops args), tyI Sb q (Ty.mk ke v rov opt art), .blk k9 (.cells #[.map (some bT), .map (some bR)] 42), .blk k10 (.cells #[.int .i64 ((kd : Nat) : Int), .int .i64 ((u : Nat) : Int), .int .i64 ((row : Nat) : Int), .slice p.A p.na p.ca, .slice p.B p.nb p.cb] 32), .blk k11 (.cells #[.int .i64 ((ke : Nat) : Int), .int .i64 ((v : Nat) : Int), .int .i64 ((rov : Nat) : Int), .slice q.A q.na q.ca, .slice q.B q.nb q.cb] 32)] ∧ (FitsK mi (args.drop i) (art.drop i) m2) ∧ (MapT MTi mi.T KTi) ∧ (MapR MRi mi.R KRi) ∧ (i ≤ args.length)) _ [(3, .pointer (some ⟨k9, 0, none⟩)), (4, .pointer (some ⟨k10, 0, none⟩)), (5, .pointer (some ⟨k11, 0, none⟩)), (9, .int .i64 ((0 : Nat) : Int))] ⟨0, m, MT, MR, ST, SR, KT, KR, rfl, rfl, H19, hfk, hT, hR, (Nat.zero_le _)⟩ (fun b1 z1 l1 w16 hI1 K1 hK1 => ?_)
  obtain ⟨i, mi, MTi, MRi, STi, SRi, KTi, KRi, rfl, rfl, H20, hfi, hTi, hRi, hil⟩ := hI1
  have hob_ := fits_lp hfi hfin
  rcases hob_ with hx | ⟨hx, h6, hme⟩ | ⟨hx, h6, R, hfr, hme⟩
  · skip
    have hob_ := hfi.step hx
    obtain ⟨⟨k0, u0, r0, o0, a0⟩, ⟨ek1, eu1, er1, eo1, ea1⟩, m1, hti, htj, hft, hfk2⟩ := hob_
    have hob_ := TyIn.kid (ty_at (S := Sa) (p := p) (t := Ty.mk kd u row ops args) H20 4 (by kernel_rfl)) hti
    obtain ⟨p0, za, hxa, hza, hka⟩ := hob_
    have H21 := H20.ro 4 (S := Sa) (A := fun w => TyIn w Sa p (Ty.mk kd u row ops args)) (B := fun w => TyIn w Sa p0 (Ty.mk k0 u0 r0 o0 a0)) (by kernel_rfl) hka (tyI_loc _ _ _)
    have H22 := H21.ro 4 (S := Sa) (A := fun w => TyIn w Sa p (Ty.mk kd u row ops args)) (B := fun w => Sa (Addr.add za (i * 5)).block ∧ w.cells? 0 (Addr.add za (i * 5)) 5 = some (tvC (Ty.mk k0 u0 r0 o0 a0) p0)) (by kernel_rfl) hza (ceI_loc _ _ _ _)
    have hob_ := TyIn.kid (ty_at (S := Sb) (p := q) (t := Ty.mk ke v rov opt art) H22 5 (by kernel_rfl)) htj
    obtain ⟨q0, zb, hxb, hzb, hkb⟩ := hob_
    have H23 := H22.ro 5 (S := Sb) (A := fun w => TyIn w Sb q (Ty.mk ke v rov opt art)) (B := fun w => TyIn w Sb q0 (Ty.mk ek1 eu1 er1 eo1 ea1)) (by kernel_rfl) hkb (tyI_loc _ _ _)
    have H24 := H23.ro 5 (S := Sb) (A := fun w => TyIn w Sb q (Ty.mk ke v rov opt art)) (B := fun w => Sb (Addr.add zb (i * 5)).block ∧ w.cells? 0 (Addr.add zb (i * 5)) 5 = some (tvC (Ty.mk ek1 eu1 er1 eo1 ea1) q0)) (by kernel_rfl) hzb (ceI_loc _ _ _ _)
    refine Sx.l 5 7 H24 ?_
    refine Sx.v 1 (.bool (decide (((i : Nat) : Int) < ((p.nb : Nat) : Int)))) (.bool true) (dT (by omega)) ?_
    refine Sx.dr 8 H24 [6, 7, 10, 8, 12] [] (LJ := [.blk k9 (.cells #[.map (some bT), .map (some bR)] 42), .blk k10 (.cells #[.int .i64 ((kd : Nat) : Int), .int .i64 ((u : Nat) : Int), .int .i64 ((row : Nat) : Int), .slice p.A p.na p.ca, .slice p.B p.nb p.cb] 32), ceI Sa (Addr.add za (i * 5)) 5 (tvC (Ty.mk k0 u0 r0 o0 a0) p0), .blk k11 (.cells #[.int .i64 ((ke : Nat) : Int), .int .i64 ((v : Nat) : Int), .int .i64 ((rov : Nat) : Int), .slice q.A q.na q.ca, .slice q.B q.nb q.cb] 32), ceI Sb (Addr.add zb (i * 5)) 5 (tvC (Ty.mk ek1 eu1 er1 eo1 ea1) q0)]) (by kernel_rfl) fun w17 H25 => ?_
    refine Sx.tk [(0, some (0, [])), (1, none), (2, some (1, [])), (3, none)] (fun _ => (H25.sub [6, 6, 8, 6, 8] (by kernel_rfl))) ?_
    refine Sx.tvi 4 [] za i 5 p.nb p.cb hxa (by omega) (fun _ => (H25.sub [6, 6, 8, 6, 8] (by kernel_rfl))) ?_
    refine Sx.tvo (c := 5) (t := 32) 5 [] [.int .i64 ((k0 : Nat) : Int), .int .i64 ((u0 : Nat) : Int), .int .i64 ((r0 : Nat) : Int), .slice p0.A p0.na p0.ca, .slice p0.B p0.nb p0.cb] (.agg #[.int .i64 ((k0 : Nat) : Int), .int .i64 ((u0 : Nat) : Int), .int .i64 ((r0 : Nat) : Int), .slice p0.A p0.na p0.ca, .slice p0.B p0.nb p0.cb]) (fun w' hs => ce_at (S := Sa) (a := Addr.add za (i * 5)) (n := 5) (cs := tvC (Ty.mk k0 u0 r0 o0 a0) p0) hs 2 (by kernel_rfl)) (fun _ => (H25.sub [6, 6, 8, 6, 8] (by kernel_rfl))) ?_
    refine Sx.tk [(6, none), (7, some (3, [])), (8, none)] (fun _ => (H25.sub [6, 6, 8, 6, 8] (by kernel_rfl))) ?_
    refine Sx.tvi 9 [] zb i 5 q.nb q.cb hxb (by omega) (fun _ => (H25.sub [6, 6, 8, 6, 8] (by kernel_rfl))) ?_
    refine Sx.tvo (c := 5) (t := 32) 10 [] [.int .i64 ((ek1 : Nat) : Int), .int .i64 ((eu1 : Nat) : Int), .int .i64 ((er1 : Nat) : Int), .slice q0.A q0.na q0.ca, .slice q0.B q0.nb q0.cb] (.agg #[.int .i64 ((ek1 : Nat) : Int), .int .i64 ((eu1 : Nat) : Int), .int .i64 ((er1 : Nat) : Int), .slice q0.A q0.na q0.ca, .slice q0.B q0.nb q0.cb]) (fun w' hs => ce_at (S := Sb) (a := Addr.add zb (i * 5)) (n := 5) (cs := tvC (Ty.mk ek1 eu1 er1 eo1 ea1) q0) hs 4 (by kernel_rfl)) (fun _ => (H25.sub [6, 6, 8, 6, 8] (by kernel_rfl))) ?_
    refine Sx.nmx ?_
    intro zx1
    refine Sx.on 11 ?_
    refine Sx.c 0 [0, 0, 0, 0, 5, 6] H25 (fun Hp2 R2 hR3 => ih bT bR MTi MRi STi SRi KTi KRi mi m1 Sa k0 u0 r0 o0 a0 p0 Sb ek1 eu1 er1 eo1 ea1 q0 w17 R2 Hp2 (hdd _ _ hti) hTi hRi hft (fun mt1 mr1 kt1 kr1 st1 sr1 w18 G2 hT1 hR2 => hR3 _ _ _ G2 fun H26 => ?_))
    refine Sx.bk (x := zx1) 11 (fun _ => (H26.sub [8, 8, 9, 8, 8] (by kernel_rfl))) ?_
    refine Sx.tk [(12, none)] (fun _ => (H26.sub [8, 8, 9, 8, 8] (by kernel_rfl))) ?_
    refine Sx.dn ?_
    refine Sx.v 13 (.int .i64 (IntKind.i64.wrap (((i : Nat) : Int) + (1 : Int)))) (.int .i64 ((i + 1 : Nat) : Int)) (congrArg (Value.int .i64) (Gx.i64n (by omega) (by omega))) ?_
    have H27 := H26.pick (a := [mapI (.int .i64) encN bT mt1, mapI (.int .i64) encN bR mr1, Slv.tysI st1 kt1, rnI sr1 kr1, tyI Sa p (Ty.mk kd u row ops args), tyI Sb q (Ty.mk ke v rov opt art), .blk k9 (.cells #[.map (some bT), .map (some bR)] 42), .blk k10 (.cells #[.int .i64 ((kd : Nat) : Int), .int .i64 ((u : Nat) : Int), .int .i64 ((row : Nat) : Int), .slice p.A p.na p.ca, .slice p.B p.nb p.cb] 32), .blk k11 (.cells #[.int .i64 ((ke : Nat) : Int), .int .i64 ((v : Nat) : Int), .int .i64 ((rov : Nat) : Int), .slice q.A q.na q.ca, .slice q.B q.nb q.cb] 32)]) [0, 0, 0, 0, 2, 2, 2, 2, 2] (by kernel_rfl)
    exact Sx.to 2 [(3, .pointer (some ⟨k9, 0, none⟩)), (4, .pointer (some ⟨k10, 0, none⟩)), (5, .pointer (some ⟨k11, 0, none⟩)), (9, .int .i64 (((i + 1) : Nat) : Int))] (hK1 _ _ _ _ (by omega) ⟨(i + 1), m1, mt1, mr1, st1, sr1, kt1, kr1, rfl, rfl, H27, hfk2, hT1, hR2, (by omega)⟩)
  · skip
    refine Sx.l 5 7 H20 ?_
    refine Sx.v 1 (.bool (decide (((i : Nat) : Int) < ((p.nb : Nat) : Int)))) (.bool false) (dF (by omega)) ?_
    refine Sx.l 11 7 H20 ?_
    refine Sx.v 0 (.bool (((kd : Nat) : Int) != (6 : Int))) (.bool true) (nT (by omega)) ?_
    refine Sx.rt 10 [] H20 (.bool true) ?_
    subst hL0
    exact hK MTi MRi KTi KRi STi SRi _ (H20.pick [0, 0, 0, 0, 0, 0] (by kernel_rfl)) (by rw [hme]; exact hTi) (by rw [hme]; exact hRi)
  refine Sx.l 5 7 H20 ?_
  refine Sx.v 1 (.bool (decide (((i : Nat) : Int) < ((p.nb : Nat) : Int)))) (.bool false) (dF (by omega)) ?_
  refine Sx.l 11 7 H20 ?_
  refine Sx.v 0 (.bool (((kd : Nat) : Int) != (6 : Int))) (.bool false) (nF (by omega)) ?_
  refine Sx.l 1 6 H20 ?_
  refine Sx.l 0 7 H20 ?_
  refine Sx.l 0 8 H20 ?_
  refine Sx.c 0 [1, 2, 2, 2] H20 (fun Hp3 R3 hR5 => row_c bT bR MRi SRi KRi mi.R R Sa kd u row ops args p Sb ke v rov opt art q w16 R3 Hp3 hRi hfr (fun mr2 kr2 sr2 w19 G3 hR4 => hR5 _ _ _ G3 fun H28 => ?_))
  refine Sx.rt 5 [] H28 (.bool true) ?_
  subst hL0
  exact hK MTi mr2 KTi kr2 STi sr2 _ (H28.pick [4, 0, 3, 0, 0, 0] (by kernel_rfl)) (by rw [hme]; exact hTi) (by rw [hme]; exact hR4)
theorem fits_c (k : Nat) : ∀ (bT bR : Nat) (MT MR : List (Int × Value)) (ST SR : Nat → Prop) (KT : List Kd) (KR : List (Option Addr × List Nm)) (m m' : Fm) (Sa : Nat → Prop) (kd u row : Nat) (ops : List Nm) (args : List Ty) (p : Tv) (Sb : Nat → Prop) (ke v rov : Nat) (opt : List Nm) (art : List Ty) (q : Tv) (w : World) (K : Ending → World → Prop) (H0 : Sp w [mapI (.int .i64) encN bT MT, mapI (.int .i64) encN bR MR, Slv.tysI ST KT, rnI SR KR, tyI Sa p (Ty.mk kd u row ops args), tyI Sb q (Ty.mk ke v rov opt art)]) (hd : Dep k (Ty.mk kd u row ops args)) (hT : MapT MT m.T KT) (hR : MapR MR m.R KR) (hf : Fits m (Ty.mk kd u row ops args) (Ty.mk ke v rov opt art) m') (hK : ∀ (MT' : List (Int × Value)) (MR' : List (Int × Value)) (KT' : List Kd) (KR' : List (Option Addr × List Nm)) (ST' : Nat → Prop) (SR' : Nat → Prop) w', Hs w [mapI (.int .i64) encN bT MT, mapI (.int .i64) encN bR MR, Slv.tysI ST KT, rnI SR KR, tyI Sa p (Ty.mk kd u row ops args), tyI Sb q (Ty.mk ke v rov opt art)] w' [mapI (.int .i64) encN bT MT', mapI (.int .i64) encN bR MR', Slv.tysI ST' KT', rnI SR' KR', tyI Sa p (Ty.mk kd u row ops args), tyI Sb q (Ty.mk ke v rov opt art)] → (MapT MT' m'.T KT') → (MapR MR' m'.R KR') → K (.returned (.bool true)) w'),
    Calls Try.prog 10 #[.agg #[.map (some bT), .map (some bR)], .agg #[.int .i64 ((kd : Nat) : Int), .int .i64 ((u : Nat) : Int), .int .i64 ((row : Nat) : Int), .slice p.A p.na p.ca, .slice p.B p.nb p.cb], .agg #[.int .i64 ((ke : Nat) : Int), .int .i64 ((v : Nat) : Int), .int .i64 ((rov : Nat) : Int), .slice q.A q.na q.ca, .slice q.B q.nb q.cb]] w K := by
  induction k with
  | zero => intro bT bR MT MR ST SR KT KR m m' Sa kd u row ops args p Sb ke v rov opt art q w K H0 hd; cases hd
  | succ k ih => exact fits_c_s k ih
set_option maxHeartbeats 16000000 in
theorem Solve_p (Sq : Nat → Prop) (A : Option Addr) (na0 ca0 : Nat) (rl : List (Tr × Tr)) (w : World) (K : Ending → World → Prop) (H0 : Sp w [psI Sq A rl]) (Ro : Out) (hna : na0 = rl.length ∧ na0 ≤ ca0 ∧ na0 < 9223372036854775808) (hR : SO solveP rl Ro) (hK : ∀ (A' : Option Addr) (c' : Nat) (n' : Nat) (kl : List Kd) (S' : Nat → Prop) (f1 : Int) (f2 : Int) w', Hs w [psI Sq A rl] w' [psI Sq A rl, .own 32 5 A' c' n' (kC kl), Slv.tysI S' kl] → (n' = kl.length ∧ n' ≤ 20) → (OutIs Ro kl f1 f2) → K (.returned (.tuple #[.slice A' n' c', .agg #[.int .i64 f1, .int .i64 f2]])) w') :
    Calls Try.prog 5 #[.slice A na0 ca0] w K := by
  obtain ⟨L0, hL0, H⟩ : ∃ L0, L0 = [psI Sq A rl] ∧ Hs w L0 w [psI Sq A rl] := ⟨_, rfl, Hs.refl H0⟩
  refine Sx.en (vs := [.slice A na0 ca0]) 129 Try.func5 ?_
  refine Sx.nw 3 H fun k1 w1 H1 => ?_
  refine Sx.br 10 (decide (((na0 : Nat) : Int) > (20 : Int))) (fun h_c27 => ?_) (fun h_c27 => ?_)
  · skip
    refine Sx.s 4 1 H1 fun w2 H2 => ?_
    refine Sx.rt 4 [1] H2 (.tuple #[.slice none 0 0, .agg #[.int .i64 11, .int .i64 20]]) ?_
    have p_c27 := of_decide_eq_true h_c27
    have H3 := H2.add (Gx.Ext.refl _) (it := .own 32 5 none 0 0 []) (World.ownsRow_nil _ _ _ _) (fun _ h => by cases h)
    have H4 := H3.add (Gx.Ext.refl _) (it := Slv.tysI (fun _ => False) []) Slv.tysI_nil (fun _ h => h.elim)
    subst hL0
    exact hK none 0 0 [] (fun _ => False) 11 20 _ (H4.pick (a := [psI Sq A rl, .own 32 5 none 0 0 (kC []), Slv.tysI (fun _ => False) ([])]) [0, 1, 1] (by kernel_rfl)) ⟨rfl, by decide⟩ (out_eq (a := 11) (b := 20) (hR.big (by omega)))
  have H5 := H1.pick (a := [psI Sq A rl, .blk k1 (.cells #[.int .i64 0, .int .i64 0] 26)]) [0, 0] (by kernel_rfl)
  have p_c27 := of_decide_eq_false h_c27
  refine Sx.lp 11 (fun z l' w' => ∃ (i : Nat), l' = [(0, .slice A na0 ca0), (3, .pointer (some ⟨k1, 0, none⟩)), (29, .slice A na0 ca0), (30, .int .i64 ((na0 : Nat) : Int)), (31, .int .i64 ((i : Nat) : Int))] ∧ z = rl.length - i ∧ Hs w L0 w' [psI Sq A rl, .blk k1 (.cells #[.int .i64 0, .int .i64 0] 26)] ∧ (∀ (j : Nat) (q : Tr × Tr), j < i → rl[j]? = some q → POk q) ∧ (i ≤ rl.length)) _ [(0, .slice A na0 ca0), (3, .pointer (some ⟨k1, 0, none⟩)), (29, .slice A na0 ca0), (30, .int .i64 ((na0 : Nat) : Int)), (31, .int .i64 ((0 : Nat) : Int))] ⟨0, rfl, rfl, H5, (fun j q h => by omega), (Nat.zero_le _)⟩ (fun b1 z1 l1 w3 hI1 K1 hK1 => ?_)
  obtain ⟨i, rfl, rfl, H6, hall, hil⟩ := hI1
  have hob_ := Nat.lt_or_ge i rl.length
  rcases hob_ with hx | hx
  · skip
    have hob_ : ∃ r, rl[i]? = some r := ⟨_, List.getElem?_eq_getElem hx⟩
    obtain ⟨⟨⟨kq1, u1, r1, o1, a1⟩, ⟨kq2, u2, r2, o2, a2⟩⟩, hri⟩ := hob_
    have hob_ := ps_at (S := Sq) (A := A) (rl := rl) H6 0 (by kernel_rfl) i _ hri
    obtain ⟨q1, q2, aq, haq, _, hc10, _, _, hq1, hq2⟩ := hob_
    have H7 := Hs.tr1 (S := Sq) (A := A) (rl := rl) (p := q1) (t := Tr.mk kq1 u1 r1 o1 a1) H6 0 (by kernel_rfl) hq1
    have H8 := Hs.tr1 (S := Sq) (A := A) (rl := rl) (p := q2) (t := Tr.mk kq2 u2 r2 o2 a2) H7 0 (by kernel_rfl) hq2
    refine Sx.v 2 (.bool (decide (((i : Nat) : Int) < ((na0 : Nat) : Int)))) (.bool true) (dT (by omega)) ?_
    refine Sx.ia 11 aq i 10 na0 ca0 haq (by omega) ?_
    refine Sx.lo (c := 10) (t := 36) 0 [.int .i64 kq1, .int .i64 u1, .int .i64 r1, .slice q1.A q1.na q1.ca, .slice q1.B q1.nb q1.cb, .int .i64 kq2, .int .i64 u2, .int .i64 r2, .slice q2.A q2.na q2.ca, .slice q2.B q2.nb q2.cb] (.agg #[.int .i64 kq1, .int .i64 u1, .int .i64 r1, .slice q1.A q1.na q1.ca, .slice q1.B q1.nb q1.cb, .int .i64 kq2, .int .i64 u2, .int .i64 r2, .slice q2.A q2.na q2.ca, .slice q2.B q2.nb q2.cb]) hc10 ?_
    refine Sx.nw 0 H8 fun k2 w4 H9 => ?_
    refine Sx.s 1 4 H9 fun w5 H10 => ?_
    refine Sx.l 5 4 H10 ?_
    refine Sx.l 1 4 H10 ?_
    refine Sx.nw 0 H10 fun k3 w6 H11 => ?_
    have H12 := H11.pick (a := [psI Sq A rl, .blk k1 (.cells #[.int .i64 0, .int .i64 0] 26), .blk k3 (.cells #[.int .i64 kq1, .int .i64 u1, .int .i64 r1, .slice q1.A q1.na q1.ca, .slice q1.B q1.nb q1.cb, .int .i64 kq2, .int .i64 u2, .int .i64 r2, .slice q2.A q2.na q2.ca, .slice q2.B q2.nb q2.cb] 32), trI Sq q1 (Tr.mk kq1 u1 r1 o1 a1), trI Sq q2 (Tr.mk kq2 u2 r2 o2 a2)]) [0, 0, 3, 0, 0] (by kernel_rfl)
    refine Sx.lp 5 (fun z l' w' => ∃ (j : Nat), l' = [(0, .slice A na0 ca0), (3, .pointer (some ⟨k1, 0, none⟩)), (4, .int .i64 ((i : Nat) : Int)), (29, .slice A na0 ca0), (30, .int .i64 ((na0 : Nat) : Int)), (31, .int .i64 ((i : Nat) : Int)), (40, .slice (some ⟨k3, 0, none⟩) 2 2), (41, .int .i64 2), (42, .int .i64 ((j : Nat) : Int))] ∧ z = 2 - j ∧ Hs w L0 w' [psI Sq A rl, .blk k1 (.cells #[.int .i64 0, .int .i64 0] 26), .blk k3 (.cells #[.int .i64 kq1, .int .i64 u1, .int .i64 r1, .slice q1.A q1.na q1.ca, .slice q1.B q1.nb q1.cb, .int .i64 kq2, .int .i64 u2, .int .i64 r2, .slice q2.A q2.na q2.ca, .slice q2.B q2.nb q2.cb] 32), trI Sq q1 (Tr.mk kq1 u1 r1 o1 a1), trI Sq q2 (Tr.mk kq2 u2 r2 o2 a2)] ∧ (j ≤ 2) ∧ (1 ≤ j → O3 (Tr.mk kq1 u1 r1 o1 a1)) ∧ (2 ≤ j → O3 (Tr.mk kq2 u2 r2 o2 a2))) _ [(0, .slice A na0 ca0), (3, .pointer (some ⟨k1, 0, none⟩)), (4, .int .i64 ((i : Nat) : Int)), (29, .slice A na0 ca0), (30, .int .i64 ((na0 : Nat) : Int)), (31, .int .i64 ((i : Nat) : Int)), (40, .slice (some ⟨k3, 0, none⟩) 2 2), (41, .int .i64 2), (42, .int .i64 ((0 : Nat) : Int))] ⟨0, rfl, rfl, H12, (by omega), (fun h => by omega), (fun h => by omega)⟩ (fun b2 z2 l2 w7 hI2 K2 hK2 => ?_)
    obtain ⟨j, rfl, rfl, H13, hj2, hp1, hp2⟩ := hI2
    have hob_ : j = 0 ∨ j = 1 ∨ 2 ≤ j := by omega
    rcases hob_ with hj0 | hj0 | hj0
    · skip
      subst hj0
      refine Sx.v 2 (.bool (decide ((0 : Int) < (2 : Int)))) (.bool true) (dT (by omega)) ?_
      refine Sx.l 11 2 H13 ?_
      refine Sx.nw 0 H13 fun k4 w8 H14 => ?_
      refine Sx.s 0 5 H14 fun w9 H15 => ?_
      refine Sx.l 4 5 H15 ?_
      refine Sx.c 0 [3] H15 (fun Hp1 R1 hR1 => (proper_p 301) Sq kq1 u1 r1 o1 a1 q1 300 w9 R1 Hp1 (by omega) (by omega) (fun z3 b3 w10 G1 hS1 => hR1 _ _ _ G1 fun H16 => ?_))
      refine Sx.br 13 (!b3) (fun h_c52 => ?_) (fun h_c52 => ?_)
      · skip
        have hb0 : b3 = false := by cases b3 with
          | false => rfl
          | true => cases h_c52
        refine Sx.s 5 2 H16 fun w11 H17 => ?_
        refine Sx.rt 12 [2] H17 (.tuple #[.slice none 0 0, .agg #[.int .i64 11, .int .i64 ((i : Nat) : Int)]]) ?_
        have H18 := H17.add (Gx.Ext.refl _) (it := .own 32 5 none 0 0 []) (World.ownsRow_nil _ _ _ _) (fun _ h => by cases h)
        have H19 := H18.add (Gx.Ext.refl _) (it := Slv.tysI (fun _ => False) []) Slv.tysI_nil (fun _ h => h.elim)
        subst hL0
        exact hK none 0 0 [] (fun _ => False) 11 ((i : Nat) : Int) _ (H19.pick (a := [psI Sq A rl, .own 32 5 none 0 0 (kC []), Slv.tysI (fun _ => False) ([])]) [1, 5, 5] (by kernel_rfl)) ⟨rfl, by decide⟩ (out_eq (a := 11) (b := i) (hR.bad (by omega) i _ hall hri (not_pok1 (hS1.n hb0))))
      have hb1 : b3 = true := by cases b3 with
        | true => rfl
        | false => cases h_c52
      have H20 := H16.pick (a := [psI Sq A rl, .blk k1 (.cells #[.int .i64 0, .int .i64 0] 26), .blk k3 (.cells #[.int .i64 kq1, .int .i64 u1, .int .i64 r1, .slice q1.A q1.na q1.ca, .slice q1.B q1.nb q1.cb, .int .i64 kq2, .int .i64 u2, .int .i64 r2, .slice q2.A q2.na q2.ca, .slice q2.B q2.nb q2.cb] 32), trI Sq q1 (Tr.mk kq1 u1 r1 o1 a1), trI Sq q2 (Tr.mk kq2 u2 r2 o2 a2)]) [1, 1, 1, 0, 0] (by kernel_rfl)
      exact Sx.to 7 [(0, .slice A na0 ca0), (3, .pointer (some ⟨k1, 0, none⟩)), (4, .int .i64 ((i : Nat) : Int)), (29, .slice A na0 ca0), (30, .int .i64 ((na0 : Nat) : Int)), (31, .int .i64 ((i : Nat) : Int)), (40, .slice (some ⟨k3, 0, none⟩) 2 2), (41, .int .i64 2), (42, .int .i64 (((0 + 1) : Nat) : Int))] (hK2 _ _ _ _ (by omega) ⟨(0 + 1), rfl, rfl, H20, (by omega), (fun _ => said_o3 (hb1 ▸ hS1)), (fun h => by omega)⟩)
    · skip
      subst hj0
      refine Sx.v 2 (.bool (decide ((1 : Int) < (2 : Int)))) (.bool true) (dT (by omega)) ?_
      refine Sx.l 11 2 H13 ?_
      refine Sx.nw 0 H13 fun k5 w12 H21 => ?_
      refine Sx.s 0 5 H21 fun w13 H22 => ?_
      refine Sx.l 4 5 H22 ?_
      refine Sx.c 0 [4] H22 (fun Hp2 R2 hR2 => (proper_p 301) Sq kq2 u2 r2 o2 a2 q2 300 w13 R2 Hp2 (by omega) (by omega) (fun z4 b4 w14 G2 hS2 => hR2 _ _ _ G2 fun H23 => ?_))
      refine Sx.br 13 (!b4) (fun h_c52 => ?_) (fun h_c52 => ?_)
      · skip
        have hb0 : b4 = false := by cases b4 with
          | false => rfl
          | true => cases h_c52
        refine Sx.s 5 2 H23 fun w15 H24 => ?_
        refine Sx.rt 12 [2] H24 (.tuple #[.slice none 0 0, .agg #[.int .i64 11, .int .i64 ((i : Nat) : Int)]]) ?_
        have H25 := H24.add (Gx.Ext.refl _) (it := .own 32 5 none 0 0 []) (World.ownsRow_nil _ _ _ _) (fun _ h => by cases h)
        have H26 := H25.add (Gx.Ext.refl _) (it := Slv.tysI (fun _ => False) []) Slv.tysI_nil (fun _ h => h.elim)
        subst hL0
        exact hK none 0 0 [] (fun _ => False) 11 ((i : Nat) : Int) _ (H26.pick (a := [psI Sq A rl, .own 32 5 none 0 0 (kC []), Slv.tysI (fun _ => False) ([])]) [1, 5, 5] (by kernel_rfl)) ⟨rfl, by decide⟩ (out_eq (a := 11) (b := i) (hR.bad (by omega) i _ hall hri (not_pok2 (hS2.n hb0))))
      have hb1 : b4 = true := by cases b4 with
        | true => rfl
        | false => cases h_c52
      have H27 := H23.pick (a := [psI Sq A rl, .blk k1 (.cells #[.int .i64 0, .int .i64 0] 26), .blk k3 (.cells #[.int .i64 kq1, .int .i64 u1, .int .i64 r1, .slice q1.A q1.na q1.ca, .slice q1.B q1.nb q1.cb, .int .i64 kq2, .int .i64 u2, .int .i64 r2, .slice q2.A q2.na q2.ca, .slice q2.B q2.nb q2.cb] 32), trI Sq q1 (Tr.mk kq1 u1 r1 o1 a1), trI Sq q2 (Tr.mk kq2 u2 r2 o2 a2)]) [1, 1, 1, 1, 0] (by kernel_rfl)
      exact Sx.to 7 [(0, .slice A na0 ca0), (3, .pointer (some ⟨k1, 0, none⟩)), (4, .int .i64 ((i : Nat) : Int)), (29, .slice A na0 ca0), (30, .int .i64 ((na0 : Nat) : Int)), (31, .int .i64 ((i : Nat) : Int)), (40, .slice (some ⟨k3, 0, none⟩) 2 2), (41, .int .i64 2), (42, .int .i64 (((1 + 1) : Nat) : Int))] (hK2 _ _ _ _ (by omega) ⟨(1 + 1), rfl, rfl, H27, (by omega), (fun _ => hp1 (by omega)), (fun _ => said_o3 (hb1 ▸ hS2))⟩)
    refine Sx.v 2 (.bool (decide (((j : Nat) : Int) < (2 : Int)))) (.bool false) (dF (by omega)) ?_
    refine Sx.v 11 (.int .i64 (IntKind.i64.wrap (((i : Nat) : Int) + (1 : Int)))) (.int .i64 ((i + 1 : Nat) : Int)) (congrArg (Value.int .i64) (Gx.i64n (by omega) (by omega))) ?_
    have H28 := H13.pick (a := [psI Sq A rl, .blk k1 (.cells #[.int .i64 0, .int .i64 0] 26)]) [0, 0] (by kernel_rfl)
    exact Sx.to 2 [(0, .slice A na0 ca0), (3, .pointer (some ⟨k1, 0, none⟩)), (29, .slice A na0 ca0), (30, .int .i64 ((na0 : Nat) : Int)), (31, .int .i64 (((i + 1) : Nat) : Int))] (hK1 _ _ _ _ (by omega) ⟨(i + 1), rfl, rfl, H28, (all_more hall hri ⟨hp1 (by omega), hp2 (by omega)⟩), (by omega)⟩)
  refine Sx.v 2 (.bool (decide (((i : Nat) : Int) < ((na0 : Nat) : Int)))) (.bool false) (dF (by omega)) ?_
  refine Sx.nw 11 H6 fun k6 w16 H29 => ?_
  have H30 := mapI_new (.int .i64) encN (bt := k6) (i := 2) H29 (by kernel_rfl)
  refine Sx.nw 0 H30 fun k7 w17 H31 => ?_
  have H32 := mapI_new (.int .i64) encN (bt := k7) (i := 3) H31 (by kernel_rfl)
  refine Sx.nw 1 H32 fun k8 w18 H33 => ?_
  have hob_ := hR.ok (by omega) (fun j q hq => hall j q (by have := (List.getElem?_eq_some_iff.1 hq).1; omega) hq)
  obtain ⟨ls, k, hcv, hsol⟩ := hob_
  have hob_ := solveP_fin hsol
  obtain ⟨X, hlp, hfin⟩ := hob_
  have hll := hcv.1
  have H34 := Hs.py (S := Sq) (A := A) (rl := rl) (ls := ls) H33 0 (by kernel_rfl) hcv
  have H35 := H34.add (Gx.Ext.refl _) (it := bankI 78 [] (ndC [] [0] G.new pm0) []) bank_nil (fun _ h => by rcases h with ⟨i, h, hn⟩; cases i <;> simp at h hn) 
  have H36 := H35.add (Gx.Ext.refl _) (it := kidsI (fun _ => False) [] []) kids_nil (fun _ h => h.elim)
  have H37 := H36.add (Gx.Ext.refl _) (it := bankI 80 [0] (rwC [0] G.new pm0) [0]) bank_none (fun _ h => by rcases h with ⟨i, h, hn⟩; cases i <;> simp at h hn) 
  have H38 := H37.add (Gx.Ext.refl _) (it := rowsI (fun _ => False) [(none, 0, 0)] [[]]) rows_one (fun _ h => h.elim)
  have hob_ := P_close H38 [6, 6, 6, 6] (Z := []) (T := []) (R := [0]) (g := G.new) pm0 PR.new rfl (by kernel_rfl)
  obtain ⟨S1, H39⟩ := hob_
  have H40 := H39.add (Gx.Ext.refl _) (it := .own 52 1 none 0 0 []) (World.ownsRow_nil _ _ _ _) (fun _ h => by cases h)
  have H41 := H40.pick (a := [PI S1 ([]) ([]) ([0]) G.new, .blk k8 (.cells #[.map (some k6), .map (some k7)] 50), mpI k6 ([]) ([]), mpI k7 ([0]) ([]), psI Sq A rl, pyI Sq A ls, .blk k1 (.cells #[.int .i64 0, .int .i64 0] 26), .own 52 1 none 0 0 (bps [])]) [0, 4, 2, 2, 0, 1, 0, 0] (by kernel_rfl)
  refine Sx.lp 17 (fun z l' w' => ∃ (i : Nat) (gi : G) (Ti : List Nat) (Ri : List Nat) (Zi : List Slot) (Si : Nat → Prop) (l : List Nat) (bs : List Nat) (Ak : Option Addr) (ck : Nat) (nk : Nat), l' = [(3, .pointer (some ⟨k1, 0, none⟩)), (10, .pointer (some ⟨k8, 0, none⟩)), (11, .slice Ak nk ck), (61, .slice A na0 ca0), (62, .int .i64 ((na0 : Nat) : Int)), (63, .int .i64 ((i : Nat) : Int))] ∧ z = ls.length - i ∧ Hs w L0 w' [PI Si Zi Ti Ri gi, .blk k8 (.cells #[.map (some k6), .map (some k7)] 50), mpI k6 Ti gi.tv, mpI k7 Ri gi.rv, psI Sq A rl, pyI Sq A ls, .blk k1 (.cells #[.int .i64 0, .int .i64 0] 26), .own 52 1 Ak ck nk (bps bs)] ∧ (loopP k (ls.drop i) i gi l = some X) ∧ (BL Ti l bs) ∧ (nk = l.length) ∧ (TvOk Ti.length gi.tv) ∧ (RvOk Ri.length gi.rv) ∧ (i = l.length) ∧ (i ≤ ls.length)) _ [(3, .pointer (some ⟨k1, 0, none⟩)), (10, .pointer (some ⟨k8, 0, none⟩)), (11, .slice none 0 0), (61, .slice A na0 ca0), (62, .int .i64 ((na0 : Nat) : Int)), (63, .int .i64 ((0 : Nat) : Int))] ⟨0, G.new, [], [0], [], S1, [], [], none, 0, 0, rfl, rfl, H41, hlp, (BL.nil []), rfl, (fun p h => by cases h), ⟨(fun p h => by cases h), (fun p h => by cases h)⟩, rfl, (Nat.zero_le _)⟩ (fun b5 z5 l3 w19 hI3 K3 hK3 => ?_)
  obtain ⟨i, gi, Ti, Ri, Zi, Si, l, bs, Ak, ck, nk, rfl, rfl, H42, hx, hBL, hnk, htvi, hrvi, hili, hile⟩ := hI3
  have hob_ := Nat.lt_or_ge i ls.length
  rcases hob_ with hx1 | hx1
  · skip
    have hob_ := loopP_step hx hx1
    obtain ⟨⟨kd1, u1, r1, o1, a1⟩, ⟨kd2, u2, r2, o2, a2⟩, g1, a, g2, b, g3, ok, fo, fb, hli, hof1, hof2, hsm, hct, hres⟩ := hob_
    have hob_ := hcv.fine _ (List.mem_of_getElem? hli)
    obtain ⟨c1, c2, hf1, hf2, _, _⟩ := hob_
    have hob_ := py_at (S := Sq) (A := A) (ls := ls) H42 5 (by kernel_rfl) i _ hli
    obtain ⟨q1, q2, aq, haq, _, hc10, _, _, hq1, hq2⟩ := hob_
    have H43 := Hs.ty1 (S := Sq) (A := A) (ls := ls) (p := q1) (t := Ty.mk kd1 u1 r1 o1 a1) H42 5 (by kernel_rfl) hq1
    have H44 := Hs.ty1 (S := Sq) (A := A) (ls := ls) (p := q2) (t := Ty.mk kd2 u2 r2 o2 a2) H43 5 (by kernel_rfl) hq2
    refine Sx.v 2 (.bool (decide (((i : Nat) : Int) < ((na0 : Nat) : Int)))) (.bool true) (dT (by omega)) ?_
    refine Sx.ia 11 aq i 10 na0 ca0 haq (by omega) ?_
    refine Sx.lo (c := 10) (t := 36) 0 [.int .i64 ((kd1 : Nat) : Int), .int .i64 ((u1 : Nat) : Int), .int .i64 ((r1 : Nat) : Int), .slice q1.A q1.na q1.ca, .slice q1.B q1.nb q1.cb, .int .i64 ((kd2 : Nat) : Int), .int .i64 ((u2 : Nat) : Int), .int .i64 ((r2 : Nat) : Int), .slice q2.A q2.na q2.ca, .slice q2.B q2.nb q2.cb] (.agg #[.int .i64 ((kd1 : Nat) : Int), .int .i64 ((u1 : Nat) : Int), .int .i64 ((r1 : Nat) : Int), .slice q1.A q1.na q1.ca, .slice q1.B q1.nb q1.cb, .int .i64 ((kd2 : Nat) : Int), .int .i64 ((u2 : Nat) : Int), .int .i64 ((r2 : Nat) : Int), .slice q2.A q2.na q2.ca, .slice q2.B q2.nb q2.cb]) hc10 ?_
    refine Sx.nw 0 H44 fun k9 w20 H45 => ?_
    refine Sx.s 1 10 H45 fun w21 H46 => ?_
    refine Sx.l 6 10 H46 ?_
    refine Sx.c 0 [0, 0, 0, 0, 4] H46 (fun Hp3 R3 hR3 => (of_p _) Si Zi Ti Ri gi k8 k6 k7 Sq kd1 u1 r1 o1 a1 q1 w21 R3 Hp3 c1 g1 a hf1 htvi hrvi hof1 (fun S2 Zn1 Tn1 Rn1 bm1 w22 G3 ho1 ho2 ho3 ho4 ho5 => hR3 _ _ _ G3 fun H47 => ?_))
    refine Sx.nw 7 H47 fun k10 w23 H48 => ?_
    refine Sx.ap 0 8 11 8 1 0 52 1 51 1 k10 Ak ck nk (bps bs) [.pointer (some ⟨bm1, 0, none⟩)] H48 (by omega) (by omega) (bps_app bs bm1) fun A1 cap1 w24 H49 => ?_
    refine Sx.l 8 10 H49 ?_
    refine Sx.c 0 [0, 0, 0, 0, 5] H49 (fun Hp4 R4 hR4 => (of_p _) S2 Zn1 Tn1 Rn1 g1 k8 k6 k7 Sq kd2 u2 r2 o2 a2 q2 w24 R4 Hp4 c2 g2 b hf2 ho4 ho5 hof2 (fun S3 Zn2 Tn2 Rn2 bm2 w25 G4 ho6 ho7 ho8 ho9 ho10 => hR4 _ _ _ G4 fun H50 => ?_))
    refine Sx.c 0 [0] H50 (fun Hp5 R5 hR5 => (Same_p _) S3 Zn2 Tn2 Rn2 g2 a b bm1 bm2 w25 R5 Hp5 g3 ok (ho6 _ _ ho3) ho8 hsm (fun S4 Rr1 w26 G5 hpre1 => hR5 _ _ _ G5 fun H51 => ?_))
    have hkt := sameX_kt hsm
    have H52 := H51.pick (a := [PI S4 Zn2 Tn2 Rr1 g3, .blk k8 (.cells #[.map (some k6), .map (some k7)] 50), mpI k6 Tn2 g3.tv, mpI k7 Rn2 g2.rv, tyI Sq q2 (Ty.mk kd2 u2 r2 o2 a2), tyI Sq q1 (Ty.mk kd1 u1 r1 o1 a1), psI Sq A rl, pyI Sq A ls, .blk k1 (.cells #[.int .i64 0, .int .i64 0] 26), .own 52 1 A1 cap1 (nk + 1) (bps (bs ++ [bm1])), .blk k9 (.cells #[.int .i64 ((kd1 : Nat) : Int), .int .i64 ((u1 : Nat) : Int), .int .i64 ((r1 : Nat) : Int), .slice q1.A q1.na q1.ca, .slice q1.B q1.nb q1.cb, .int .i64 ((kd2 : Nat) : Int), .int .i64 ((u2 : Nat) : Int), .int .i64 ((r2 : Nat) : Int), .slice q2.A q2.na q2.ca, .slice q2.B q2.nb q2.cb] 36), .blk k10 (.cells #[.pointer (some ⟨bm1, 0, none⟩)] 52)]) [0, 0, 0, 0, 0, 0, 0, 0, 0, 0, 0, 0] (by rw [mp_tv hkt]; kernel_rfl)
    have H53 := H52.pick (a := [PI S4 Zn2 Tn2 Rr1 g3, .blk k8 (.cells #[.map (some k6), .map (some k7)] 50), mpI k6 Tn2 g3.tv, mpI k7 Rr1 g3.rv, tyI Sq q2 (Ty.mk kd2 u2 r2 o2 a2), tyI Sq q1 (Ty.mk kd1 u1 r1 o1 a1), psI Sq A rl, pyI Sq A ls, .blk k1 (.cells #[.int .i64 0, .int .i64 0] 26), .own 52 1 A1 cap1 (nk + 1) (bps (bs ++ [bm1])), .blk k9 (.cells #[.int .i64 ((kd1 : Nat) : Int), .int .i64 ((u1 : Nat) : Int), .int .i64 ((r1 : Nat) : Int), .slice q1.A q1.na q1.ca, .slice q1.B q1.nb q1.cb, .int .i64 ((kd2 : Nat) : Int), .int .i64 ((u2 : Nat) : Int), .int .i64 ((r2 : Nat) : Int), .slice q2.A q2.na q2.ca, .slice q2.B q2.nb q2.cb] 36), .blk k10 (.cells #[.pointer (some ⟨bm1, 0, none⟩)] 52)]) [0, 0, 0, 0, 0, 0, 0, 0, 0, 0, 0, 0] (by rw [mp_rv (g' := g3) hkt ho10 hpre1]; kernel_rfl)
    have hBL2 : BL Tn2 (l ++ [a]) (bs ++ [bm1]) := ((hBL.ext ho1).snoc ho3).ext ho6
    have hnk2 : nk + 1 = (l ++ [a]).length := by rw [List.length_append, hnk]; rfl
    have hbl2 := hBL2.len
    have hrow := Hs.row H53 9 (e := 52) (sz := 1) (cap := cap1) (n := (nk + 1)) (A := A1) (xs := (bps (bs ++ [bm1]))) (by kernel_rfl) (by omega)
    obtain ⟨gk, hgk⟩ := hrow
    subst hgk
    have H54 := H53.pick (a := [PI S4 Zn2 Tn2 Rr1 g3, .blk k8 (.cells #[.map (some k6), .map (some k7)] 50), mpI k6 Tn2 g3.tv, mpI k7 Rr1 g3.rv, psI Sq A rl, pyI Sq A ls, .blk k1 (.cells #[.int .i64 0, .int .i64 0] 26), .own 52 1 (some ⟨gk, 0, none⟩) cap1 (nk + 1) (bps (bs ++ [bm1]))]) [0, 0, 0, 0, 2, 2, 2, 2] (by kernel_rfl)
    refine Sx.lp 17 (fun z l' w' => ∃ (j : Nat) (okj : Bool) (bgj : Bool) (Sj : Nat → Prop), l' = [(3, .pointer (some ⟨k1, 0, none⟩)), (10, .pointer (some ⟨k8, 0, none⟩)), (11, .slice (some ⟨gk, 0, none⟩) (nk + 1) cap1), (12, .int .i64 ((i : Nat) : Int)), (15, .bool okj), (16, .bool bgj), (61, .slice A na0 ca0), (62, .int .i64 ((na0 : Nat) : Int)), (63, .int .i64 ((i : Nat) : Int)), (82, .slice (some ⟨gk, 0, none⟩) (nk + 1) cap1), (83, .int .i64 ((nk + 1 : Nat) : Int)), (84, .int .i64 ((j : Nat) : Int))] ∧ z = (l ++ [a]).length - j ∧ Hs w L0 w' [PI Sj Zn2 Tn2 Rr1 g3, .blk k8 (.cells #[.map (some k6), .map (some k7)] 50), mpI k6 Tn2 g3.tv, mpI k7 Rr1 g3.rv, psI Sq A rl, pyI Sq A ls, .blk k1 (.cells #[.int .i64 0, .int .i64 0] 26), .own 52 1 (some ⟨gk, 0, none⟩) cap1 (nk + 1) (bps (bs ++ [bm1]))] ∧ (cntsX k g3 ((l ++ [a]).drop j) okj bgj = some (fo, fb)) ∧ (j ≤ (l ++ [a]).length)) _ [(3, .pointer (some ⟨k1, 0, none⟩)), (10, .pointer (some ⟨k8, 0, none⟩)), (11, .slice (some ⟨gk, 0, none⟩) (nk + 1) cap1), (12, .int .i64 ((i : Nat) : Int)), (15, .bool ok), (16, .bool false), (61, .slice A na0 ca0), (62, .int .i64 ((na0 : Nat) : Int)), (63, .int .i64 ((i : Nat) : Int)), (82, .slice (some ⟨gk, 0, none⟩) (nk + 1) cap1), (83, .int .i64 ((nk + 1 : Nat) : Int)), (84, .int .i64 ((0 : Nat) : Int))] ⟨0, ok, false, S4, rfl, rfl, H54, hct, (Nat.zero_le _)⟩ (fun b6 z6 l4 w27 hI4 K4 hK4 => ?_)
    obtain ⟨j, okj, bgj, Sj, rfl, rfl, H55, hcx, hjl⟩ := hI4
    have hob_ := loop_cs j (l ++ [a]).length okj bgj
    rcases hob_ with ⟨hj, rfl⟩ | ⟨hj, rfl⟩ | ⟨hj, rfl⟩ | ⟨hj, rfl, rfl⟩ | ⟨hj, rfl, rfl⟩
    · skip
      have hob_ := cnts_step hcx hj
      obtain ⟨n, c, s, fl, hn, hcn, hnx⟩ := hob_
      have hob_ := hBL2.at hn
      obtain ⟨bx, hbx, hbx2⟩ := hob_
      refine Sx.v 2 (.bool (decide (((j : Nat) : Int) < ((nk + 1 : Nat) : Int)))) (.bool true) (dT (by omega)) ?_
      refine Sx.ir 10 gk j 1 (nk + 1) cap1 (by omega) ?_
      refine Sx.lr 0 7 52 1 52 gk cap1 (nk + 1) (j * 1) (bps (bs ++ [bm1])) H55 (.pointer (some ⟨bx, 0, none⟩)) (bps_at hbx) ?_
      refine Sx.c 16 [0] H55 (fun Hp6 R6 hR6 => Parts_p Sj Zn2 Tn2 Rr1 g3 k n bx w27 R6 Hp6 c s fl hbx2 hcn (fun S5 w28 G6 => hR6 _ _ _ G6 fun H56 => ?_))
      refine Sx.sp 17 98 bgj (fun h_g98 => ?_) (fun h_g98 => ?_)
      · skip
        have p_g98 := h_g98; try simp [-List.getD_eq_getElem?_getD] at p_g98
        refine Sx.v 8 (.int .i64 (IntKind.i64.wrap (((j : Nat) : Int) + (1 : Int)))) (.int .i64 ((j + 1 : Nat) : Int)) (congrArg (Value.int .i64) (Gx.i64n (by omega) (by omega))) ?_
        have H57 := H56.pick (a := [PI S5 Zn2 Tn2 Rr1 g3, .blk k8 (.cells #[.map (some k6), .map (some k7)] 50), mpI k6 Tn2 g3.tv, mpI k7 Rr1 g3.rv, psI Sq A rl, pyI Sq A ls, .blk k1 (.cells #[.int .i64 0, .int .i64 0] 26), .own 52 1 (some ⟨gk, 0, none⟩) cap1 (nk + 1) (bps (bs ++ [bm1]))]) [0, 0, 0, 0, 0, 0, 0, 0] (by kernel_rfl)
        exact Sx.to 2 [(3, .pointer (some ⟨k1, 0, none⟩)), (10, .pointer (some ⟨k8, 0, none⟩)), (11, .slice (some ⟨gk, 0, none⟩) (nk + 1) cap1), (12, .int .i64 ((i : Nat) : Int)), (15, .bool (!fl)), (16, .bool true), (61, .slice A na0 ca0), (62, .int .i64 ((na0 : Nat) : Int)), (63, .int .i64 ((i : Nat) : Int)), (82, .slice (some ⟨gk, 0, none⟩) (nk + 1) cap1), (83, .int .i64 ((nk + 1 : Nat) : Int)), (84, .int .i64 (((j + 1) : Nat) : Int))] (hK4 _ _ _ _ (by omega) ⟨(j + 1), (!fl), true, S5, rfl, rfl, H57, (by rw [h_g98, Bool.true_or] at hnx; exact hnx), (by omega)⟩)
      have p_g98 := h_g98; try simp [-List.getD_eq_getElem?_getD] at p_g98
      refine Sx.v 8 (.int .i64 (IntKind.i64.wrap (((j : Nat) : Int) + (1 : Int)))) (.int .i64 ((j + 1 : Nat) : Int)) (congrArg (Value.int .i64) (Gx.i64n (by omega) (by omega))) ?_
      have H58 := H56.pick (a := [PI S5 Zn2 Tn2 Rr1 g3, .blk k8 (.cells #[.map (some k6), .map (some k7)] 50), mpI k6 Tn2 g3.tv, mpI k7 Rr1 g3.rv, psI Sq A rl, pyI Sq A ls, .blk k1 (.cells #[.int .i64 0, .int .i64 0] 26), .own 52 1 (some ⟨gk, 0, none⟩) cap1 (nk + 1) (bps (bs ++ [bm1]))]) [0, 0, 0, 0, 0, 0, 0, 0] (by kernel_rfl)
      exact Sx.to 2 [(3, .pointer (some ⟨k1, 0, none⟩)), (10, .pointer (some ⟨k8, 0, none⟩)), (11, .slice (some ⟨gk, 0, none⟩) (nk + 1) cap1), (12, .int .i64 ((i : Nat) : Int)), (15, .bool (!fl)), (16, .bool (decide (((c : Nat) : Int) > (300 : Int)))), (61, .slice A na0 ca0), (62, .int .i64 ((na0 : Nat) : Int)), (63, .int .i64 ((i : Nat) : Int)), (82, .slice (some ⟨gk, 0, none⟩) (nk + 1) cap1), (83, .int .i64 ((nk + 1 : Nat) : Int)), (84, .int .i64 (((j + 1) : Nat) : Int))] (hK4 _ _ _ _ (by omega) ⟨(j + 1), (!fl), (decide (((c : Nat) : Int) > (300 : Int))), S5, rfl, rfl, H58, (by rw [h_g98, Bool.false_or] at hnx; rw [dec300]; exact hnx), (by omega)⟩)
    · skip
      have hob_ : ∃ n, (l ++ [a])[j]? = some n := ⟨_, List.getElem?_eq_getElem hj⟩
      obtain ⟨n, hn⟩ := hob_
      have hob_ := hBL2.at hn
      obtain ⟨bx, hbx, hbx2⟩ := hob_
      have hfo := cnts_off hcx
      refine Sx.v 2 (.bool (decide (((j : Nat) : Int) < ((nk + 1 : Nat) : Int)))) (.bool true) (dT (by omega)) ?_
      refine Sx.ir 10 gk j 1 (nk + 1) cap1 (by omega) ?_
      refine Sx.lr 0 7 52 1 52 gk cap1 (nk + 1) (j * 1) (bps (bs ++ [bm1])) H55 (.pointer (some ⟨bx, 0, none⟩)) (bps_at hbx) ?_
      refine Sx.s 32 6 H55 fun w29 H59 => ?_
      refine Sx.rt 9 [6] H59 (.tuple #[.slice none 0 0, .agg #[.int .i64 8, .int .i64 ((i : Nat) : Int)]]) ?_
      have H60 := H59.add (Gx.Ext.refl _) (it := .own 32 5 none 0 0 []) (World.ownsRow_nil _ _ _ _) (fun _ h => by cases h)
      have H61 := H60.add (Gx.Ext.refl _) (it := Slv.tysI (fun _ => False) []) Slv.tysI_nil (fun _ h => h.elim)
      subst hL0
      exact hK none 0 0 [] (fun _ => False) 8 ((i : Nat) : Int) _ (H61.pick (a := [psI Sq A rl, .own 32 5 none 0 0 (kC []), Slv.tysI (fun _ => False) ([])]) [4, 7, 7] (by kernel_rfl)) ⟨rfl, by decide⟩ (out_inl (a := 8) (b := i) hfin (res_no hres hfo.symm))
    · skip
      have hce := cnts_end hcx hj
      refine Sx.v 2 (.bool (decide (((j : Nat) : Int) < ((nk + 1 : Nat) : Int)))) (.bool false) (dF (by omega)) ?_
      refine Sx.s 23 6 H55 fun w30 H62 => ?_
      refine Sx.rt 9 [6] H62 (.tuple #[.slice none 0 0, .agg #[.int .i64 8, .int .i64 ((i : Nat) : Int)]]) ?_
      have H63 := H62.add (Gx.Ext.refl _) (it := .own 32 5 none 0 0 []) (World.ownsRow_nil _ _ _ _) (fun _ h => by cases h)
      have H64 := H63.add (Gx.Ext.refl _) (it := Slv.tysI (fun _ => False) []) Slv.tysI_nil (fun _ h => h.elim)
      subst hL0
      exact hK none 0 0 [] (fun _ => False) 8 ((i : Nat) : Int) _ (H64.pick (a := [psI Sq A rl, .own 32 5 none 0 0 (kC []), Slv.tysI (fun _ => False) ([])]) [4, 7, 7] (by kernel_rfl)) ⟨rfl, by decide⟩ (out_inl (a := 8) (b := i) hfin (res_no hres hce.1))
    · skip
      have hce := cnts_end hcx hj
      refine Sx.v 2 (.bool (decide (((j : Nat) : Int) < ((nk + 1 : Nat) : Int)))) (.bool false) (dF (by omega)) ?_
      refine Sx.s 30 6 H55 fun w31 H65 => ?_
      refine Sx.rt 9 [6] H65 (.tuple #[.slice none 0 0, .agg #[.int .i64 10, .int .i64 ((i : Nat) : Int)]]) ?_
      have H66 := H65.add (Gx.Ext.refl _) (it := .own 32 5 none 0 0 []) (World.ownsRow_nil _ _ _ _) (fun _ h => by cases h)
      have H67 := H66.add (Gx.Ext.refl _) (it := Slv.tysI (fun _ => False) []) Slv.tysI_nil (fun _ h => h.elim)
      subst hL0
      exact hK none 0 0 [] (fun _ => False) 10 ((i : Nat) : Int) _ (H67.pick (a := [psI Sq A rl, .own 32 5 none 0 0 (kC []), Slv.tysI (fun _ => False) ([])]) [4, 7, 7] (by kernel_rfl)) ⟨rfl, by decide⟩ (out_inl (a := 10) (b := i) hfin (res_big hres hce.1 hce.2))
    have hce := cnts_end hcx hj
    refine Sx.v 2 (.bool (decide (((j : Nat) : Int) < ((nk + 1 : Nat) : Int)))) (.bool false) (dF (by omega)) ?_
    refine Sx.v 30 (.int .i64 (IntKind.i64.wrap (((i : Nat) : Int) + (1 : Int)))) (.int .i64 ((i + 1 : Nat) : Int)) (congrArg (Value.int .i64) (Gx.i64n (by omega) (by omega))) ?_
    have H68 := H55.pick (a := [PI Sj Zn2 Tn2 Rr1 g3, .blk k8 (.cells #[.map (some k6), .map (some k7)] 50), mpI k6 Tn2 g3.tv, mpI k7 Rr1 g3.rv, psI Sq A rl, pyI Sq A ls, .blk k1 (.cells #[.int .i64 0, .int .i64 0] 26), .own 52 1 (some ⟨gk, 0, none⟩) cap1 (nk + 1) (bps (bs ++ [bm1]))]) [0, 0, 0, 0, 0, 0, 0, 0] (by kernel_rfl)
    exact Sx.to 2 [(3, .pointer (some ⟨k1, 0, none⟩)), (10, .pointer (some ⟨k8, 0, none⟩)), (11, .slice (some ⟨gk, 0, none⟩) (nk + 1) cap1), (61, .slice A na0 ca0), (62, .int .i64 ((na0 : Nat) : Int)), (63, .int .i64 (((i + 1) : Nat) : Int))] (hK3 _ _ _ _ (by omega) ⟨(i + 1), g3, Tn2, Rr1, Zn2, Sj, (l ++ [a]), (bs ++ [bm1]), (some ⟨gk, 0, none⟩), cap1, nk + 1, rfl, rfl, H68, (res_go hres hce.1 hce.2), hBL2, hnk2, (hkt.tvok ho9), (hkt.rvok ho10 hpre1.len), (by rw [List.length_append, hili]; rfl), (by omega)⟩)
  have hob_ := loopP_end hx hx1
  obtain rfl := hob_
  obtain ⟨ts, hts, hRo⟩ := hfin
  subst hRo
  refine Sx.v 2 (.bool (decide (((i : Nat) : Int) < ((na0 : Nat) : Int)))) (.bool false) (dF (by omega)) ?_
  refine Sx.c 11 [] H42 (fun Hp7 R7 hR7 => NewNamer_p  w19 R7 Hp7  (fun nb1 nt1 nr1 w32 G7 => hR7 _ _ _ G7 fun H69 => ?_))
  have H70 := H69.add (Gx.Ext.refl _) (it := .own 32 5 none 0 0 []) (World.ownsRow_nil _ _ _ _) (fun _ h => by cases h)
  have H71 := H70.add (Gx.Ext.refl _) (it := Slv.tysI (fun _ => False) []) Slv.tysI_nil (fun _ h => h.elim)
  have H72 := H71.pick (a := [PI Si Zi Ti Ri gi, .blk nb1 (.cells #[.map (some nt1), .map (some nr1)] 89), pkI nt1 (kvB Ti ([])), pkI nr1 (kvB Ri ([])), psI Sq A rl, .blk k1 (.cells #[.int .i64 0, .int .i64 0] 26), .own 52 1 Ak ck nk (bps bs), .own 32 5 none 0 0 (kC []), Slv.tysI (fun _ => False) ([])]) [3, 0, 0, 0, 3, 4, 4, 4, 4] (by kernel_rfl)
  refine Sx.lp 17 (fun z l' w' => ∃ (j : Nat) (L : Nams) (kl : List Kd) (tj : List Ty) (Ao : Option Addr) (co : Nat) (no : Nat) (So : Nat → Prop) (Sj : Nat → Prop), l' = [(3, .pointer (some ⟨k1, 0, none⟩)), (21, .pointer (some ⟨nb1, 0, none⟩)), (22, .slice Ao no co), (114, .slice Ak nk ck), (115, .int .i64 ((nk : Nat) : Int)), (116, .int .i64 ((j : Nat) : Int))] ∧ z = l.length - j ∧ Hs w L0 w' [PI Sj Zi Ti Ri gi, .blk nb1 (.cells #[.map (some nt1), .map (some nr1)] 89), pkI nt1 (kvB Ti L.t), pkI nr1 (kvB Ri L.r), psI Sq A rl, .blk k1 (.cells #[.int .i64 0, .int .i64 0] 26), .own 52 1 Ak ck nk (bps bs), .own 32 5 Ao co no (kC kl), Slv.tysI So kl] ∧ (toldsX k gi (l.drop j) L = some tj) ∧ (kl.map (·.2) ++ tj = ts) ∧ (no = kl.length) ∧ (kl.length = j) ∧ (NmOk Ti.length [] L.t) ∧ (NmOk Ri.length [0] L.r) ∧ (j ≤ l.length)) _ [(3, .pointer (some ⟨k1, 0, none⟩)), (21, .pointer (some ⟨nb1, 0, none⟩)), (22, .slice none 0 0), (114, .slice Ak nk ck), (115, .int .i64 ((nk : Nat) : Int)), (116, .int .i64 ((0 : Nat) : Int))] ⟨0, (⟨[], []⟩ : Nams), [], ts, none, 0, 0, (fun _ => False), Si, rfl, rfl, H72, hts, rfl, rfl, rfl, (nm0 _ _), (nm0 _ _), (Nat.zero_le _)⟩ (fun b7 z7 l5 w33 hI5 K5 hK5 => ?_)
  obtain ⟨j, L, kl, tj, Ao, co, no, So, Sj, rfl, rfl, H73, htd, htk, hno, hkj, hnt, hnr, hjl⟩ := hI5
  have hob_ := Nat.lt_or_ge j l.length
  rcases hob_ with hj | hj
  · skip
    have hob_ := tolds_step htd hj
    obtain ⟨n, ⟨k0, u0, r0, o0, a0⟩, m', tr, hn, htl, hnx, htt⟩ := hob_
    subst htt
    have hob_ := hBL.at hn
    obtain ⟨bx, hbx, hbx2⟩ := hob_
    have hrow := Hs.row H73 6 (e := 52) (sz := 1) (cap := ck) (n := nk) (A := Ak) (xs := (bps bs)) (by kernel_rfl) (by omega)
    obtain ⟨gk, hgk⟩ := hrow
    subst hgk
    refine Sx.v 2 (.bool (decide (((j : Nat) : Int) < ((nk : Nat) : Int)))) (.bool true) (dT (by omega)) ?_
    refine Sx.ir 10 gk j 1 nk ck (by omega) ?_
    refine Sx.lr 0 6 52 1 52 gk ck nk (j * 1) (bps bs) H73 (.pointer (some ⟨bx, 0, none⟩)) (bps_at hbx) ?_
    refine Sx.c 7 [0, 0, 0, 0] H73 (fun Hp8 R8 hR8 => (Told_p _) Sj Zi Ti Ri gi n bx nb1 nt1 nr1 L w33 R8 Hp8 (Ty.mk k0 u0 r0 o0 a0) m' hbx2 hnt hnr htl (fun S6 Sy1 tp1 w34 G8 hnt1 hnr1 => hR8 _ _ _ G8 fun H74 => ?_))
    refine Sx.nw 0 H74 fun k11 w35 H75 => ?_
    refine Sx.ap 0 8 10 72 1 0 32 5 23 1 k11 Ao co no (kC kl) [.int .i64 ((k0 : Nat) : Int), .int .i64 ((u0 : Nat) : Int), .int .i64 ((r0 : Nat) : Int), .slice tp1.A tp1.na tp1.ca, .slice tp1.B tp1.nb tp1.cb] H75 (by omega) (by omega) (kC_app kl tp1 (Ty.mk k0 u0 r0 o0 a0)) fun A2 cap2 w36 H76 => ?_
    refine Sx.v 5 (.int .i64 (IntKind.i64.wrap (((j : Nat) : Int) + (1 : Int)))) (.int .i64 ((j + 1 : Nat) : Int)) (congrArg (Value.int .i64) (Gx.i64n (by omega) (by omega))) ?_
    have hob_ := Slv.tys_add H76 [9, 4] (S := So) (S2 := Sy1) (l := kl) (p := tp1) (t := Ty.mk k0 u0 r0 o0 a0) (by kernel_rfl)
    obtain ⟨S7, H77⟩ := hob_
    have H78 := H77.pick (a := [PI S6 Zi Ti Ri gi, .blk nb1 (.cells #[.map (some nt1), .map (some nr1)] 89), pkI nt1 (kvB Ti m'.t), pkI nr1 (kvB Ri m'.r), psI Sq A rl, .blk k1 (.cells #[.int .i64 0, .int .i64 0] 26), .own 52 1 (some ⟨gk, 0, none⟩) ck nk (bps bs), .own 32 5 A2 cap2 (no + 1) (kC (kl ++ [(tp1, Ty.mk k0 u0 r0 o0 a0)])), Slv.tysI S7 (kl ++ [(tp1, Ty.mk k0 u0 r0 o0 a0)])]) [1, 1, 1, 1, 1, 1, 1, 1, 0] (by kernel_rfl)
    exact Sx.to 2 [(3, .pointer (some ⟨k1, 0, none⟩)), (21, .pointer (some ⟨nb1, 0, none⟩)), (22, .slice A2 (no + 1) cap2), (114, .slice (some ⟨gk, 0, none⟩) nk ck), (115, .int .i64 ((nk : Nat) : Int)), (116, .int .i64 (((j + 1) : Nat) : Int))] (hK5 _ _ _ _ (by omega) ⟨(j + 1), m', (kl ++ [(tp1, Ty.mk k0 u0 r0 o0 a0)]), tr, A2, cap2, no + 1, S7, S6, rfl, rfl, H78, hnx, (by rw [← htk]; simp), (by rw [List.length_append, hno]; rfl), (by rw [List.length_append, hkj]; rfl), hnt1, hnr1, (by omega)⟩)
  have hte := tolds_end htd hj
  subst hte
  refine Sx.v 2 (.bool (decide (((j : Nat) : Int) < ((nk : Nat) : Int)))) (.bool false) (dF (by omega)) ?_
  refine Sx.s 14 5 H73 fun w37 H79 => ?_
  refine Sx.rt 3 [5] H79 (.tuple #[.slice Ao no co, .agg #[.int .i64 0, .int .i64 0]]) ?_
  subst hL0
  exact hK Ao co no kl So 0 0 _ (H79.pick (a := [psI Sq A rl, .own 32 5 Ao co no (kC kl), Slv.tysI So kl]) [4, 6, 6] (by kernel_rfl)) ⟨hno, by omega⟩ ⟨by rw [← htk, List.append_nil], rfl, rfl⟩
end Go.Proofs.Ytfkkocjheeoobaa
