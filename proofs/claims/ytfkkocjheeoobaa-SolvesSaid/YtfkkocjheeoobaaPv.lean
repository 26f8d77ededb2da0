/- Types as they come: what both Proper ask; in memory. -/
import Derived.Test.YtfkkocjheeoobaaSw7
set_option linter.unusedVariables false
set_option linter.unusedSimpArgs false
set_option linter.unusedVariables false
set_option linter.unusedSimpArgs false
namespace Go.Slv
open Go.RowKit Go.Sx Go.Inf Go.Gx
inductive Tr
  | mk (kd n row : Int) (ops : List Nm) (args : List Tr)
def trC (t : Tr) (p : Tv) : List Value := match t with
  | .mk kd n row _ _ => [.int .i64 kd, .int .i64 n, .int .i64 row, .slice p.A p.na p.ca, .slice p.B p.nb p.cb]
/-- A tree of any types that is only read. -/
inductive TrIn (w : World) (S : Nat → Prop) : Tv → Tr → Prop
  | mk {kd n row : Int} {ops : List Nm} {args : List Tr} (p : Tv) (ps : List Tv) (hs : Strs w S p.A ops) (hn : p.na = ops.length) (hc : p.na ≤ p.ca ∧ ops.length < 9223372036854775808 ∧ args.length < 9223372036854775808) (hb : p.nb = args.length) (hl : ps.length = args.length)
      (hm : ∀ (i : Nat) (q : Tv) (t : Tr), ps[i]? = some q → args[i]? = some t → ∃ a, p.B = some a ∧ S a.block ∧ w.cells? 0 (a.add (i * 5)) 5 = some (trC t q))
      (ht : ∀ (i : Nat) (q : Tv) (t : Tr), ps[i]? = some q → args[i]? = some t → TrIn w S q t) : TrIn w S p (.mk kd n row ops args)
theorem TrIn.keep {w w' : World} {S : Nat → Prop} {p : Tv} {t : Tr} (h : TrIn w S p t) (k : ∀ c, S c → w'.heap[c]? = w.heap[c]?) : TrIn w' S p t := by
  induction h with
  | mk p ps hs hn hc hb hl hm _ ih => exact .mk p ps (hs.keep k) hn hc hb hl (fun i q t h1 h2 => by obtain ⟨a, ha, hS, hcs⟩ := hm i q t h1 h2; exact ⟨a, ha, hS, cells_same hcs (by rw [add_block]; exact k _ hS)⟩) ih
theorem trI_loc (S : Nat → Prop) (p : Tv) (t : Tr) : Sx.Loc S (fun w => TrIn w S p t) := fun _ _ _ hk h => h.keep hk
def trI (S : Nat → Prop) (p : Tv) (t : Tr) : Sx.Item := .ro S (fun w => TrIn w S p t)
theorem tr_at {w0 w : World} {L0 L : List Sx.Item} {S : Nat → Prop} {p : Tv} {t : Tr} (H : Hs w0 L0 w L) (j : Nat) (hi : L[j]? = some (trI S p t)) : TrIn w S p t := (H.at j hi).1
theorem TrIn.open {w : World} {S : Nat → Prop} {p : Tv} {kd n row : Int} {ops : List Nm} {args : List Tr} (h : TrIn w S p (.mk kd n row ops args)) :
    Strs w S p.A ops ∧ p.na = ops.length ∧ (p.na ≤ p.ca ∧ ops.length < 9223372036854775808 ∧ args.length < 9223372036854775808) ∧ p.nb = args.length ∧ ∀ i t, args[i]? = some t → ∃ (q : Tv) (a : Addr), p.B = some a ∧ w.cells? 0 (a.add (i * 5)) 5 = some (trC t q) ∧ TrIn w S q t := by
  cases h with
  | mk _ ps hs hn hc hb hl hm ht =>
    refine ⟨hs, hn, hc, hb, fun i t h => ?_⟩
    have hi : i < ps.length := by rw [hl]; exact (List.getElem?_eq_some_iff.1 h).1
    obtain ⟨a, ha, hS, hcs⟩ := hm i _ t (List.getElem?_eq_getElem hi) h
    exact ⟨_, a, ha, hcs, ht i _ t (List.getElem?_eq_getElem hi) h⟩
theorem tr_str {w : World} {L : List Sx.Item} {S : Nat → Prop} {p : Tv} {kd n row : Int} {ops : List Nm} {args : List Tr} (H : Sp w L) (j : Nat) (hi : L[j]? = some (trI S p (.mk kd n row ops args))) {a : Addr} (ha : p.A = some a) {i : Nat} {s : Nm} (h : ops[i]? = some s) : w.cells? 0 (a.add (i * 1)) 1 = some [.string s] := by
  have hT : TrIn w S p (.mk kd n row ops args) := (H.all _ (List.mem_of_getElem? hi)).1
  obtain ⟨a', ha', _, hc⟩ := hT.open.1 i s h
  rw [ha] at ha'; cases ha'; exact hc
/-- How many parts a kind has. -/
def ar (kd : Int) : Int := if kd = 0 ∨ kd = 1 ∨ kd = 2 ∨ kd = 3 then 0 else if kd = 4 then 1 else if kd = 5 ∨ kd = 6 then 2 else -1
theorem ar_cs (kd : Int) : ar kd = 0 ∨ ar kd = 1 ∨ ar kd = 2 ∨ ar kd = -1 := by
  unfold ar
  repeat' split
  all_goals omega
def OpsOk (ops : List Nm) : Prop := (∀ o ∈ ops, o.data.toList ≠ []) ∧ ∀ i a b, ops[i]? = some a → ops[i + 1]? = some b → leN a b = true
structure HeadOk (kd n row : Int) (ops : List Nm) (len : Nat) : Prop where
  len : (len : Int) = ar kd
  v : kd = 0 → 1 ≤ n ∧ n ≤ 1000000000
  n : kd ≠ 0 → n = 0
  f : kd ≠ 6 → ops = [] ∧ row = 0
  row : 0 ≤ row ∧ row ≤ 1000000000
  ops : OpsOk ops
/-- A proper type with its number of parts. -/
inductive FN : Nat → Tr → Prop
  | mk {kd n row : Int} {ops : List Nm} {args : List Tr} (h : HeadOk kd n row ops args.length) (cs : List Nat) (hl : cs.length = args.length) (ha : ∀ (i c : Nat) (t : Tr), cs[i]? = some c → args[i]? = some t → FN c t) : FN (1 + ops.length + cs.sum) (.mk kd n row ops args)
theorem FN.head {c : Nat} {kd n row : Int} {ops : List Nm} {args : List Tr} (h : FN c (.mk kd n row ops args)) : HeadOk kd n row ops args.length ∧ 1 + ops.length ≤ c := by
  cases h with
  | mk h cs hl ha => exact ⟨h, by omega⟩
theorem FN.pos {c : Nat} {t : Tr} (h : FN c t) : 1 ≤ c := by cases h; omega
theorem FN.det {c : Nat} {t : Tr} (h : FN c t) : ∀ {c' : Nat}, FN c' t → c = c' := by
  induction h with
  | mk h cs hl ha ih =>
    intro c' k
    cases k with
    | mk k ds dl da =>
      have : cs = ds := List.ext_getElem? fun i => by
        rcases Nat.lt_or_ge i cs.length with q | q
        · have q2 : i < ds.length := by omega
          rw [List.getElem?_eq_getElem q, List.getElem?_eq_getElem q2]
          have q3 : i < _ := hl ▸ q
          rw [ih i _ _ (List.getElem?_eq_getElem q) (List.getElem?_eq_getElem q3) (da i _ _ (List.getElem?_eq_getElem q2) (List.getElem?_eq_getElem q3))]
        · rw [List.getElem?_eq_none q, List.getElem?_eq_none (by omega)]
      rw [this]
/-- The first parts are proper. -/
def FNs (args : List Tr) (i s : Nat) : Prop := ∃ cs : List Nat, cs.length = i ∧ (∀ (j c : Nat) (t : Tr), cs[j]? = some c → args[j]? = some t → FN c t) ∧ cs.sum = s
theorem FNs.nil (args : List Tr) : FNs args 0 0 := ⟨[], rfl, fun j c t h => by simp at h, rfl⟩
theorem FNs.snoc {args : List Tr} {i s c : Nat} {t : Tr} (h : FNs args i s) (ht : args[i]? = some t) (k : FN c t) : FNs args (i + 1) (s + c) := by
  obtain ⟨cs, h1, h2, h3⟩ := h
  refine ⟨cs ++ [c], by simp [h1], fun j d u hj hu => ?_, by rw [List.sum_append, h3]; simp⟩
  rcases app_at hj with ⟨_, e⟩ | ⟨e, e2⟩
  · exact h2 j d u e hu
  · rw [e, h1, ht] at hu; cases hu; rw [e2]; exact k
theorem FNs.done {args : List Tr} {s : Nat} {kd n row : Int} {ops : List Nm} (h : FNs args args.length s) (k : HeadOk kd n row ops args.length) : FN (1 + ops.length + s) (.mk kd n row ops args) := by
  obtain ⟨cs, h1, h2, rfl⟩ := h
  exact .mk k cs h1 h2
theorem FNs.ge {args : List Tr} {i s c : Nat} {kd n row : Int} {ops : List Nm} (h : FNs args i s) (hi : i ≤ args.length) (k : FN c (.mk kd n row ops args)) : 1 + ops.length + s ≤ c ∧ ∀ t, args[i]? = some t → ∃ c1, FN c1 t ∧ 1 + ops.length + s + c1 ≤ c := by
  obtain ⟨cs, h1, h2, rfl⟩ := h
  cases k with
  | mk k ds dl da =>
    have e : cs = ds.take i := List.ext_getElem? fun j => by
      rcases Nat.lt_or_ge j cs.length with q | q
      · have q2 : j < ds.length := by omega
        have q3 : j < args.length := by omega
        rw [List.getElem?_take_of_lt (by omega), List.getElem?_eq_getElem q, List.getElem?_eq_getElem q2, (h2 j _ _ (List.getElem?_eq_getElem q) (List.getElem?_eq_getElem q3)).det (da j _ _ (List.getElem?_eq_getElem q2) (List.getElem?_eq_getElem q3))]
      · rw [List.getElem?_eq_none q, List.getElem?_eq_none (by rw [List.length_take]; omega)]
    have es : ds.sum = cs.sum + (ds.drop i).sum := by rw [e, ← List.sum_append, List.take_append_drop]
    refine ⟨by omega, fun t ht => ?_⟩
    have q3 := (List.getElem?_eq_some_iff.1 ht).1
    have q2 : i < ds.length := by omega
    refine ⟨ds[i], da i _ _ (List.getElem?_eq_getElem q2) ht, ?_⟩
    have : (ds.drop i).sum = ds[i] + (ds.drop (i + 1)).sum := by rw [List.drop_eq_getElem_cons q2]; rfl
    omega
theorem srt_step {ops : List Nm} (h : ∀ i a b, ops[i]? = some a → ops[i + 1]? = some b → leN a b = true) : Srt ops := by
  induction ops with
  | nil => exact .nil
  | cons a l ih =>
    have hl : Srt l := ih fun i x y hx hy => h (i + 1) x y (by simpa using hx) (by simpa using hy)
    refine .cons (fun b hb => ?_) hl
    cases l with
    | nil => cases hb
    | cons c l =>
      have hac := h 0 a c rfl rfl
      rcases List.mem_cons.1 hb with rfl | q
      · exact hac
      · have := List.rel_of_pairwise_cons hl q
        exact leN_trans hac this
theorem OpsOk.srt {ops : List Nm} (h : OpsOk ops) : Srt ops := srt_step h.2
/-- The two of a type: as it comes, and as it is meant. -/
structure Conv (t : Tr) (u : Ty) : Prop where
  mem : ∀ (w : World) (S : Nat → Prop) (p : Tv), TrIn w S p t → TyIn w S p u
  val : ∀ p, trC t p = tvC u p
theorem toNat_int {z : Int} (h : 0 ≤ z) : ∃ n : Nat, z = (n : Int) := ⟨z.toNat, by omega⟩
theorem conv_mk {kd n row : Nat} {ops : List Nm} {args : List Tr} {us : List Ty} (hl : us.length = args.length) (h2 : us.length ≤ 2) (ho : ops.length < 1000000000) (h : ∀ (i : Nat) (t : Tr) (u : Ty), args[i]? = some t → us[i]? = some u → Conv t u) : Conv (.mk kd n row ops args) (.mk kd n row ops us) := by
  refine ⟨fun w S p k => ?_, fun p => rfl⟩
  cases k with
  | mk _ ps hs hn hc hb hpl hm ht =>
    have tr : ∀ {i : Nat} {u : Ty}, us[i]? = some u → ∃ t, args[i]? = some t ∧ Conv t u := fun {i u} hu => by
      have := (List.getElem?_eq_some_iff.1 hu).1
      have e : args[i]? = some (args[i]'(by omega)) := List.getElem?_eq_getElem _
      exact ⟨_, e, h i _ _ e hu⟩
    refine .mk p ps hs hn ⟨hc.1, ho, h2⟩ (by omega) (by omega) (fun i q u h1 h3 => ?_) (fun i q u h1 h3 => ?_)
    · obtain ⟨t, e, cv⟩ := tr h3
      obtain ⟨a, ha, hS, hcs⟩ := hm i q t h1 e
      exact ⟨a, ha, hS, by rw [hcs, cv.val]⟩
    · obtain ⟨t, e, cv⟩ := tr h3
      exact cv.mem _ _ _ (ht i q t h1 e)
/-- What is proper is fine. -/
theorem FN.fine : ∀ {c : Nat} {t : Tr}, FN c t → c < 1000000000 → ∃ u, Fine c u ∧ Conv t u := by
  intro c
  induction c using Nat.strongRecOn with
  | _ c ih =>
    intro t h hcc
    cases h with
    | @mk kd n row ops args h cs hl ha =>
      obtain ⟨h1, h2, h3, h4, h5, h6⟩ := h
      obtain ⟨r, rfl⟩ := toNat_int h5.1
      have z0 : ((0 : Nat) : Int) = 0 := rfl
      by_cases k0 : kd = 0
      · subst k0
        obtain ⟨rfl, hr⟩ := h4 (by decide)
        obtain rfl : r = 0 := by omega
        obtain ⟨m, rfl⟩ := toNat_int (z := n) (by have := h2 rfl; omega)
        have e : args = [] := List.length_eq_zero_iff.1 (by have : ar 0 = 0 := rfl; omega)
        subst e
        obtain rfl : cs = [] := List.length_eq_zero_iff.1 hl
        exact ⟨_, .v m (by have := h2 rfl; omega), conv_mk (us := []) rfl (by simp) (by simp) fun i t u e => by simp at e⟩
      · obtain rfl := h3 k0
        by_cases kc : kd = 1 ∨ kd = 2 ∨ kd = 3
        · obtain ⟨rfl, hr⟩ := h4 (by omega)
          obtain rfl : r = 0 := by omega
          obtain ⟨d, rfl⟩ := toNat_int (z := kd) (by omega)
          have e : args = [] := List.length_eq_zero_iff.1 (by have : ar (d : Int) = 0 := if_pos (by omega); omega)
          subst e
          obtain rfl : cs = [] := List.length_eq_zero_iff.1 hl
          exact ⟨_, .c d (by omega), conv_mk (n := 0) (us := []) rfl (by simp) (by simp) fun i t u e => by simp at e⟩
        · by_cases k4 : kd = 4
          · subst k4
            obtain ⟨rfl, hr⟩ := h4 (by decide)
            obtain rfl : r = 0 := by omega
            have e : args.length = 1 := by have : ar 4 = 1 := rfl; omega
            match args, cs, e, hl with
            | [t], [c1], _, _ =>
              obtain ⟨u, f, cv⟩ := ih c1 (by simp) (ha 0 c1 t rfl rfl) (by simp at hcc; omega)
              refine ⟨.mk 4 0 0 [] [u], ?_, conv_mk (kd := 4) (n := 0) (us := [u]) rfl (by simp) (by simp) fun i t' u' e1 e2 => ?_⟩
              · have : 1 + ([] : List Nm).length + [c1].sum = c1 + 1 := by simp; omega
                rw [this]; exact .l f
              · cases i with
                | zero => cases e1; cases e2; exact cv
                | succ i => simp at e1
          · have k56 : kd = 5 ∨ kd = 6 := by
              rcases Decidable.em (kd = 5 ∨ kd = 6) with q | q
              · exact q
              · have : ar kd = -1 := by unfold ar; rw [if_neg (by omega), if_neg k4, if_neg q]
                omega
            have e : args.length = 2 := by have : ar kd = 2 := by { unfold ar; rw [if_neg (by omega), if_neg k4, if_pos k56] }; omega
            match args, cs, e, hl with
            | [t, t'], [c1, c2], _, _ =>
              obtain ⟨u, f, cv⟩ := ih c1 (by simp; omega) (ha 0 c1 t rfl rfl) (by simp at hcc; omega)
              obtain ⟨u', f', cv'⟩ := ih c2 (by simp; omega) (ha 1 c2 t' rfl rfl) (by simp at hcc; omega)
              have two : ∀ (d : Nat), Conv (.mk (d : Int) 0 (r : Int) ops [t, t']) (.mk d 0 r ops [u, u']) := fun d => conv_mk (n := 0) (us := [u, u']) rfl (by simp) (by omega) fun i x y e1 e2 => by
                match i with
                | 0 => cases e1; cases e2; exact cv
                | 1 => cases e1; cases e2; exact cv'
                | i + 2 => simp at e1
              rcases k56 with rfl | rfl
              · obtain ⟨rfl, hr⟩ := h4 (by decide)
                obtain rfl : r = 0 := by omega
                refine ⟨_, ?_, two 5⟩
                have : 1 + ([] : List Nm).length + [c1, c2].sum = c1 + c2 + 1 := by simp; omega
                rw [this]; exact .p f f'
              · refine ⟨_, ?_, two 6⟩
                have : 1 + ops.length + [c1, c2].sum = c1 + c2 + 1 + ops.length := by simp; omega
                rw [this]; exact .f r ops h6.1 h6.srt f f'
/-- The first names are in order. -/
def OpsTo (ops : List Nm) (i : Nat) : Prop := (∀ j o, j < i → ops[j]? = some o → o.data.toList ≠ []) ∧ ∀ j a b, j + 1 < i → ops[j]? = some a → ops[j + 1]? = some b → leN a b = true
theorem OpsTo.nil (ops : List Nm) : OpsTo ops 0 := ⟨fun j o h => by omega, fun j a b h => by omega⟩
theorem OpsTo.done {ops : List Nm} {i : Nat} (h : OpsTo ops i) (hi : ops.length ≤ i) : OpsOk ops := ⟨fun o ho => by
  obtain ⟨j, hj, rfl⟩ := List.mem_iff_getElem.1 ho
  exact h.1 j _ (by omega) (List.getElem?_eq_getElem hj), fun j a b h1 h2 => h.2 j a b (by have := (List.getElem?_eq_some_iff.1 h2).1; omega) h1 h2⟩
theorem em_iff (s : Nm) : (s.toList == (⟨#[]⟩ : ByteArray).toList) = true ↔ s.data.toList = [] := by
  rw [ByteArray.toList_eq, ByteArray.toList_eq]
  simp
theorem OpsTo.one {ops : List Nm} {s : Nm} (h : ops[0]? = some s) (k : s.data.toList ≠ []) : OpsTo ops 1 := ⟨fun j o hj ho => by
  obtain rfl : j = 0 := by omega
  rw [h] at ho; cases ho; exact k, fun j a b h => by omega⟩
theorem OpsTo.more {ops : List Nm} {i : Nat} {r s : Nm} (h : OpsTo ops (i + 1)) (h1 : ops[i]? = some r) (h2 : ops[i + 1]? = some s) (k : s.data.toList ≠ []) (hl : leN r s = true) : OpsTo ops (i + 1 + 1) := ⟨fun j o hj ho => by
  rcases Nat.lt_or_ge j (i + 1) with q | q
  · exact h.1 j o q ho
  · obtain rfl : j = i + 1 := by omega
    rw [h2] at ho; cases ho; exact k, fun j a b hj ha hb => by
  rcases Nat.lt_or_ge (j + 1) (i + 1) with q | q
  · exact h.2 j a b q ha hb
  · obtain rfl : j = i := by omega
    rw [h1] at ha; rw [h2] at hb; cases ha; cases hb; exact hl⟩
theorem OpsOk.at {ops : List Nm} (h : OpsOk ops) {i : Nat} {s : Nm} (k : ops[i]? = some s) : s.data.toList ≠ [] := h.1 s (List.mem_of_getElem? k)
/-- The word on a type: it has so many parts, or more than that. -/
structure Said (t : Tr) (left z : Int) (b : Bool) : Prop where
  y : b = true → ∃ c : Nat, z = (c : Int) ∧ FN c t ∧ (c : Int) ≤ left
  n : b = false → ∀ c, FN c t → left < (c : Int)
theorem said_no {t : Tr} {left z : Int} (h : ∀ c, FN c t → left < (c : Int)) : Said t left z false := ⟨(fun e => by cases e), fun _ => h⟩
theorem said_yes {t : Tr} {left : Int} {c : Nat} (h : FN c t) (k : (c : Int) ≤ left) : Said t left (c : Int) true := ⟨fun _ => ⟨c, rfl, h, k⟩, fun e => by cases e⟩
/-- The program's count: so many names there may be that it begins below. -/
def nw (na s : Nat) : Int := IntKind.i64.wrap ((1 : Int) + (na : Int)) + (s : Int)
theorem nw_cs {na : Nat} (s : Nat) (h : na < 9223372036854775808) : (na < 9223372036854775807 ∧ nw na s = ((1 + na + s : Nat) : Int)) ∨ (na = 9223372036854775807 ∧ nw na s = -9223372036854775808 + (s : Int)) := by
  rcases Nat.lt_or_ge na 9223372036854775807 with q | q
  · refine .inl ⟨q, ?_⟩
    unfold nw
    rw [IntWalk.i64_in _ (by omega)]
    omega
  · obtain rfl : na = 9223372036854775807 := by omega
    exact .inr ⟨rfl, rfl⟩
theorem nw_0 (na : Nat) : IntKind.i64.wrap ((1 : Int) + (na : Int)) = nw na 0 := by unfold nw; simp
theorem nw_sub {na s : Nat} {left : Int} (h : na < 9223372036854775808) (k : s = 0 ∨ ((1 + na + s : Nat) : Int) ≤ left) (h1 : 1 ≤ left) (h2 : left ≤ 300) : ∃ lw : Int, IntKind.i64.wrap (left - nw na s) = lw ∧ -9223372036854775808 ≤ lw ∧ ((na < 9223372036854775807 ∧ lw = left - ((1 + na + s : Nat) : Int)) ∨ (na = 9223372036854775807 ∧ lw < 1)) := by
  rcases nw_cs s h with ⟨q, e⟩ | ⟨q, e⟩
  · rw [e, IntWalk.i64_in _ (by omega)]
    exact ⟨_, rfl, by omega, .inl ⟨q, rfl⟩⟩
  · obtain rfl : s = 0 := by omega
    rw [e]
    refine ⟨_, rfl, ?_, .inr ⟨q, ?_⟩⟩ <;> (have : left = 300 - (300 - left) := by omega) <;> (simp [IntKind.wrap, IntKind.bits, IntKind.signed, Int.bmod]; omega)
theorem nw_add {na s c : Nat} {lw left : Int} (h : na < 9223372036854775808) (h2 : left ≤ 300) (k : (na < 9223372036854775807 ∧ lw = left - ((1 + na + s : Nat) : Int)) ∨ (na = 9223372036854775807 ∧ lw < 1)) (hc : (c : Int) ≤ lw) (hp : 1 ≤ c) : na < 9223372036854775807 ∧ ((1 + na + (s + c) : Nat) : Int) ≤ left ∧ IntKind.i64.wrap (nw na s + (c : Int)) = nw na (s + c) := by
  have a : na < 9223372036854775807 := by omega
  refine ⟨a, by omega, ?_⟩
  rcases nw_cs s h with ⟨q, e⟩ | ⟨q, e⟩
  · rcases nw_cs (s + c) h with ⟨q2, e2⟩ | ⟨q2, e2⟩
    · rw [e, e2, IntWalk.i64_in _ (by omega)]; omega
    · omega
  · omega
/-- The document's word. -/
structure SaidD (t : Tr) (deep : Nat) (z : Int) (b : Bool) : Prop where
  y : b = true → ∃ c : Nat, z = (c : Int) ∧ FN c t ∧ c ≤ 301
  n : b = false → ∀ c, FN c t → 300 < c + deep
  z : 0 ≤ z ∧ z ≤ 301 * (302 - (deep : Int))
theorem saidD_no {t : Tr} {deep : Nat} {z : Int} (h : ∀ c, FN c t → 300 < c + deep) (hz : 0 ≤ z ∧ z ≤ 301 * (302 - (deep : Int))) : SaidD t deep z false := ⟨(fun e => by cases e), (fun _ => h), hz⟩
theorem saidD_yes {t : Tr} {deep c : Nat} (h : FN c t) (hc : c ≤ 301) (hz : (c : Int) ≤ 301 * (302 - (deep : Int))) : SaidD t deep (c : Int) true := ⟨(fun _ => ⟨c, rfl, h, hc⟩), (fun e => by cases e), by omega, hz⟩
theorem HeadOk.of {kd u row : Int} {ops : List Nm} {len : Nat} (h1 : (len : Int) = ar kd) (h : (kd = 0 → 1 ≤ u ∧ u ≤ 1000000000) ∧ (kd ≠ 0 → u = 0) ∧ (kd ≠ 6 → ops.length = 0 ∧ row = 0) ∧ 0 ≤ row ∧ row ≤ 1000000000) (h6 : OpsOk ops) : HeadOk kd u row ops len :=
  ⟨h1, h.1, h.2.1, fun k => ⟨List.length_eq_zero_iff.1 (h.2.2.1 k).1, (h.2.2.1 k).2⟩, h.2.2.2, h6⟩
theorem HeadOk.lin {kd u row : Int} {ops : List Nm} {len : Nat} (h : HeadOk kd u row ops len) : (kd = 0 → 1 ≤ u ∧ u ≤ 1000000000) ∧ (kd ≠ 0 → u = 0) ∧ (kd ≠ 6 → ops.length = 0 ∧ row = 0) ∧ 0 ≤ row ∧ row ≤ 1000000000 :=
  ⟨h.v, h.n, fun k => ⟨by rw [(h.f k).1]; rfl, (h.f k).2⟩, h.row⟩
theorem fn_leaf {kd u row : Int} {ops : List Nm} {args : List Tr} (h : HeadOk kd u row ops args.length) (ha : args.length = 0) (ho : ops.length = 0) : FN 1 (.mk kd u row ops args) := by
  have e : args = [] := List.length_eq_zero_iff.1 ha
  subst e
  have := FNs.done (FNs.nil []) h
  rwa [ho] at this
theorem ops_nil {ops : List Nm} (h : ops.length = 0) : OpsOk ops := by
  have e : ops = [] := List.length_eq_zero_iff.1 h
  subst e
  exact (OpsTo.nil []).done (Nat.le_refl _)
theorem nm_cases (s : Nm) : s.data.toList = [] ∨ s.data.toList ≠ [] := Decidable.em _
/-- Where one stands among the names. -/
theorem ops_cs {ops : List Nm} {i : Nat} (h : i ≤ ops.length) : ops.length ≤ i ∨ (i = 0 ∧ ∃ s, ops[0]? = some s ∧ s.data.toList = []) ∨ (i = 0 ∧ ∃ s, ops[0]? = some s ∧ s.data.toList ≠ []) ∨
    (∃ j r s, i = j + 1 ∧ ops[j]? = some r ∧ ops[j + 1]? = some s ∧ s.data.toList = []) ∨ (∃ j r s, i = j + 1 ∧ ops[j]? = some r ∧ ops[j + 1]? = some s ∧ s.data.toList ≠ [] ∧ leN r s = false) ∨
    (∃ j r s, i = j + 1 ∧ ops[j]? = some r ∧ ops[j + 1]? = some s ∧ s.data.toList ≠ [] ∧ leN r s = true) := by
  rcases Nat.lt_or_ge i ops.length with q | q
  · cases i with
    | zero => rcases nm_cases ops[0] with k | k
              · exact .inr (.inl ⟨rfl, _, List.getElem?_eq_getElem q, k⟩)
              · exact .inr (.inr (.inl ⟨rfl, _, List.getElem?_eq_getElem q, k⟩))
    | succ j =>
      have q2 : j < ops.length := by omega
      rcases nm_cases ops[j + 1] with k | k
      · exact .inr (.inr (.inr (.inl ⟨j, _, _, rfl, List.getElem?_eq_getElem q2, List.getElem?_eq_getElem q, k⟩)))
      · cases hl : leN ops[j] ops[j + 1] with
        | false => exact .inr (.inr (.inr (.inr (.inl ⟨j, _, _, rfl, List.getElem?_eq_getElem q2, List.getElem?_eq_getElem q, k, hl⟩))))
        | true => exact .inr (.inr (.inr (.inr (.inr ⟨j, _, _, rfl, List.getElem?_eq_getElem q2, List.getElem?_eq_getElem q, k, hl⟩))))
  · exact .inl q
theorem bl_leN (r s : Nm) : Go.Op.bytesLess s.toList r.toList = !leN r s := by
  rw [bLess_eq, ByteArray.toList_eq, ByteArray.toList_eq]
  cases h : leN r s with
  | true => exact decide_eq_false (List.not_lt.2 (leN_iff.1 h))
  | false => exact decide_eq_true (List.not_le.1 fun k => by rw [leN_iff.2 k] at h; cases h)
theorem em_t {s : Nm} (h : s.data.toList = []) : Value.bool (s.toList == (⟨#[]⟩ : ByteArray).toList) = .bool true := by rw [(em_iff s).2 h]
theorem em_f {s : Nm} (h : s.data.toList ≠ []) : Value.bool (s.toList == (⟨#[]⟩ : ByteArray).toList) = .bool false := by
  cases e : (s.toList == (⟨#[]⟩ : ByteArray).toList) with
  | true => exact absurd ((em_iff s).1 e) h
  | false => rfl
theorem dT {p : Prop} [Decidable p] (h : p) : Value.bool (decide p) = .bool true := by rw [decide_eq_true h]
theorem dF {p : Prop} [Decidable p] (h : ¬ p) : Value.bool (decide p) = .bool false := by rw [decide_eq_false h]
theorem eT {a b : Int} (h : a = b) : Value.bool (a == b) = .bool true := by rw [h]; simp
theorem eF {a b : Int} (h : ¬ a = b) : Value.bool (a == b) = .bool false := by simp [h]
theorem nT {a b : Int} (h : ¬ a = b) : Value.bool (a != b) = .bool true := by simp [h]
theorem nF {a b : Int} (h : a = b) : Value.bool (a != b) = .bool false := by rw [h]; simp
theorem ltT {r s : Nm} (h : leN r s = false) : Value.bool (Go.Op.bytesLess s.toList r.toList) = .bool true := by rw [bl_leN, h]; rfl
theorem ltF {r s : Nm} (h : leN r s = true) : Value.bool (Go.Op.bytesLess s.toList r.toList) = .bool false := by rw [bl_leN, h]; rfl
theorem gtT {r s : Nm} (h : leN r s = false) : Value.bool (!(Go.Op.bytesLess r.toList s.toList || (r.toList == s.toList))) = .bool true := by rw [← leN_eq, h]; rfl
theorem gtF {r s : Nm} (h : leN r s = true) : Value.bool (!(Go.Op.bytesLess r.toList s.toList || (r.toList == s.toList))) = .bool false := by rw [← leN_eq, h]; rfl
end Go.Slv
