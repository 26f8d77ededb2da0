/- How the program's types lie in memory (78: the struct of a type, 80: of a row, @P@: a pointer to a type). -/
import Derived.Test.YtfkkocjheeoobaaSx4
import Derived.Test.YtfkkocjheeoobaaSf
set_option linter.unusedVariables false
set_option linter.unusedSimpArgs false
set_option linter.unusedVariables false
set_option linter.unusedSimpArgs false
namespace Go.Slv
open Go.RowKit Go.Sx Go.Inf Go.Gx
/-! ### Banks: blocks of one type, some of them taken out -/
def bankI (ty : Nat) (T : List Nat) (C : Nat → List Value) (hs : List Nat) : Sx.Item := .abs (fun c => ∃ i : Nat, T[i]? = some c ∧ i ∉ hs) (fun w => (∀ (i b : Nat), T[i]? = some b → i ∉ hs → Has w b (.cells (C i).toArray ty)) ∧ ∀ (i j b : Nat), T[i]? = some b → T[j]? = some b → i ∉ hs → j ∉ hs → i = j)
section
variable {w0 w : World} {L0 L : List Sx.Item} {ty n b : Nat} {T hs : List Nat} {C C' : Nat → List Value}
theorem bank_holds (h1 : ∀ (i b : Nat), T[i]? = some b → i ∉ hs → Has w b (.cells (C i).toArray ty)) (h2 : ∀ (i j b : Nat), T[i]? = some b → T[j]? = some b → i ∉ hs → j ∉ hs → i = j) : (bankI ty T C hs).holds w :=
  ⟨⟨h1, h2⟩, fun _ ⟨i, hi, hn⟩ => (h1 i _ hi hn).lt, fun _ _ _ hk h => ⟨fun i b hi hn => (hk b ⟨i, hi, hn⟩).trans (h.1 i b hi hn), h.2⟩⟩
theorem bank_has (h : (bankI ty T C hs).holds w) (hb : T[n]? = some b) (hn : n ∉ hs) : Has w b (.cells (C n).toArray ty) := h.1.1 n b hb hn
theorem bank_cb (h : (bankI ty T C hs).holds w) (hb : T[n]? = some b) (hn : n ∉ hs) : Cb w b := ⟨_, _, bank_has h hb hn⟩
theorem bank_inj (h : (bankI ty T C hs).holds w) {i j : Nat} (hi : T[i]? = some b) (hj : T[j]? = some b) (ni : i ∉ hs) (nj : j ∉ hs) : i = j := h.1.2 i j b hi hj ni nj
/-- A block is taken out. -/
theorem bank_take (H : Hs w0 L0 w L) (i : Nat) (hi : picked [i] L = some [bankI ty T C hs]) (hb : T[n]? = some b) (hn : n ∉ hs) {v : List Value} (hv : C n = v) :
    Hs w0 L0 w (.blk b (.cells v.toArray ty) :: bankI ty T C (n :: hs) :: rest [i] L) := by
  subst hv
  have k : Hs w0 L0 w (bankI ty T C hs :: rest [i] L) := H.perm (picked_perm hi)
  have hh := k.at 0 rfl
  have sp : Sp w [.blk b (.cells (C n).toArray ty), bankI ty T C (n :: hs)] := by
    refine ⟨fun it hit => ?_, List.pairwise_cons.2 ⟨fun it hit => ?_, List.pairwise_singleton _ _⟩⟩
    · rcases List.mem_cons.1 hit with rfl | q
      · exact hh.1.1 n b hb hn
      · rw [List.mem_singleton.1 q]
        exact bank_holds (fun i b hi h => hh.1.1 i b hi fun q => h (.tail _ q)) (fun i j b hi hj h1 h2 => hh.1.2 i j b hi hj (fun q => h1 (.tail _ q)) fun q => h2 (.tail _ q))
    · rw [List.mem_singleton.1 hit]
      rintro _ c hc ⟨j, hj, hnj⟩
      have hc : c = b := hc
      subst hc
      exact hnj (by rw [hh.1.2 j n c hj hb (fun q => hnj (.tail _ q)) hn]; exact .head _)
  have k2 := k.as 0 (comp (fun L => L = [.blk b (.cells (C n).toArray ty), bankI ty T C (n :: hs)]) (fpA [.blk b (.cells (C n).toArray ty), bankI ty T C (n :: hs)])) rfl rfl (comp_holds sp rfl (fun it hit => by
      rcases List.mem_cons.1 hit with rfl | q
      · rfl
      · rw [List.mem_singleton.1 q]; rfl)) (fun c ⟨it, hit, hc⟩ => by
      rcases List.mem_cons.1 hit with rfl | q
      · have hc : c = b := hc
        subst hc; exact ⟨n, hb, hn⟩
      · rw [List.mem_singleton.1 q] at hc
        obtain ⟨j, hj, hnj⟩ := hc
        exact ⟨j, hj, fun q => hnj (.tail _ q)⟩)
  obtain ⟨L', rfl, k3⟩ := k2.opn 0 rfl
  exact k3
/-- A block is put back; what it says may have changed. -/
theorem bank_put (H : Hs w0 L0 w L) (I : List Nat) {v : List Value} (hp : picked I L = some [.blk b (.cells v.toArray ty), bankI ty T C (n :: hs)]) (hb : T[n]? = some b) (hn : n ∉ hs) (hv : C' n = v) (hC : ∀ i, i ≠ n → i < T.length → C' i = C i) :
    Hs w0 L0 w (bankI ty T C' hs :: rest I L) := by
  subst hv
  have sp := (H.pick I hp).sp
  have h1 : Has w b (.cells (C' n).toArray ty) := sp.all _ (.head _)
  have h2 : (bankI ty T C (n :: hs)).holds w := sp.all _ (.tail _ (.head _))
  have ap : ∀ j : Nat, T[j]? = some b → j ∉ hs → j = n := fun j hj hnj => by
    by_cases e : j = n
    · exact e
    · exact absurd ⟨j, hj, fun q => (List.mem_cons.1 q).elim e hnj⟩ ((List.pairwise_cons.1 sp.dis).1 _ (.head _) rfl b rfl)
  have nm : ∀ {i : Nat}, i ≠ n → i ∉ hs → i ∉ n :: hs := fun h1 h2 q => (List.mem_cons.1 q).elim h1 h2
  have k := H.cls I hp (shape := fun L => L = [.blk b (.cells (C' n).toArray ty), bankI ty T C (n :: hs)]) rfl rfl
  refine k.as 0 (bankI ty T C' hs) rfl rfl (bank_holds (fun i c hi hni => ?_) (fun i j c hi hj hni hnj => ?_)) (fun c ⟨i, hi, hni⟩ => ?_)
  · by_cases e : i = n
    · subst e; rw [hb] at hi; cases hi; exact h1
    · rw [hC i e (List.getElem?_eq_some_iff.1 hi).1]; exact h2.1.1 i c hi (nm e hni)
  · by_cases e : i = n
    · subst e; rw [hb] at hi; cases hi; exact (ap j hj hnj).symm
    · by_cases e2 : j = n
      · subst e2; rw [hb] at hj; cases hj; exact ap i hi hni
      · exact h2.1.2 i j c hi hj (nm e hni) (nm e2 hnj)
  · by_cases e : i = n
    · subst e; rw [hb] at hi; cases hi; exact ⟨_, .head _, rfl⟩
    · exact ⟨_, .tail _ (.head _), i, hi, nm e hni⟩
/-- A new block. -/
theorem bank_add (H : Hs w0 L0 w L) (I : List Nat) {v : List Value} (hp : picked I L = some [.blk b (.cells v.toArray ty), bankI ty T C hs]) (hv : C' T.length = v) (hC : ∀ i, i < T.length → C' i = C i) :
    Hs w0 L0 w (bankI ty (T ++ [b]) C' hs :: rest I L) := by
  subst hv
  have sp := (H.pick I hp).sp
  have h1 : Has w b (.cells (C' T.length).toArray ty) := sp.all _ (.head _)
  have h2 : (bankI ty T C hs).holds w := sp.all _ (.tail _ (.head _))
  have ap : ∀ j : Nat, T[j]? = some b → j ∉ hs → False := fun j hj hnj => (List.pairwise_cons.1 sp.dis).1 _ (.head _) rfl b rfl ⟨j, hj, hnj⟩
  have k := H.cls I hp (shape := fun L => L = [.blk b (.cells (C' T.length).toArray ty), bankI ty T C hs]) rfl rfl
  refine k.as 0 (bankI ty (T ++ [b]) C' hs) rfl rfl (bank_holds (fun i c hi hni => ?_) (fun i j c hi hj hni hnj => ?_)) (fun c ⟨i, hi, hni⟩ => ?_)
  · rcases app_at hi with ⟨q, e⟩ | ⟨rfl, rfl⟩
    · rw [hC i q]; exact h2.1.1 i c e hni
    · exact h1
  · rcases app_at hi with ⟨q, e⟩ | ⟨rfl, rfl⟩ <;> rcases app_at hj with ⟨q2, e2⟩ | ⟨rfl, e2⟩
    · exact h2.1.2 i j c e e2 hni hnj
    · subst e2; exact (ap i e hni).elim
    · exact (ap j e2 hnj).elim
    · rfl
  · rcases app_at hi with ⟨q, e⟩ | ⟨rfl, rfl⟩
    · exact ⟨_, .tail _ (.head _), i, e, hni⟩
    · exact ⟨_, .head _, rfl⟩
end
theorem nz0 {n : Nat} : n ∉ ([] : List Nat) := List.not_mem_nil
theorem nz1 {n m : Nat} (h : n ≠ m) : n ∉ [m] := by simpa using h
/-! ### Lists of pointers -/
def Ptrs (w : World) (S : Nat → Prop) (A : Option Addr) (l : List Nat) : Prop := ∀ (i b : Nat), l[i]? = some b → ∃ a, A = some a ∧ S a.block ∧ w.cells? 0 (a.add (i * 1)) 1 = some [bp b]
theorem Ptrs.keep {w w' : World} {S : Nat → Prop} {A : Option Addr} {l : List Nat} (h : Ptrs w S A l) (k : ∀ c, S c → w'.heap[c]? = w.heap[c]?) : Ptrs w' S A l := fun i s hs => by
  obtain ⟨a, ha, hS, hc⟩ := h i s hs
  exact ⟨a, ha, hS, cells_same hc (by rw [add_block]; exact k _ hS)⟩
theorem Ptrs.mono {w : World} {S S' : Nat → Prop} {A : Option Addr} {l : List Nat} (h : Ptrs w S A l) (k : ∀ c, S c → S' c) : Ptrs w S' A l := fun i s hs => by
  obtain ⟨a, ha, hS, hc⟩ := h i s hs
  exact ⟨a, ha, k _ hS, hc⟩
def bps (l : List Nat) : List Value := l.map bp
theorem bps_app (l : List Nat) (b : Nat) : bps l ++ [bp b] = bps (l ++ [b]) := by simp [bps]
theorem own_ptrs {w : World} {e n cap : Nat} {A : Option Addr} {l : List Nat} (h : w.ownsRow 0 e 1 (.slice A n cap) n (bps l)) : Ptrs w (fun c => (Value.slice A n cap).ownBlock = some c) A l := by
  intro i s hs
  have hn : l.length = n := by have := h.1; simpa [bps] using this
  have hi : i < n := by rw [← hn]; exact (List.getElem?_eq_some_iff.1 hs).1
  rcases h.2 with ⟨_, h0⟩ | ⟨g, cap', cur, hv, _, hg, hnc, _, hcs, ht⟩
  · omega
  · injection hv with h1 h2 h3
    subst h1 h3
    refine ⟨_, rfl, rfl, ?_⟩
    have hc : cur[i]? = some (bp s) := by
      have : (cur.toList.take (n * 1))[i]? = some (bp s) := by rw [ht, bps, List.getElem?_map, hs]; rfl
      rw [List.getElem?_take, if_pos (by omega)] at this
      simpa using this
    have : (⟨g, 0, none⟩ : Addr).add (i * 1) = ⟨g, i, none⟩ := by unfold Addr.add; split <;> simp_all
    rw [this]
    refine ChangeShapes.cells?_of (Nat.zero_le _) rfl (fun j hj => ?_)
    have hj0 : j = 0 := by simpa using hj
    subst hj0
    rw [Nat.add_zero, cell_of_row w g i cur e (0, 0) hg]
    simpa using hc
def KidsAt (w : World) (S : Nat → Prop) (as : List Slot) (ks : List (List Nat)) : Prop := as.length = ks.length ∧ ∀ (r : Nat) (s : Slot) (l : List Nat), as[r]? = some s → ks[r]? = some l → s.2.1 = l.length ∧ Ptrs w S s.1 l
def kidsI (S : Nat → Prop) (as : List Slot) (ks : List (List Nat)) : Sx.Item := .abs S (fun w => KidsAt w S as ks)
theorem kidsI_loc (S : Nat → Prop) (as : List Slot) (ks : List (List Nat)) : Sx.Loc S (fun w => KidsAt w S as ks) := fun _ _ _ hk h => ⟨h.1, fun r s l h1 h2 => ⟨(h.2 r s l h1 h2).1, (h.2 r s l h1 h2).2.keep hk⟩⟩
theorem kids_add {w0 w : World} {L0 L : List Sx.Item} (H : Hs w0 L0 w L) (I : List Nat) {S : Nat → Prop} {sa : List Slot} {ks : List (List Nat)} {e n cap : Nat} {A : Option Addr} {l : List Nat} (hp : picked I L = some [kidsI S sa ks, .own e 1 A cap n (bps l)]) :
    ∃ S', Hs w0 L0 w (kidsI S' (sa ++ [(A, n, cap)]) (ks ++ [l]) :: rest I L) := by
  have h1 := H.pick I hp
  have a := (h1.at 0 rfl).1
  have b := own_ptrs (h1.at 1 rfl)
  have hn : n = l.length := by have := (h1.at 1 rfl).1; simp [bps] at this; omega
  have k := H.cls I hp (shape := fun L => L = [kidsI S sa ks, .own e 1 A cap n (bps l)]) rfl rfl
  refine ⟨fun q => S q ∨ (Value.slice A n cap).ownBlock = some q, k.as 0 (kidsI (fun q => S q ∨ (Value.slice A n cap).ownBlock = some q) (sa ++ [(A, n, cap)]) (ks ++ [l])) rfl rfl ⟨⟨by simp [a.1], fun r s l' hs hl => ?_⟩, fun q hq => ?_, kidsI_loc _ _ _⟩ (fun q hq => ?_)⟩
  · rcases app_at hs with ⟨q, e⟩ | ⟨rfl, rfl⟩
    · rw [List.getElem?_append_left (by rw [← a.1]; exact q)] at hl
      exact ⟨(a.2 r s l' e hl).1, (a.2 r s l' e hl).2.mono (fun _ h => .inl h)⟩
    · rw [a.1] at hl
      simp at hl
      subst hl
      exact ⟨hn, b.mono (fun _ h => .inr h)⟩
  · rcases hq with q' | q'
    · exact (h1.at 0 rfl).2.1 q q'
    · exact own_lt (h1.at 1 rfl) q'
  · rcases hq with q' | q'
    · exact ⟨_, .head _, q'⟩
    · exact ⟨_, .tail _ (.head _), q'⟩
/-! ### The graph -/
def pB : Option Nat → Value
  | none => .pointer none
  | some b => bp b
structure Pm where
  as : List Slot
  il : List (Option Nat)
  sl : List Slot
  S1 : Nat → Prop
  S2 : Nat → Prop
def slD (l : List Slot) (i : Nat) : Slot := (l[i]?).getD (none, 0, 0)
def oB (T : List Nat) (o : Option Nat) : Option Nat := o.bind fun m => T[m]?
def rowB (R : List Nat) (g : G) (n : Nat) : Option Nat := if (g.kind[n]?).getD 0 = 6 then R[(g.row[n]?).getD 0]? else none
def tlB (R : List Nat) : Option Nat → Option Nat
  | some (q + 1) => R[q + 1]?
  | _ => none
def nxD (g : G) (r : Nat) : Option Nat := (g.next[r]?).getD none
def ndC (T R : List Nat) (g : G) (m : Pm) (n : Nat) : List Value := [.int .i64 (((g.kind[n]?).getD 0 : Nat) : Int), slV (slD m.as n), pB (rowB R g n), pB (oB T ((m.il[n]?).getD none))]
def rwC (R : List Nat) (g : G) (m : Pm) (r : Nat) : List Value := [slV (slD m.sl r), pB (tlB R (nxD g r)), .bool (nxD g r).isNone]
def ksO (T : List Nat) (a b : Option Nat) : List Nat := (a.toList ++ b.toList).map fun p => (T[p]?).getD 0
def ksL (T : List Nat) (g : G) : List (List Nat) := (List.range g.kind.length).map fun n => ksO T ((g.a[n]?).getD none) ((g.b[n]?).getD none)
abbrev pL (T R : List Nat) (g : G) (m : Pm) : List Sx.Item := [bankI 78 T (ndC T R g m) [], kidsI m.S1 m.as (ksL T g), bankI 80 R (rwC R g m) [0], rowsI m.S2 m.sl g.ops]
structure PR (T R : List Nat) (g : G) (m : Pm) : Prop where
  lT : T.length = g.kind.length
  lR : R.length = g.next.length
  la : g.a.length = g.kind.length
  lb : g.b.length = g.kind.length
  lr : g.row.length = g.kind.length
  ll : g.link.length = g.kind.length
  li : m.il.length = g.link.length
  en : ∀ x e, En g.link x e → En m.il x e
  al : All g.link
  ka : ∀ (n p : Nat), g.a[n]? = some (some p) ∨ g.b[n]? = some (some p) → p < g.kind.length
  kr : ∀ n : Nat, g.kind[n]? = some 6 → ∃ r, g.row[n]? = some r ∧ r < g.next.length ∧ r ≠ 0
  kn : ∀ r q : Nat, g.next[r]? = some (some (q + 1)) → q + 1 < g.next.length
  z : 0 < g.next.length
  lo : g.ops.length = g.next.length
  ar : ∀ n k : Nat, g.kind[n]? = some k → (k ≠ 4 ∧ k ≠ 5 ∧ k ≠ 6 ∧ g.a[n]? = some none ∧ g.b[n]? = some none) ∨ (k = 4 ∧ ∃ p, g.a[n]? = some (some p) ∧ g.b[n]? = some none) ∨ ((k = 5 ∨ k = 6) ∧ ∃ p q, g.a[n]? = some (some p) ∧ g.b[n]? = some (some q))
def PI (S : Nat → Prop) (Z : List Slot) (T R : List Nat) (g : G) : Sx.Item := comp (fun L => ∃ m, PR T R g m ∧ m.as = Z ∧ L = pL T R g m) S
section
variable {w0 w : World} {L0 L : List Sx.Item}
theorem P_open (H : Hs w0 L0 w L) (i : Nat) {S : Nat → Prop} {Z : List Slot} {T R : List Nat} {g : G} (hi : picked [i] L = some [PI S Z T R g]) : ∃ m, PR T R g m ∧ m.as = Z ∧ Hs w0 L0 w (pL T R g m ++ rest [i] L) := by
  obtain ⟨L', ⟨m, hm, hz, rfl⟩, h⟩ := H.opn i hi
  exact ⟨m, hm, hz, h⟩
theorem P_close (H : Hs w0 L0 w L) (I : List Nat) {Z : List Slot} {T R : List Nat} {g : G} (m : Pm) (hm : PR T R g m) (hz : m.as = Z) (hi : picked I L = some (pL T R g m)) : ∃ S, Hs w0 L0 w (PI S Z T R g :: rest I L) :=
  ⟨_, H.cls I hi ⟨m, hm, hz, rfl⟩ rfl⟩
/-- What is known of a node that is taken out. -/
theorem P_nd {T R : List Nat} {g : G} {m : Pm} (hm : PR T R g m) (h0 : (kidsI m.S1 m.as (ksL T g)).holds w) {n : Nat} (hn : n < g.kind.length) : ∃ A na ca, m.as[n]? = some (A, na, ca) ∧ na = (ksO T ((g.a[n]?).getD none) ((g.b[n]?).getD none)).length := by
  have h := h0.1
  have l : m.as.length = g.kind.length := by rw [h.1]; simp [ksL]
  obtain ⟨⟨A, na, ca⟩, h1⟩ : ∃ s, m.as[n]? = some s := ⟨_, List.getElem?_eq_getElem (by omega)⟩
  exact ⟨A, na, ca, h1, (h.2 n _ _ h1 (by simp [ksL, hn])).1⟩
theorem ndC_eq {T R : List Nat} {g : G} {m : Pm} {n kd na ca : Nat} {A : Option Addr} {rb io : Option Nat} (hk : g.kind[n]? = some kd) (ha : m.as[n]? = some (A, na, ca)) (hr : rowB R g n = rb) (hi : oB T ((m.il[n]?).getD none) = io) :
    ndC T R g m n = [.int .i64 (kd : Int), .slice A na ca, pB rb, pB io] := by unfold ndC slD; rw [hk, ha, hr, hi]; rfl
theorem rowB_no {R : List Nat} {g : G} {n kd : Nat} (hk : g.kind[n]? = some kd) (h : kd ≠ 6) : rowB R g n = none := by unfold rowB; rw [hk]; simp [h]
theorem rowB_yes {R : List Nat} {g : G} {n r : Nat} (hk : g.kind[n]? = some 6) (h : g.row[n]? = some r) : rowB R g n = R[r]? := by unfold rowB; rw [hk, h]; simp
theorem il_none {T : List Nat} {m : Pm} {n : Nat} (h : m.il[n]? = some none) : oB T ((m.il[n]?).getD none) = none := by rw [h]; rfl
theorem il_some {T : List Nat} {m : Pm} {n q b : Nat} (h : m.il[n]? = some (some q)) (hb : T[q]? = some b) : oB T ((m.il[n]?).getD none) = some b := by rw [h]; exact hb
end
/-! ### The way to what a node has become -/
inductive EnK (is : List (Option Nat)) : Nat → Nat → Nat → Prop
  | here {n} (h : is[n]? = some none) : EnK is 0 n n
  | on {k n m e} (h : is[n]? = some (some m)) (q : EnK is k m e) : EnK is (k + 1) n e
theorem En.k {is : List (Option Nat)} {n e : Nat} (h : En is n e) : ∃ k, EnK is k n e := by
  induction h with
  | here h => exact ⟨0, .here h⟩
  | on h _ ih => obtain ⟨k, hk⟩ := ih; exact ⟨k + 1, .on h hk⟩
theorem EnK.en {is : List (Option Nat)} {k n e : Nat} (h : EnK is k n e) : En is n e := by
  induction h with
  | here h => exact .here h
  | on h _ ih => exact .on h ih
theorem EnK.cs {is : List (Option Nat)} {k n e : Nat} (h : EnK is k n e) : (k = 0 ∧ is[n]? = some none ∧ n = e) ∨ ∃ j m, k = j + 1 ∧ is[n]? = some (some m) ∧ EnK is j m e := by
  cases h with
  | here h => exact .inl ⟨rfl, h, rfl⟩
  | on h k => exact .inr ⟨_, _, rfl, h, k⟩
theorem EnK.short {is : List (Option Nat)} {n m e : Nat} (hn : is[n]? = some (some m)) (hm : En is n e) {k x y : Nat} (h : EnK is k x y) : ∃ j, j ≤ k ∧ EnK (is.set n (some e)) j x y := by
  have he : e ≠ n := fun q => by have := hm.last; rw [q, hn] at this; cases this
  induction h with
  | @here x hx =>
    refine ⟨0, Nat.le_refl _, .here ?_⟩
    rw [List.getElem?_set_ne (fun q => by rw [← q, hn] at hx; cases hx)]; exact hx
  | @on k x z y hx hz ih =>
    by_cases q : x = n
    · subst q
      have hl := (List.getElem?_eq_some_iff.1 hn).1
      have e2 : y = e := (En.on hx hz.en).det hm
      subst e2
      refine ⟨1, by omega, .on (m := y) (by rw [List.getElem?_set_self hl]) (.here ?_)⟩
      rw [List.getElem?_set_ne (Ne.symm he)]; exact hm.last
    · obtain ⟨j, hj, hk⟩ := ih
      exact ⟨j + 1, by omega, .on (by rw [List.getElem?_set_ne (Ne.symm q)]; exact hx) hk⟩
/-- The way there is cut short. -/
theorem PR.short {T R : List Nat} {g : G} {m : Pm} (hm : PR T R g m) {n c e : Nat} (hn : m.il[n]? = some (some c)) (he : En m.il n e) : PR T R g { m with il := m.il.set n (some e) } :=
  ⟨hm.lT, hm.lR, hm.la, hm.lb, hm.lr, hm.ll, by show (m.il.set n (some e)).length = _; rw [List.length_set]; exact hm.li, fun x z h => En.short hn he (hm.en x z h), hm.al, hm.ka, hm.kr, hm.kn, hm.z, hm.lo, hm.ar⟩
theorem ndC_il {T R : List Nat} {g : G} {m : Pm} {n i : Nat} {o : Option Nat} (h : i ≠ n) : ndC T R g { m with il := m.il.set n o } i = ndC T R g m i := by unfold ndC; rw [List.getElem?_set_ne (Ne.symm h)]
theorem il_set {T : List Nat} {m : Pm} {n e b : Nat} (hl : n < m.il.length) (hb : T[e]? = some b) : oB T (((m.il.set n (some e))[n]?).getD none) = some b := by rw [List.getElem?_set_self hl]; exact hb
theorem PR.il_lt {T R : List Nat} {g : G} {m : Pm} (hm : PR T R g m) {n q : Nat} (h : En m.il n q) : n < T.length ∧ q < T.length := by
  have a := h.lt
  have b := h.lt2
  rw [hm.li, hm.ll] at a b
  rw [hm.lT]; exact ⟨a, b⟩
theorem tb {T : List Nat} {n : Nat} (h : n < T.length) : ∃ b, T[n]? = some b := ⟨_, List.getElem?_eq_getElem h⟩
end Go.Slv
