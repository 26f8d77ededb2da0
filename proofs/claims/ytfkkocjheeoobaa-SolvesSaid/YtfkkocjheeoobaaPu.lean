/- The program's count: what it unfolds to; what it has seen, in memory. -/
import Derived.Test.YtfkkocjheeoobaaSw4
import Derived.Test.YtfkkocjheeoobaaPs
import Derived.Test.YtfkkocjheeoobaaGx
set_option linter.unusedVariables false
set_option linter.unusedSimpArgs false
set_option linter.unusedVariables false
set_option linter.unusedSimpArgs false
namespace Go.Slv
open Go.RowKit Go.Sx Go.Inf Go.Gx
def ckids (k : Nat) (g : G) : List Nat → Nat → Seen → Bool → Option (Nat × Seen × Bool)
  | [], c, s, fl => some (c, s, fl)
  | p :: r, c, s, fl => match cnt k g p s fl with
    | some (j, s, fl) => ckids k g r (c + j) s fl
    | none => none
theorem ckids_ge {k : Nat} {g : G} : ∀ {l : List Nat} {c c2 : Nat} {s s2 : Seen} {fl f2 : Bool}, ckids k g l c s fl = some (c2, s2, f2) → c ≤ c2
  | [], _, _, _, _, _, _, h => by cases h; exact Nat.le_refl _
  | p :: r, c, c2, s, s2, fl, f2, h => by
    unfold ckids at h
    split at h <;> try contradiction
    have := ckids_ge h
    omega
theorem ckids_step {k i c c2 : Nat} {g : G} {K : List Nat} {s s2 : Seen} {fl f2 : Bool} (h : ckids k g (K.drop i) c s fl = some (c2, s2, f2)) (hi : i < K.length) : ∃ p j s3 f3, K[i]? = some p ∧ cnt k g p s fl = some (j, s3, f3) ∧ ckids k g (K.drop (i + 1)) (c + j) s3 f3 = some (c2, s2, f2) ∧ c + j ≤ c2 := by
  rw [List.drop_eq_getElem_cons hi] at h
  unfold ckids at h
  split at h <;> try contradiction
  rename_i j s3 f3 h1
  exact ⟨K[i], j, s3, f3, by simp [hi], h1, h, ckids_ge h⟩
theorem ckids_end {k i c c2 : Nat} {g : G} {K : List Nat} {s s2 : Seen} {fl f2 : Bool} (h : ckids k g (K.drop i) c s fl = some (c2, s2, f2)) (hi : K.length ≤ i) : c = c2 ∧ s = s2 ∧ fl = f2 := by
  rw [List.drop_of_length_le hi] at h; cases h; exact ⟨rfl, rfl, rfl⟩
theorem ckids_app {k : Nat} {g : G} : ∀ {l m : List Nat} {c c1 : Nat} {s s1 : Seen} {fl f1 : Bool}, ckids k g l c s fl = some (c1, s1, f1) → ckids k g (l ++ m) c s fl = ckids k g m c1 s1 f1
  | [], _, _, _, _, _, _, _, h => by cases h; rfl
  | p :: r, m, c, c1, s, s1, fl, f1, h => by
    unfold ckids at h
    split at h <;> try contradiction
    rename_i h1
    show ckids k g (p :: (r ++ m)) c s fl = _
    rw [ckids, h1]
    exact ckids_app h
theorem ckid_list {k c c1 : Nat} {g : G} {x : Option (Option Nat)} {s s1 : Seen} {fl f1 : Bool} (h : ckid (cnt k g) x c s fl = some (c1, s1, f1)) : ckids k g (x.getD none).toList c s fl = some (c1, s1, f1) := by
  unfold ckid at h
  split at h <;> try contradiction
  · exact h
  · split at h <;> try contradiction
    rename_i h1
    cases h
    simp [ckids, h1]
theorem own_cases {k n j kd : Nat} {g : G} (h : ownX k g n = some j) (hk : g.kind[n]? = some kd) : (kd ≠ 6 ∧ 0 = j) ∨ (kd = 6 ∧ ∃ r l v, g.row[n]? = some r ∧ whole k g r [] = some (l, v) ∧ l.length = j) := by
  unfold ownX at h
  rw [hk] at h
  split at h
  · rename_i e
    cases Option.some.inj e
    split at h <;> try contradiction
    rename_i r hr
    cases hw : whole k g r [] with
    | none => rw [hw] at h; cases h
    | some p => rw [hw] at h; cases h; exact .inr ⟨rfl, r, p.1, p.2, hr, hw, rfl⟩
  · rename_i k' hne e
    cases h
    exact .inl ⟨fun q => hne (by have := Option.some.inj e; omega), rfl⟩
  · cases h
theorem cnt_cases {k n c : Nat} {g : G} {s s' : Seen} {fl fl' : Bool} (h : cnt (k + 1) g n s fl = some (c, s', fl')) : ∃ n1, find k g n = some n1 ∧
    ((lkS n1 s = some 0 ∧ 0 = c ∧ s = s' ∧ true = fl') ∨ (∃ v, lkS n1 s = some (v + 1) ∧ v + 1 = c ∧ s = s' ∧ fl = fl') ∨
     (lkS n1 s = none ∧ ∃ c2 s2 j, ckids k g (kidsN g n1) 1 (s.put n1 0) fl = some (c2, s2, fl') ∧ ownX k g n1 = some j ∧ c2 + j ≤ 2147483647 ∧ min (c2 + j) 1000000 = c ∧ s2.put n1 (min (c2 + j) 1000000) = s')) := by
  unfold cnt at h
  split at h <;> try contradiction
  rename_i n1 hn
  refine ⟨n1, hn, ?_⟩
  split at h
  · rename_i hl; cases h; exact .inl ⟨hl, rfl, rfl, rfl⟩
  · rename_i v hl; cases h; exact .inr (.inl ⟨v, hl, rfl, rfl, rfl⟩)
  · rename_i hl
    refine .inr (.inr ⟨hl, ?_⟩)
    split at h <;> try contradiction
    rename_i c1 s1 f1 h1
    split at h <;> try contradiction
    rename_i c2 s2 f2 h2
    split at h <;> try contradiction
    rename_i j hj
    split at h <;> try contradiction
    rename_i hb
    cases h
    exact ⟨c2, s2, j, by unfold kidsN; rw [ckids_app (ckid_list h1)]; exact ckid_list h2, hj, hb, rfl, rfl⟩
/-! ### What has been seen -/
def cI : Nat → Int
  | 0 => -1
  | k + 1 => ((k + 1 : Nat) : Int)
def sI : Option Nat → Int
  | none => 0
  | some k => cI k
def kvS (B : List Nat) (s : Seen) : List (Nat × Value) := s.map fun p => ((B[p.1]?).getD 0, .int .i64 (cI p.2))
def SnOk (n : Nat) (s : Seen) : Prop := ∀ p ∈ s, p.1 < n
theorem sn0 (n : Nat) : SnOk n [] := fun _ h => by cases h
theorem SnOk.put {n i v : Nat} {s : Seen} (h : SnOk n s) (hi : i < n) : SnOk n (s.put i v) := by
  induction s with
  | nil => intro p hp; rw [List.mem_singleton.1 hp]; exact hi
  | cons q s ih =>
    obtain ⟨m, u⟩ := q
    unfold Seen.put
    split
    · intro p hp
      rcases List.mem_cons.1 hp with rfl | q
      · exact hi
      · exact h p (.tail _ q)
    · intro p hp
      rcases List.mem_cons.1 hp with rfl | q
      · exact h _ (.head _)
      · exact ih (fun p hp => h p (.tail _ hp)) p q
section
variable {ty : Nat} {B z : List Nat} {C : Nat → List Value} {w : World} {s : Seen}
theorem ks_cb (h : (bankI ty B C []).holds w) (hl : SnOk B.length s) : ∀ p ∈ kvS B s, Cb w p.1 := fun p hp => by
  obtain ⟨q, hq, rfl⟩ := List.mem_map.1 hp
  have hi := hl q hq
  have : B[q.1]? = some B[q.1] := by simp [hi]
  show Cb w ((B[q.1]?).getD 0)
  rw [this]
  exact bank_cb h (n := q.1) (by simp [hi]) nz0
theorem ks_key (h : (bankI ty B C []).holds w) {i j b : Nat} (hj : j < B.length) (hb : B[i]? = some b) : (B[j]?).getD 0 = b ↔ j = i := by
  have e : B[j]? = some B[j] := by simp [hj]
  rw [e]
  exact ⟨fun q => bank_inj h e (by rw [hb]; simp at q; rw [q]) nz0 nz0, fun q => by subst q; rw [hb] at e; cases e; rfl⟩
theorem look_seen (h : (bankI ty B C []).holds w) (hl : SnOk B.length s) {i b : Nat} (hb : B[i]? = some b) : Sx.look b (kvS B s) = (lkS i s).map fun k => .int .i64 (cI k) := by
  induction s with
  | nil => rfl
  | cons p s ih =>
    obtain ⟨m, v⟩ := p
    have ih := ih fun p hp => hl p (.tail _ hp)
    have hk := ks_key h (hl _ (.head _)) hb
    simp only at hk
    have hkv : kvS B ((m, v) :: s) = ((B[m]?).getD 0, .int .i64 (cI v)) :: kvS B s := rfl
    rw [hkv]
    simp only [lkS]
    by_cases q : m = i
    · rw [if_pos q]; simp [Sx.look, Sx.pos, hk.2 q]
    · have hne : ¬ (B[m]?).getD 0 = b := fun e => q (hk.1 e)
      rw [if_neg q, ← ih]
      unfold Sx.look
      simp only [Sx.pos, if_neg hne]
      cases Sx.pos b (kvS B s) with
      | none => rfl
      | some k => simp
theorem seen_get (h : (bankI ty B C []).holds w) (hl : SnOk B.length s) {i b : Nat} (hb : B[i]? = some b) {o : Option Nat} (ho : lkS i s = o) : (Sx.look b (kvS B s)).getD (.int .i64 0) = .int .i64 (sI o) := by
  rw [look_seen h hl hb, ho]; cases o <;> rfl
theorem upd_seen (h : (bankI ty B C []).holds w) (hl : SnOk B.length s) {i b : Nat} (hb : B[i]? = some b) (v : Nat) : Sx.upd b (.int .i64 (cI v)) (kvS B s) = kvS B (s.put i v) := by
  induction s with
  | nil => simp [kvS, Seen.put, Sx.upd, Sx.pos, hb]
  | cons p s ih =>
    obtain ⟨m, u⟩ := p
    have ih := ih fun p hp => hl p (.tail _ hp)
    have hk := ks_key h (hl _ (.head _)) hb
    simp only at hk
    have hkv : kvS B ((m, u) :: s) = ((B[m]?).getD 0, .int .i64 (cI u)) :: kvS B s := rfl
    rw [hkv]
    by_cases q : m = i
    · have e := hk.2 q
      unfold Sx.upd
      simp [Sx.pos, e, Seen.put, if_pos q, kvS, hb]
    · have hne : ¬ (B[m]?).getD 0 = b := fun e => q (hk.1 e)
      have e1 : Seen.put ((m, u) :: s) i v = (m, u) :: Seen.put s i v := by simp [Seen.put, if_neg q]
      rw [e1]
      show _ = ((B[m]?).getD 0, Value.int .i64 (cI u)) :: kvS B (Seen.put s i v)
      rw [← ih]
      unfold Sx.upd
      simp only [Sx.pos, if_neg hne]
      cases Sx.pos b (kvS B s) with
      | none => simp
      | some k => simp
theorem cI_pos {v : Nat} (h : 1 ≤ v) : (v : Int) = cI v := by cases v with | zero => omega | succ v => rfl
theorem upd_seen1 (h : (bankI ty B C []).holds w) (hl : SnOk B.length s) {i b : Nat} (hb : B[i]? = some b) {v : Nat} (hv : 1 ≤ v) : Sx.upd b (.int .i64 (v : Int)) (kvS B s) = kvS B (s.put i v) := by
  rw [cI_pos hv]; exact upd_seen h hl hb v
end
theorem minE (K : Nat) : (if (1000000 : Int) < ((K : Nat) : Int) then (1000000 : Int) else ((K : Nat) : Int)) = ((min K 1000000 : Nat) : Int) := by split <;> omega
end Go.Slv
set_option linter.unusedVariables false
set_option linter.unusedSimpArgs false
namespace Go.Proofs.Ytfkkocjheeoobaa
open Go.RowKit Go.Sx Go.Inf Go.Slv
attribute [local irreducible] Go.wpOps Go.Code.wp Go.wpOp Go.wpAnyH Go.Calls Go.Sx.Goal
set_option maxRecDepth 20000
set_option maxHeartbeats 16000000 in
theorem count_p_s (k : Nat) (ih : ∀ (S : Nat → Prop) (Z : List Slot) (T R : List Nat) (g : G) (n ba mb rb fb sb : Nat) (s : Seen) (fl : Bool) (w : World) (K : Ending → World → Prop) (H0 : Sp w [PI S Z T R g, pkI sb (kvS T s), .blk mb (.cells #[.map (some sb)] 83), .blk rb (.cells #[.bool fl] 4), .blk fb (.cells #[.func (.func 32) #[] #[.pointer (some ⟨mb, 0, none⟩), .pointer (some ⟨rb, 0, none⟩), .pointer (some ⟨fb, 0, none⟩)]] 84)]) (c : Nat) (s' : Seen) (fl' : Bool) (hba : T[n]? = some ba) (hs : SnOk T.length s) (hf : cnt k g n s fl = some (c, s', fl')) (hK : ∀ (S' : Nat → Prop) w', Hs w [PI S Z T R g, pkI sb (kvS T s), .blk mb (.cells #[.map (some sb)] 83), .blk rb (.cells #[.bool fl] 4), .blk fb (.cells #[.func (.func 32) #[] #[.pointer (some ⟨mb, 0, none⟩), .pointer (some ⟨rb, 0, none⟩), .pointer (some ⟨fb, 0, none⟩)]] 84)] w' [PI S' Z T R g, pkI sb (kvS T s'), .blk mb (.cells #[.map (some sb)] 83), .blk rb (.cells #[.bool fl'] 4), .blk fb (.cells #[.func (.func 32) #[] #[.pointer (some ⟨mb, 0, none⟩), .pointer (some ⟨rb, 0, none⟩), .pointer (some ⟨fb, 0, none⟩)]] 84)] → (SnOk T.length s') → K (.returned (.int .i64 (c : Int))) w'),
    Calls Try.prog 32 #[.pointer (some ⟨ba, 0, none⟩), .pointer (some ⟨mb, 0, none⟩), .pointer (some ⟨rb, 0, none⟩), .pointer (some ⟨fb, 0, none⟩)] w K) (S : Nat → Prop) (Z : List Slot) (T R : List Nat) (g : G) (n ba mb rb fb sb : Nat) (s : Seen) (fl : Bool) (w : World) (K : Ending → World → Prop) (H0 : Sp w [PI S Z T R g, pkI sb (kvS T s), .blk mb (.cells #[.map (some sb)] 83), .blk rb (.cells #[.bool fl] 4), .blk fb (.cells #[.func (.func 32) #[] #[.pointer (some ⟨mb, 0, none⟩), .pointer (some ⟨rb, 0, none⟩), .pointer (some ⟨fb, 0, none⟩)]] 84)]) (c : Nat) (s' : Seen) (fl' : Bool) (hba : T[n]? = some ba) (hs : SnOk T.length s) (hf : cnt (k + 1) g n s fl = some (c, s', fl')) (hK : ∀ (S' : Nat → Prop) w', Hs w [PI S Z T R g, pkI sb (kvS T s), .blk mb (.cells #[.map (some sb)] 83), .blk rb (.cells #[.bool fl] 4), .blk fb (.cells #[.func (.func 32) #[] #[.pointer (some ⟨mb, 0, none⟩), .pointer (some ⟨rb, 0, none⟩), .pointer (some ⟨fb, 0, none⟩)]] 84)] w' [PI S' Z T R g, pkI sb (kvS T s'), .blk mb (.cells #[.map (some sb)] 83), .blk rb (.cells #[.bool fl'] 4), .blk fb (.cells #[.func (.func 32) #[] #[.pointer (some ⟨mb, 0, none⟩), .pointer (some ⟨rb, 0, none⟩), .pointer (some ⟨fb, 0, none⟩)]] 84)] → (SnOk T.length s') → K (.returned (.int .i64 (c : Int))) w') :
    Calls Try.prog 32 #[.pointer (some ⟨ba, 0, none⟩), .pointer (some ⟨mb, 0, none⟩), .pointer (some ⟨rb, 0, none⟩), .pointer (some ⟨fb, 0, none⟩)] w K := by
  obtain ⟨L0, hL0, H⟩ : ∃ L0, L0 = [PI S Z T R g, pkI sb (kvS T s), .blk mb (.cells #[.map (some sb)] 83), .blk rb (.cells #[.bool fl] 4), .blk fb (.cells #[.func (.func 32) #[] #[.pointer (some ⟨mb, 0, none⟩), .pointer (some ⟨rb, 0, none⟩), .pointer (some ⟨fb, 0, none⟩)]] 84)] ∧ Hs w L0 w [PI S Z T R g, pkI sb (kvS T s), .blk mb (.cells #[.map (some sb)] 83), .blk rb (.cells #[.bool fl] 4), .blk fb (.cells #[.func (.func 32) #[] #[.pointer (some ⟨mb, 0, none⟩), .pointer (some ⟨rb, 0, none⟩), .pointer (some ⟨fb, 0, none⟩)]] 84)] := ⟨_, rfl, Hs.refl H0⟩
  refine Sx.en (vs := [.pointer (some ⟨ba, 0, none⟩), .pointer (some ⟨mb, 0, none⟩), .pointer (some ⟨rb, 0, none⟩), .pointer (some ⟨fb, 0, none⟩)]) 64 Try.func32 ?_
  obtain ⟨_, hP, _, _⟩ := P_open H 0 (S := S) (Z := Z) (T := T) (R := R) (g := g) (by kernel_rfl)
  obtain ⟨n1, hm, h5⟩ := cnt_cases hf
  obtain ⟨be1, hbe1⟩ := root_T hP hm
  have hn1 : n1 < g.kind.length := by have := (List.getElem?_eq_some_iff.1 hbe1).1; rw [hP.lT] at this; exact this
  have hn1T := (List.getElem?_eq_some_iff.1 hbe1).1
  obtain ⟨kd, hkd⟩ := tb2 (l := g.kind) (n := n1) hn1
  have h6 : ((lkS n1 s = some 0 ∧ 0 = c ∧ s = s' ∧ true = fl') ∨ (∃ v, lkS n1 s = some (v + 1) ∧ v + 1 = c ∧ s = s' ∧ fl = fl') ∨ (lkS n1 s = none ∧ kd ≠ 6 ∧ ∃ c2 s2, ckids k g (kidsN g n1) 1 (s.put n1 0) fl = some (c2, s2, fl') ∧ c2 ≤ 2147483647 ∧ min c2 1000000 = c ∧ s2.put n1 (min c2 1000000) = s') ∨ (lkS n1 s = none ∧ kd = 6 ∧ ∃ c2 s2 r lo vo, ckids k g (kidsN g n1) 1 (s.put n1 0) fl = some (c2, s2, fl') ∧ g.row[n1]? = some r ∧ whole k g r [] = some (lo, vo) ∧ c2 + lo.length ≤ 2147483647 ∧ min (c2 + lo.length) 1000000 = c ∧ s2.put n1 (min (c2 + lo.length) 1000000) = s')) := by
    rcases h5 with h | h | ⟨h1, c2, s2, j, h2, h3, h4, h7, h8⟩
    · exact .inl h
    · exact .inr (.inl h)
    · rcases own_cases h3 hkd with ⟨hk6, rfl⟩ | ⟨hk6, r, lo, vo, hrr, hwl, rfl⟩
      · exact .inr (.inr (.inl ⟨h1, hk6, c2, s2, h2, h4, h7, h8⟩))
      · exact .inr (.inr (.inr ⟨h1, hk6, c2, s2, r, lo, vo, h2, hrr, hwl, h4, h7, h8⟩))
  rcases h6 with ⟨ho, rfl, rfl, rfl⟩ | ⟨v, ho, rfl, rfl, rfl⟩ | ⟨ho, hk6, c2, s2, hx, hb2, rfl, rfl⟩ | ⟨ho, rfl, c2, s2, r, lo, vo, hx, hrr, hwl, hb2, rfl, rfl⟩
  · skip
    refine Sx.c 8 [0] H (fun Hp1 R1 hR1 => Now_p S Z T R g n n1 ba be1 w R1 Hp1 _ hba hm hbe1 (fun S1 w1 G1 => hR1 _ _ _ G1 fun H1 => ?_))
    obtain ⟨pm1, hpm1, hzpm1, H2⟩ := P_open H1 0 (S := S1) (Z := Z) (T := T) (R := R) (g := g) (by kernel_rfl)
    refine Sx.l 6 5 H2 ?_
    refine Sx.lkB (bt := sb) (t := 83) (kt := 52) (et := 3) (te := 78) 1 4 be1 (kvS T s) (.int .i64 0) H2 (bank_cb (H2.at 0 (it := bankI 78 T (ndC T R g pm1) []) (by kernel_rfl)) hbe1 nz0) (ks_cb (H2.at 0 (it := bankI 78 T (ndC T R g pm1) []) (by kernel_rfl)) hs) (by kernel_rfl) (seen_get (H2.at 0 (it := bankI 78 T (ndC T R g pm1) []) (by kernel_rfl)) hs hbe1 ho) ?_
    refine Sx.s 14 6 H2 fun w2 H3 => ?_
    refine Sx.rt 10 [] H3 (.int .i64 0) ?_
    obtain ⟨S2, H4⟩ := P_close H3 [0, 0, 0, 0] (Z := Z) (T := T) (R := R) (g := g) pm1 hpm1 hzpm1 (by kernel_rfl)
    subst hL0
    exact hK S2 _ (H4.pick (a := [PI S2 Z T R g, pkI sb (kvS T s), .blk mb (.cells #[.map (some sb)] 83), .blk rb (.cells #[.bool true] 4), .blk fb (.cells #[.func (.func 32) #[] #[.pointer (some ⟨mb, 0, none⟩), .pointer (some ⟨rb, 0, none⟩), .pointer (some ⟨fb, 0, none⟩)]] 84)]) [0, 0, 0, 0, 0] (by kernel_rfl)) hs
  · skip
    refine Sx.c 8 [0] H (fun Hp2 R2 hR2 => Now_p S Z T R g n n1 ba be1 w R2 Hp2 _ hba hm hbe1 (fun S3 w3 G2 => hR2 _ _ _ G2 fun H5 => ?_))
    obtain ⟨pm2, hpm2, hzpm2, H6⟩ := P_open H5 0 (S := S3) (Z := Z) (T := T) (R := R) (g := g) (by kernel_rfl)
    refine Sx.l 6 5 H6 ?_
    refine Sx.lkB (bt := sb) (t := 83) (kt := 52) (et := 3) (te := 78) 1 4 be1 (kvS T s) (.int .i64 0) H6 (bank_cb (H6.at 0 (it := bankI 78 T (ndC T R g pm2) []) (by kernel_rfl)) hbe1 nz0) (ks_cb (H6.at 0 (it := bankI 78 T (ndC T R g pm2) []) (by kernel_rfl)) hs) (by kernel_rfl) (seen_get (H6.at 0 (it := bankI 78 T (ndC T R g pm2) []) (by kernel_rfl)) hs hbe1 ho) ?_
    refine Sx.v 15 (.bool (decide (((v + 1 : Nat) : Int) > (0 : Int)))) (.bool true) (congrArg Value.bool (decide_eq_true (by omega))) ?_
    refine Sx.rt 13 [] H6 (.int .i64 ((v + 1 : Nat) : Int)) ?_
    obtain ⟨S4, H7⟩ := P_close H6 [0, 0, 0, 0] (Z := Z) (T := T) (R := R) (g := g) pm2 hpm2 hzpm2 (by kernel_rfl)
    subst hL0
    exact hK S4 _ (H7.pick (a := [PI S4 Z T R g, pkI sb (kvS T s), .blk mb (.cells #[.map (some sb)] 83), .blk rb (.cells #[.bool fl] 4), .blk fb (.cells #[.func (.func 32) #[] #[.pointer (some ⟨mb, 0, none⟩), .pointer (some ⟨rb, 0, none⟩), .pointer (some ⟨fb, 0, none⟩)]] 84)]) [0, 0, 0, 0, 0] (by kernel_rfl)) hs
  · skip
    refine Sx.c 8 [0] H (fun Hp3 R3 hR3 => Now_p S Z T R g n n1 ba be1 w R3 Hp3 _ hba hm hbe1 (fun S5 w4 G3 => hR3 _ _ _ G3 fun H8 => ?_))
    obtain ⟨pm3, hpm3, hzpm3, H9⟩ := P_open H8 0 (S := S5) (Z := Z) (T := T) (R := R) (g := g) (by kernel_rfl)
    refine Sx.l 6 5 H9 ?_
    refine Sx.lkB (bt := sb) (t := 83) (kt := 52) (et := 3) (te := 78) 1 4 be1 (kvS T s) (.int .i64 0) H9 (bank_cb (H9.at 0 (it := bankI 78 T (ndC T R g pm3) []) (by kernel_rfl)) hbe1 nz0) (ks_cb (H9.at 0 (it := bankI 78 T (ndC T R g pm3) []) (by kernel_rfl)) hs) (by kernel_rfl) (seen_get (H9.at 0 (it := bankI 78 T (ndC T R g pm3) []) (by kernel_rfl)) hs hbe1 ho) ?_
    refine Sx.v 15 (.bool (decide ((0 : Int) > (0 : Int)))) (.bool false) (rfl) ?_
    have hs1 : SnOk T.length (s.put n1 0) := hs.put hn1T
    refine Sx.l 9 5 H9 ?_
    refine Sx.muB (bt := sb) (t := 83) (kt := 52) (et := 3) (te := 78) 1 4 be1 (kvS T s) (.int .i64 (-1)) H9 (bank_cb (H9.at 0 (it := bankI 78 T (ndC T R g pm3) []) (by kernel_rfl)) hbe1 nz0) (ks_cb (H9.at 0 (it := bankI 78 T (ndC T R g pm3) []) (by kernel_rfl)) hs) (by kernel_rfl) (mp' := kvS T (s.put n1 0)) (upd_seen (H9.at 0 (it := bankI 78 T (ndC T R g pm3) []) (by kernel_rfl)) hs hbe1 0) fun w5 H10 => ?_
    obtain ⟨io1, hio1⟩ := oB_at (T := T) (m := pm3) (n := n1)
    obtain ⟨rb1, hrb1⟩ : ∃ rb, rowB R g n1 = rb := ⟨_, rfl⟩
    have hnl1 := (List.getElem?_eq_some_iff.1 hkd).1
    obtain ⟨nA1, nn1, nc1, has1, hna1⟩ := P_nd hpm3 (H10.at 1 (by kernel_rfl)) (n := n1) hnl1
    have H11 := bank_take (ty := 78) (T := T) (C := (ndC T R g pm3)) (hs := []) H10 0 (by kernel_rfl) (n := n1) (b := be1) hbe1 nz0 (ndC_eq hkd has1 (rb := rb1) hrb1 (io := io1) hio1)
    refine Sx.l 13 0 H11 ?_
    have hZ : Z[n1]? = some (nA1, nn1, nc1) := by rw [← hzpm3]; exact has1
    have hlk : nn1 = (kidsN g n1).length := hna1.trans ksO_len
    have hk2 := kidsN_le g n1
    have H12 := bank_put (ty := 78) (T := T) (C := (ndC T R g pm3)) (C' := (ndC T R g pm3)) (hs := []) H11 [0, 0] (by kernel_rfl) (n := n1) (b := be1) hbe1 nz0 (ndC_eq hkd has1 (rb := rb1) hrb1 (io := io1) hio1) (fun _ _ _ => rfl)
    obtain ⟨S6, H13⟩ := P_close H12 [0, 0, 0, 0] (Z := Z) (T := T) (R := R) (g := g) pm3 hpm3 hzpm3 (by kernel_rfl)
    have H14 := H13.pick (a := [PI S6 Z T R g, pkI sb (kvS T (s.put n1 0)), .blk mb (.cells #[.map (some sb)] 83), .blk rb (.cells #[.bool fl] 4), .blk fb (.cells #[.func (.func 32) #[] #[.pointer (some ⟨mb, 0, none⟩), .pointer (some ⟨rb, 0, none⟩), .pointer (some ⟨fb, 0, none⟩)]] 84)]) [0, 0, 0, 0, 0] (by kernel_rfl)
    refine Sx.lp 5 (fun z l' w' => ∃ (i : Nat) (ci : Nat) (si : Seen) (fi : Bool) (Si : Nat → Prop), l' = [(0, .pointer (some ⟨be1, 0, none⟩)), (1, .pointer (some ⟨mb, 0, none⟩)), (3, .pointer (some ⟨fb, 0, none⟩)), (7, .int .i64 ((ci : Nat) : Int)), (29, .slice nA1 nn1 nc1), (30, .int .i64 ((nn1 : Nat) : Int)), (31, .int .i64 ((i : Nat) : Int))] ∧ z = nn1 - i ∧ Hs w L0 w' [PI Si Z T R g, pkI sb (kvS T si), .blk mb (.cells #[.map (some sb)] 83), .blk rb (.cells #[.bool fi] 4), .blk fb (.cells #[.func (.func 32) #[] #[.pointer (some ⟨mb, 0, none⟩), .pointer (some ⟨rb, 0, none⟩), .pointer (some ⟨fb, 0, none⟩)]] 84)] ∧ (ckids k g ((kidsN g n1).drop i) ci si fi = some (c2, s2, fl')) ∧ (SnOk T.length si) ∧ (1 ≤ ci)) _ [(0, .pointer (some ⟨be1, 0, none⟩)), (1, .pointer (some ⟨mb, 0, none⟩)), (3, .pointer (some ⟨fb, 0, none⟩)), (7, .int .i64 ((1 : Nat) : Int)), (29, .slice nA1 nn1 nc1), (30, .int .i64 ((nn1 : Nat) : Int)), (31, .int .i64 ((0 : Nat) : Int))] ⟨0, 1, (s.put n1 0), fl, S6, rfl, rfl, H14, hx, hs1, (Nat.le_refl 1)⟩ (fun b1 z1 l1 w6 hI1 K1 hK1 => ?_)
    obtain ⟨i, ci, si, fi, Si, rfl, rfl, H15, hxi, hsi, hci⟩ := hI1
    refine Sx.br 6 (decide (((i : Nat) : Int) < ((nn1 : Nat) : Int))) (fun h_c32 => ?_) (fun h_c32 => ?_)
    · skip
      have p_c32 := of_decide_eq_true h_c32
      obtain ⟨p, j, s3, f3, hp, hcp, hxn, hge⟩ := ckids_step hxi (by omega)
      obtain ⟨pm4, hpm4, hzpm4, H16⟩ := P_open H15 0 (S := Si) (Z := Z) (T := T) (R := R) (g := g) (by kernel_rfl)
      have hge2 := ckids_ge hxn
      have has2 : pm4.as[n1]? = some (nA1, nn1, nc1) := by rw [hzpm4]; exact hZ
      obtain ⟨bp1, hbp1⟩ := hpm4.kid hp
      obtain ⟨ax, hax, hcx⟩ := kid_at (H16.at 1 (it := kidsI pm4.S1 pm4.as (ksL T g)) (by kernel_rfl)) has2 hn1 hp hbp1
      refine Sx.ia 6 ax i 1 nn1 nc1 hax (by omega) ?_
      refine Sx.lo (c := 1) (t := 52) 0 [.pointer (some ⟨bp1, 0, none⟩)] (.pointer (some ⟨bp1, 0, none⟩)) hcx ?_
      refine Sx.l 5 7 H16 ?_
      obtain ⟨S7, H17⟩ := P_close H16 [0, 0, 0, 0] (Z := Z) (T := T) (R := R) (g := g) pm4 hpm4 hzpm4 (by kernel_rfl)
      refine Sx.c 1 [0, 0, 0, 0, 0] H17 (fun Hp4 R4 hR4 => ih S7 Z T R g p bp1 mb rb fb sb si fi w6 R4 Hp4 j s3 f3 hbp1 hsi hcp (fun S8 w7 G4 hsn1 => hR4 _ _ _ G4 fun H18 => ?_))
      refine Sx.v 0 (.int .i64 (IntKind.i64.wrap (((ci : Nat) : Int) + ((j : Nat) : Int)))) (.int .i64 ((ci + j : Nat) : Int)) (congrArg (Value.int .i64) (Gx.i64n (by omega) (by omega))) ?_
      refine Sx.v 5 (.int .i64 (IntKind.i64.wrap (((i : Nat) : Int) + (1 : Int)))) (.int .i64 ((i + 1 : Nat) : Int)) (congrArg (Value.int .i64) (Gx.i64n (by omega) (by omega))) ?_
      have H19 := H18.pick (a := [PI S8 Z T R g, pkI sb (kvS T s3), .blk mb (.cells #[.map (some sb)] 83), .blk rb (.cells #[.bool f3] 4), .blk fb (.cells #[.func (.func 32) #[] #[.pointer (some ⟨mb, 0, none⟩), .pointer (some ⟨rb, 0, none⟩), .pointer (some ⟨fb, 0, none⟩)]] 84)]) [0, 0, 0, 0, 0] (by kernel_rfl)
      exact Sx.to 2 [(0, .pointer (some ⟨be1, 0, none⟩)), (1, .pointer (some ⟨mb, 0, none⟩)), (3, .pointer (some ⟨fb, 0, none⟩)), (7, .int .i64 (((ci + j) : Nat) : Int)), (29, .slice nA1 nn1 nc1), (30, .int .i64 ((nn1 : Nat) : Int)), (31, .int .i64 (((i + 1) : Nat) : Int))] (hK1 _ _ _ _ (by omega) ⟨(i + 1), (ci + j), s3, f3, S8, rfl, rfl, H19, hxn, hsn1, (by omega)⟩)
    have p_c32 := of_decide_eq_false h_c32
    obtain ⟨rfl, rfl, rfl⟩ := ckids_end hxi (by omega)
    obtain ⟨pm5, hpm5, hzpm5, H20⟩ := P_open H15 0 (S := Si) (Z := Z) (T := T) (R := R) (g := g) (by kernel_rfl)
    obtain ⟨io2, hio2⟩ := oB_at (T := T) (m := pm5) (n := n1)
    have hnl2 := (List.getElem?_eq_some_iff.1 hkd).1
    obtain ⟨nA2, nn2, nc2, has3, hna2⟩ := P_nd hpm5 (H20.at 1 (by kernel_rfl)) (n := n1) hnl2
    have H21 := bank_take (ty := 78) (T := T) (C := (ndC T R g pm5)) (hs := []) H20 0 (by kernel_rfl) (n := n1) (b := be1) hbe1 nz0 (ndC_eq hkd has3 (rb := none) (rowB_no hkd hk6) (io := io2) hio2)
    refine Sx.l 11 0 H21 ?_
    refine Sx.v 9 (.int .i64 (if (1000000 : Int) < ((ci : Nat) : Int) then (1000000 : Int) else ((ci : Nat) : Int))) (.int .i64 (((min (ci) 1000000) : Nat) : Int)) (congrArg (Value.int .i64) (minE (ci))) ?_
    have H22 := bank_put (ty := 78) (T := T) (C := (ndC T R g pm5)) (C' := (ndC T R g pm5)) (hs := []) H21 [0, 0] (by kernel_rfl) (n := n1) (b := be1) hbe1 nz0 (ndC_eq hkd has3 (rb := none) (rowB_no hkd hk6) (io := io2) hio2) (fun _ _ _ => rfl)
    refine Sx.l 5 5 H22 ?_
    refine Sx.muB (bt := sb) (t := 83) (kt := 52) (et := 3) (te := 78) 2 4 be1 (kvS T si) (.int .i64 (((min (ci) 1000000) : Nat) : Int)) H22 (bank_cb (H22.at 0 (it := bankI 78 T (ndC T R g pm5) []) (by kernel_rfl)) hbe1 nz0) (ks_cb (H22.at 0 (it := bankI 78 T (ndC T R g pm5) []) (by kernel_rfl)) hsi) (by kernel_rfl) (mp' := kvS T (si.put n1 (min (ci) 1000000))) (upd_seen1 (H22.at 0 (it := bankI 78 T (ndC T R g pm5) []) (by kernel_rfl)) hsi hbe1 (by omega)) fun w8 H23 => ?_
    refine Sx.rt 9 [] H23 (.int .i64 (((min (ci) 1000000) : Nat) : Int)) ?_
    obtain ⟨S9, H24⟩ := P_close H23 [0, 0, 0, 0] (Z := Z) (T := T) (R := R) (g := g) pm5 hpm5 hzpm5 (by kernel_rfl)
    subst hL0
    exact hK S9 _ (H24.pick (a := [PI S9 Z T R g, pkI sb (kvS T (si.put n1 (min (ci) 1000000))), .blk mb (.cells #[.map (some sb)] 83), .blk rb (.cells #[.bool fi] 4), .blk fb (.cells #[.func (.func 32) #[] #[.pointer (some ⟨mb, 0, none⟩), .pointer (some ⟨rb, 0, none⟩), .pointer (some ⟨fb, 0, none⟩)]] 84)]) [0, 0, 0, 0, 0] (by kernel_rfl)) (SnOk.put hsi hn1T)
  refine Sx.c 8 [0] H (fun Hp5 R5 hR5 => Now_p S Z T R g n n1 ba be1 w R5 Hp5 _ hba hm hbe1 (fun S10 w9 G5 => hR5 _ _ _ G5 fun H25 => ?_))
  obtain ⟨pm6, hpm6, hzpm6, H26⟩ := P_open H25 0 (S := S10) (Z := Z) (T := T) (R := R) (g := g) (by kernel_rfl)
  refine Sx.l 6 5 H26 ?_
  refine Sx.lkB (bt := sb) (t := 83) (kt := 52) (et := 3) (te := 78) 1 4 be1 (kvS T s) (.int .i64 0) H26 (bank_cb (H26.at 0 (it := bankI 78 T (ndC T R g pm6) []) (by kernel_rfl)) hbe1 nz0) (ks_cb (H26.at 0 (it := bankI 78 T (ndC T R g pm6) []) (by kernel_rfl)) hs) (by kernel_rfl) (seen_get (H26.at 0 (it := bankI 78 T (ndC T R g pm6) []) (by kernel_rfl)) hs hbe1 ho) ?_
  refine Sx.v 15 (.bool (decide ((0 : Int) > (0 : Int)))) (.bool false) (rfl) ?_
  have hs1 : SnOk T.length (s.put n1 0) := hs.put hn1T
  refine Sx.l 9 5 H26 ?_
  refine Sx.muB (bt := sb) (t := 83) (kt := 52) (et := 3) (te := 78) 1 4 be1 (kvS T s) (.int .i64 (-1)) H26 (bank_cb (H26.at 0 (it := bankI 78 T (ndC T R g pm6) []) (by kernel_rfl)) hbe1 nz0) (ks_cb (H26.at 0 (it := bankI 78 T (ndC T R g pm6) []) (by kernel_rfl)) hs) (by kernel_rfl) (mp' := kvS T (s.put n1 0)) (upd_seen (H26.at 0 (it := bankI 78 T (ndC T R g pm6) []) (by kernel_rfl)) hs hbe1 0) fun w10 H27 => ?_
  obtain ⟨io3, hio3⟩ := oB_at (T := T) (m := pm6) (n := n1)
  obtain ⟨rb2, hrb2⟩ : ∃ rb, rowB R g n1 = rb := ⟨_, rfl⟩
  have hnl3 := (List.getElem?_eq_some_iff.1 hkd).1
  obtain ⟨nA3, nn3, nc3, has4, hna3⟩ := P_nd hpm6 (H27.at 1 (by kernel_rfl)) (n := n1) hnl3
  have H28 := bank_take (ty := 78) (T := T) (C := (ndC T R g pm6)) (hs := []) H27 0 (by kernel_rfl) (n := n1) (b := be1) hbe1 nz0 (ndC_eq hkd has4 (rb := rb2) hrb2 (io := io3) hio3)
  refine Sx.l 13 0 H28 ?_
  have hZ : Z[n1]? = some (nA3, nn3, nc3) := by rw [← hzpm6]; exact has4
  have hlk : nn3 = (kidsN g n1).length := hna3.trans ksO_len
  have hk2 := kidsN_le g n1
  have H29 := bank_put (ty := 78) (T := T) (C := (ndC T R g pm6)) (C' := (ndC T R g pm6)) (hs := []) H28 [0, 0] (by kernel_rfl) (n := n1) (b := be1) hbe1 nz0 (ndC_eq hkd has4 (rb := rb2) hrb2 (io := io3) hio3) (fun _ _ _ => rfl)
  obtain ⟨S11, H30⟩ := P_close H29 [0, 0, 0, 0] (Z := Z) (T := T) (R := R) (g := g) pm6 hpm6 hzpm6 (by kernel_rfl)
  have H31 := H30.pick (a := [PI S11 Z T R g, pkI sb (kvS T (s.put n1 0)), .blk mb (.cells #[.map (some sb)] 83), .blk rb (.cells #[.bool fl] 4), .blk fb (.cells #[.func (.func 32) #[] #[.pointer (some ⟨mb, 0, none⟩), .pointer (some ⟨rb, 0, none⟩), .pointer (some ⟨fb, 0, none⟩)]] 84)]) [0, 0, 0, 0, 0] (by kernel_rfl)
  refine Sx.lp 5 (fun z l' w' => ∃ (i : Nat) (ci : Nat) (si : Seen) (fi : Bool) (Si : Nat → Prop), l' = [(0, .pointer (some ⟨be1, 0, none⟩)), (1, .pointer (some ⟨mb, 0, none⟩)), (3, .pointer (some ⟨fb, 0, none⟩)), (7, .int .i64 ((ci : Nat) : Int)), (29, .slice nA3 nn3 nc3), (30, .int .i64 ((nn3 : Nat) : Int)), (31, .int .i64 ((i : Nat) : Int))] ∧ z = nn3 - i ∧ Hs w L0 w' [PI Si Z T R g, pkI sb (kvS T si), .blk mb (.cells #[.map (some sb)] 83), .blk rb (.cells #[.bool fi] 4), .blk fb (.cells #[.func (.func 32) #[] #[.pointer (some ⟨mb, 0, none⟩), .pointer (some ⟨rb, 0, none⟩), .pointer (some ⟨fb, 0, none⟩)]] 84)] ∧ (ckids k g ((kidsN g n1).drop i) ci si fi = some (c2, s2, fl')) ∧ (SnOk T.length si) ∧ (1 ≤ ci)) _ [(0, .pointer (some ⟨be1, 0, none⟩)), (1, .pointer (some ⟨mb, 0, none⟩)), (3, .pointer (some ⟨fb, 0, none⟩)), (7, .int .i64 ((1 : Nat) : Int)), (29, .slice nA3 nn3 nc3), (30, .int .i64 ((nn3 : Nat) : Int)), (31, .int .i64 ((0 : Nat) : Int))] ⟨0, 1, (s.put n1 0), fl, S11, rfl, rfl, H31, hx, hs1, (Nat.le_refl 1)⟩ (fun b2 z2 l2 w11 hI2 K2 hK2 => ?_)
  obtain ⟨i, ci, si, fi, Si, rfl, rfl, H32, hxi, hsi, hci⟩ := hI2
  refine Sx.br 6 (decide (((i : Nat) : Int) < ((nn3 : Nat) : Int))) (fun h_c32 => ?_) (fun h_c32 => ?_)
  · skip
    have p_c32 := of_decide_eq_true h_c32
    obtain ⟨p, j, s3, f3, hp, hcp, hxn, hge⟩ := ckids_step hxi (by omega)
    obtain ⟨pm7, hpm7, hzpm7, H33⟩ := P_open H32 0 (S := Si) (Z := Z) (T := T) (R := R) (g := g) (by kernel_rfl)
    have hge2 := ckids_ge hxn
    have has5 : pm7.as[n1]? = some (nA3, nn3, nc3) := by rw [hzpm7]; exact hZ
    obtain ⟨bp1, hbp1⟩ := hpm7.kid hp
    obtain ⟨ax, hax, hcx⟩ := kid_at (H33.at 1 (it := kidsI pm7.S1 pm7.as (ksL T g)) (by kernel_rfl)) has5 hn1 hp hbp1
    refine Sx.ia 6 ax i 1 nn3 nc3 hax (by omega) ?_
    refine Sx.lo (c := 1) (t := 52) 0 [.pointer (some ⟨bp1, 0, none⟩)] (.pointer (some ⟨bp1, 0, none⟩)) hcx ?_
    refine Sx.l 5 7 H33 ?_
    obtain ⟨S12, H34⟩ := P_close H33 [0, 0, 0, 0] (Z := Z) (T := T) (R := R) (g := g) pm7 hpm7 hzpm7 (by kernel_rfl)
    refine Sx.c 1 [0, 0, 0, 0, 0] H34 (fun Hp6 R6 hR6 => ih S12 Z T R g p bp1 mb rb fb sb si fi w11 R6 Hp6 j s3 f3 hbp1 hsi hcp (fun S13 w12 G6 hsn2 => hR6 _ _ _ G6 fun H35 => ?_))
    refine Sx.v 0 (.int .i64 (IntKind.i64.wrap (((ci : Nat) : Int) + ((j : Nat) : Int)))) (.int .i64 ((ci + j : Nat) : Int)) (congrArg (Value.int .i64) (Gx.i64n (by omega) (by omega))) ?_
    refine Sx.v 5 (.int .i64 (IntKind.i64.wrap (((i : Nat) : Int) + (1 : Int)))) (.int .i64 ((i + 1 : Nat) : Int)) (congrArg (Value.int .i64) (Gx.i64n (by omega) (by omega))) ?_
    have H36 := H35.pick (a := [PI S13 Z T R g, pkI sb (kvS T s3), .blk mb (.cells #[.map (some sb)] 83), .blk rb (.cells #[.bool f3] 4), .blk fb (.cells #[.func (.func 32) #[] #[.pointer (some ⟨mb, 0, none⟩), .pointer (some ⟨rb, 0, none⟩), .pointer (some ⟨fb, 0, none⟩)]] 84)]) [0, 0, 0, 0, 0] (by kernel_rfl)
    exact Sx.to 2 [(0, .pointer (some ⟨be1, 0, none⟩)), (1, .pointer (some ⟨mb, 0, none⟩)), (3, .pointer (some ⟨fb, 0, none⟩)), (7, .int .i64 (((ci + j) : Nat) : Int)), (29, .slice nA3 nn3 nc3), (30, .int .i64 ((nn3 : Nat) : Int)), (31, .int .i64 (((i + 1) : Nat) : Int))] (hK2 _ _ _ _ (by omega) ⟨(i + 1), (ci + j), s3, f3, S13, rfl, rfl, H36, hxn, hsn2, (by omega)⟩)
  have p_c32 := of_decide_eq_false h_c32
  obtain ⟨rfl, rfl, rfl⟩ := ckids_end hxi (by omega)
  obtain ⟨pm8, hpm8, hzpm8, H37⟩ := P_open H32 0 (S := Si) (Z := Z) (T := T) (R := R) (g := g) (by kernel_rfl)
  obtain ⟨hr0', br1, hbr1⟩ := hpm8.row6 hkd hrr
  obtain ⟨vb, hvb⟩ : ∃ vb, vB R vo = vb := ⟨_, rfl⟩
  obtain ⟨io4, hio4⟩ := oB_at (T := T) (m := pm8) (n := n1)
  have hnl4 := (List.getElem?_eq_some_iff.1 hkd).1
  obtain ⟨nA4, nn4, nc4, has6, hna4⟩ := P_nd hpm8 (H37.at 1 (by kernel_rfl)) (n := n1) hnl4
  have H38 := bank_take (ty := 78) (T := T) (C := (ndC T R g pm8)) (hs := []) H37 0 (by kernel_rfl) (n := n1) (b := be1) hbe1 nz0 (ndC_eq hkd has6 (rb := (some br1)) ((rowB_yes hkd hrr).trans hbr1) (io := io4) hio4)
  refine Sx.l 11 0 H38 ?_
  refine Sx.l 9 0 H38 ?_
  have H39 := bank_put (ty := 78) (T := T) (C := (ndC T R g pm8)) (C' := (ndC T R g pm8)) (hs := []) H38 [0, 0] (by kernel_rfl) (n := n1) (b := be1) hbe1 nz0 (ndC_eq hkd has6 (rb := (some br1)) ((rowB_yes hkd hrr).trans hbr1) (io := io4) hio4) (fun _ _ _ => rfl)
  obtain ⟨S14, H40⟩ := P_close H39 [0, 0, 0, 0] (Z := Z) (T := T) (R := R) (g := g) pm8 hpm8 hzpm8 (by kernel_rfl)
  refine Sx.c 0 [0] H40 (fun Hp7 R7 hR7 => Whole_p S14 Z T R g _ r br1 vo lo vb w11 R7 Hp7 hbr1 hr0' hvb hwl (fun S15 S16 wA1 wn1 wc1 w13 G7 hwn1 hwc1 => hR7 _ _ _ G7 fun H41 => ?_))
  subst hwn1
  refine Sx.v 11 (.int .i64 (IntKind.i64.wrap (((ci : Nat) : Int) + ((lo.length : Nat) : Int)))) (.int .i64 ((ci + lo.length : Nat) : Int)) (congrArg (Value.int .i64) (Gx.i64n (by omega) (by omega))) ?_
  refine Sx.v 6 (.int .i64 (if (1000000 : Int) < ((ci + lo.length : Nat) : Int) then (1000000 : Int) else ((ci + lo.length : Nat) : Int))) (.int .i64 (((min (ci + lo.length) 1000000) : Nat) : Int)) (congrArg (Value.int .i64) (minE (ci + lo.length))) ?_
  obtain ⟨pm9, hpm9, hzpm9, H42⟩ := P_open H41 0 (S := S15) (Z := Z) (T := T) (R := R) (g := g) (by kernel_rfl)
  refine Sx.l 5 6 H42 ?_
  refine Sx.muB (bt := sb) (t := 83) (kt := 52) (et := 3) (te := 78) 2 5 be1 (kvS T si) (.int .i64 (((min (ci + lo.length) 1000000) : Nat) : Int)) H42 (bank_cb (H42.at 0 (it := bankI 78 T (ndC T R g pm9) []) (by kernel_rfl)) hbe1 nz0) (ks_cb (H42.at 0 (it := bankI 78 T (ndC T R g pm9) []) (by kernel_rfl)) hsi) (by kernel_rfl) (mp' := kvS T (si.put n1 (min (ci + lo.length) 1000000))) (upd_seen1 (H42.at 0 (it := bankI 78 T (ndC T R g pm9) []) (by kernel_rfl)) hsi hbe1 (by omega)) fun w14 H43 => ?_
  refine Sx.rt 9 [] H43 (.int .i64 (((min (ci + lo.length) 1000000) : Nat) : Int)) ?_
  obtain ⟨S17, H44⟩ := P_close H43 [0, 0, 0, 0] (Z := Z) (T := T) (R := R) (g := g) pm9 hpm9 hzpm9 (by kernel_rfl)
  subst hL0
  exact hK S17 _ (H44.pick (a := [PI S17 Z T R g, pkI sb (kvS T (si.put n1 (min (ci + lo.length) 1000000))), .blk mb (.cells #[.map (some sb)] 83), .blk rb (.cells #[.bool fi] 4), .blk fb (.cells #[.func (.func 32) #[] #[.pointer (some ⟨mb, 0, none⟩), .pointer (some ⟨rb, 0, none⟩), .pointer (some ⟨fb, 0, none⟩)]] 84)]) [0, 1, 1, 1, 1] (by kernel_rfl)) (SnOk.put hsi hn1T)
theorem count_p (k : Nat) : ∀ (S : Nat → Prop) (Z : List Slot) (T R : List Nat) (g : G) (n ba mb rb fb sb : Nat) (s : Seen) (fl : Bool) (w : World) (K : Ending → World → Prop) (H0 : Sp w [PI S Z T R g, pkI sb (kvS T s), .blk mb (.cells #[.map (some sb)] 83), .blk rb (.cells #[.bool fl] 4), .blk fb (.cells #[.func (.func 32) #[] #[.pointer (some ⟨mb, 0, none⟩), .pointer (some ⟨rb, 0, none⟩), .pointer (some ⟨fb, 0, none⟩)]] 84)]) (c : Nat) (s' : Seen) (fl' : Bool) (hba : T[n]? = some ba) (hs : SnOk T.length s) (hf : cnt k g n s fl = some (c, s', fl')) (hK : ∀ (S' : Nat → Prop) w', Hs w [PI S Z T R g, pkI sb (kvS T s), .blk mb (.cells #[.map (some sb)] 83), .blk rb (.cells #[.bool fl] 4), .blk fb (.cells #[.func (.func 32) #[] #[.pointer (some ⟨mb, 0, none⟩), .pointer (some ⟨rb, 0, none⟩), .pointer (some ⟨fb, 0, none⟩)]] 84)] w' [PI S' Z T R g, pkI sb (kvS T s'), .blk mb (.cells #[.map (some sb)] 83), .blk rb (.cells #[.bool fl'] 4), .blk fb (.cells #[.func (.func 32) #[] #[.pointer (some ⟨mb, 0, none⟩), .pointer (some ⟨rb, 0, none⟩), .pointer (some ⟨fb, 0, none⟩)]] 84)] → (SnOk T.length s') → K (.returned (.int .i64 (c : Int))) w'),
    Calls Try.prog 32 #[.pointer (some ⟨ba, 0, none⟩), .pointer (some ⟨mb, 0, none⟩), .pointer (some ⟨rb, 0, none⟩), .pointer (some ⟨fb, 0, none⟩)] w K := by
  induction k with
  | zero => intro S Z T R g n ba mb rb fb sb s fl w K H0 c s' fl' hba hs hf; exact absurd hf (by simp [cnt])
  | succ k ih => exact count_p_s k ih
end Go.Proofs.Ytfkkocjheeoobaa
set_option linter.unusedVariables false
set_option linter.unusedSimpArgs false
namespace Go.Inf
open Go.RowKit Go.Sx Go.Gx Go.MapKept
theorem keyN (a : Int) : IsKey (.int .i64) (encN a) := rfl
theorem injN (a b : Int) (h : encN a = encN b) : a = b := by simpa [encN] using h
theorem bitsN (a : Int) : Instr.sameBits 10000 (encN a) (encN a) = true := by simp [encN, Instr.sameBits]
def seenI (s : Seen) : List (Int × Nat) := s.map fun p => ((p.1 : Int), p.2)
abbrev seenM (b : Nat) (s : Seen) : Sx.Item := mapN b (seenI s)
theorem look_cons (a : Int) (p : Int × Value) (r : List (Int × Value)) : Sx.look a (p :: r) = if p.1 = a then some p.2 else Sx.look a r := by
  unfold Sx.look
  rw [pos]
  split
  · simp
  · cases pos a r <;> simp
theorem look_ivs (a : Int) (l : List (Int × Nat)) : Sx.look a (ivs l) = (lookI a l).map fun v => .int .i64 (v : Int) := by
  induction l with
  | nil => rfl
  | cons p l ih =>
    obtain ⟨m, v⟩ := p
    rw [show ivs ((m, v) :: l) = (m, Value.int .i64 (v : Int)) :: ivs l from rfl, look_cons, lookI]
    split
    · rfl
    · exact ih
theorem seen_at (s : Seen) (n : Nat) : (Sx.look (n : Int) (ivs (seenI s))).getD (.int .i64 0) = .int .i64 (s.at n : Int) := by
  rw [look_ivs]
  induction s with
  | nil => rfl
  | cons p s ih =>
    obtain ⟨m, v⟩ := p
    rw [show seenI ((m, v) :: s) = ((m : Int), v) :: seenI s from rfl, lookI, Seen.at]
    by_cases e : m = n
    · subst e; simp
    · rw [if_neg (by omega), if_neg e]; exact ih
theorem upd_cons (a : Int) (v : Value) (p : Int × Value) (r : List (Int × Value)) : upd a v (p :: r) = if p.1 = a then (a, v) :: r else p :: upd a v r := by
  unfold upd
  rw [pos]
  by_cases e : p.1 = a
  · rw [if_pos e, if_pos e]; rfl
  · rw [if_neg e, if_neg e]; cases pos a r <;> rfl
theorem seen_put (s : Seen) (n v : Nat) : upd (n : Int) (.int .i64 (v : Int)) (ivs (seenI s)) = ivs (seenI (s.put n v)) := by
  induction s with
  | nil => rfl
  | cons p s ih =>
    obtain ⟨m, u⟩ := p
    rw [show ivs (seenI ((m, u) :: s)) = ((m : Int), Value.int .i64 (u : Int)) :: ivs (seenI s) from rfl, upd_cons, Seen.put]
    by_cases e : m = n
    · subst e; simp; rfl
    · rw [if_neg (by show ¬ ((m : Int) = n); omega), if_neg e, ih]; rfl
theorem upd_new (a : Int) (v : Nat) (l : List (Int × Nat)) (h : lookI a l = none) : upd a (.int .i64 (v : Int)) (ivs l) = ivs (l ++ [(a, v)]) := by
  induction l with
  | nil => rfl
  | cons p l ih =>
    obtain ⟨m, u⟩ := p
    unfold lookI at h
    split at h
    · cases h
    · rename_i e
      rw [show ivs ((m, u) :: l) = (m, Value.int .i64 (u : Int)) :: ivs l from rfl, upd_cons, if_neg e, ih h]; rfl
section
variable {P : Program} {B : Exit → Act → World → Prop} {b : Nat → Value} {n : Nat} {d : List Deferred} {w0 w : World} {x : St} {L0 L : List Sx.Item}
theorem lks (m i bt q : Nat) (s : Seen) (H : Hs w0 L0 w L) {t kt et : Nat} (hi : L[i]? = some (seenM bt s))
    (k : Goal P B b n d (Sx.nx (vX (via P b n m w x (Sx.ask (lkA b n)))).y (vX (via P b n m w x (Sx.ask (lkA b n)))).q (.int .i64 (s.at q : Int))) w)
    (h : vA (via P b n m w x (Sx.ask (lkA b n))) = vB w (via P b n m w x (Sx.ask (lkA b n))) := by kernel_rfl)
    (h2 : ((vX (via P b n m w x (Sx.ask (lkA b n)))).u, (vX (via P b n m w x (Sx.ask (lkA b n)))).t) = ([.map (some bt), .int .i64 (q : Int)], [t, 0]) := by kernel_rfl)
    (ht : mapT P t = some (kt, et) := by kernel_rfl) (hkt : P.underlying kt = some (.int .i64) := by kernel_rfl) (hz : (P.info? et).bind (·.zero) = some (.int .i64 0) := by kernel_rfl) : Goal P B b n d x w :=
  lk (r := 0) m i H (q : Int) (.int .i64 0) hi keyN injN (by rw [seen_at]; exact k) h h2 ht hkt hz
theorem lki (m i bt : Nat) (a : Int) (l : List (Int × Nat)) (o : Option Nat) (ho : lookI a l = o) (H : Hs w0 L0 w L) {t kt et : Nat} (hi : L[i]? = some (mapN bt l))
    (k : Goal P B b n d (Sx.nx (vX (via P b n m w x (Sx.ask (lkA b n)))).y (vX (via P b n m w x (Sx.ask (lkA b n)))).q (.tuple #[.int .i64 (o.getD 0 : Int), .bool o.isSome])) w)
    (h : vA (via P b n m w x (Sx.ask (lkA b n))) = vB w (via P b n m w x (Sx.ask (lkA b n))) := by kernel_rfl)
    (h2 : ((vX (via P b n m w x (Sx.ask (lkA b n)))).u, (vX (via P b n m w x (Sx.ask (lkA b n)))).t) = ([.map (some bt), .int .i64 a], [t, 1]) := by kernel_rfl)
    (ht : mapT P t = some (kt, et) := by kernel_rfl) (hkt : P.underlying kt = some (.int .i64) := by kernel_rfl) (hz : (P.info? et).bind (·.zero) = some (.int .i64 0) := by kernel_rfl) : Goal P B b n d x w := by
  refine lk (r := 1) m i H a (.int .i64 0) hi keyN injN ?_ h h2 ht hkt hz
  subst ho
  show Goal P B b n d (Sx.nx _ _ (.tuple #[(Sx.look a (ivs l)).getD (.int .i64 0), .bool (Sx.look a (ivs l)).isSome])) w
  rw [look_ivs, Option.isSome_map, show (Option.map (fun v : Nat => Value.int .i64 (v : Int)) (lookI a l)).getD (.int .i64 0) = .int .i64 (((lookI a l).getD 0 : Nat) : Int) by cases lookI a l <;> rfl]
  exact k
theorem mus (m i bt q v : Nat) (s : Seen) (H : Hs w0 L0 w L) {t kt et : Nat} (hi : L[i]? = some (seenM bt s))
    (k : ∀ w', Hs w0 L0 w' (L.set i (seenM bt (s.put q v))) → Goal P B b n d (Sx.nx (vX (via P b n m w x (Sx.ask (muA b n)))).y (vX (via P b n m w x (Sx.ask (muA b n)))).q undef) w')
    (h : vA (via P b n m w x (Sx.ask (muA b n))) = vB w (via P b n m w x (Sx.ask (muA b n))) := by kernel_rfl)
    (h2 : ((vX (via P b n m w x (Sx.ask (muA b n)))).u, (vX (via P b n m w x (Sx.ask (muA b n)))).t) = ([.map (some bt), .int .i64 (q : Int), .int .i64 (v : Int)], [t]) := by kernel_rfl)
    (ht : mapT P t = some (kt, et) := by kernel_rfl) (hkt : P.underlying kt = some (.int .i64) := by kernel_rfl) : Goal P B b n d x w :=
  mu m i H (q : Int) (.int .i64 (v : Int)) hi keyN injN bitsN (fun w' H' => by rw [seen_put] at H'; exact k w' H') h h2 ht hkt
theorem mui (m i bt : Nat) (a : Int) (v : Nat) (l : List (Int × Nat)) (ho : lookI a l = none) (H : Hs w0 L0 w L) {t kt et : Nat} (hi : L[i]? = some (mapN bt l))
    (k : ∀ w', Hs w0 L0 w' (L.set i (mapN bt (l ++ [(a, v)]))) → Goal P B b n d (Sx.nx (vX (via P b n m w x (Sx.ask (muA b n)))).y (vX (via P b n m w x (Sx.ask (muA b n)))).q undef) w')
    (h : vA (via P b n m w x (Sx.ask (muA b n))) = vB w (via P b n m w x (Sx.ask (muA b n))) := by kernel_rfl)
    (h2 : ((vX (via P b n m w x (Sx.ask (muA b n)))).u, (vX (via P b n m w x (Sx.ask (muA b n)))).t) = ([.map (some bt), .int .i64 a, .int .i64 (v : Int)], [t]) := by kernel_rfl)
    (ht : mapT P t = some (kt, et) := by kernel_rfl) (hkt : P.underlying kt = some (.int .i64) := by kernel_rfl) : Goal P B b n d x w :=
  mu m i H a (.int .i64 (v : Int)) hi keyN injN bitsN (fun w' H' => by rw [upd_new a v l ho] at H'; exact k w' H') h h2 ht hkt
theorem mli (m i bt : Nat) (l : List (Int × Nat)) (H : Hs w0 L0 w L) {t kt et : Nat} (hi : L[i]? = some (mapN bt l))
    (k : Goal P B b n d (Sx.nx (vX (via P b n m w x (Sx.ask (mlA b n)))).y (vX (via P b n m w x (Sx.ask (mlA b n)))).q (.int .i64 (l.length : Int))) w)
    (h : vA (via P b n m w x (Sx.ask (mlA b n))) = vB w (via P b n m w x (Sx.ask (mlA b n))) := by kernel_rfl)
    (h2 : ((vX (via P b n m w x (Sx.ask (mlA b n)))).u, (vX (via P b n m w x (Sx.ask (mlA b n)))).t) = ([.map (some bt)], [t]) := by kernel_rfl)
    (ht : mapT P t = some (kt, et) := by kernel_rfl) : Goal P B b n d x w :=
  ml m i H hi (by rw [show (ivs l).length = l.length from List.length_map _]; exact k) h h2 ht
end
theorem numb_some {m : List (Int × Nat)} {n q : Nat} (h : lookI n m = some q) : numb m n = (m, q) := by unfold numb; rw [h]
theorem numb_none {m : List (Int × Nat)} {n : Nat} (h : lookI n m = none) : numb m n = (m ++ [((n : Int), m.length + 1)], m.length + 1) := by unfold numb; rw [h]
theorem isSome_f {o : Option Nat} (h : (!o.isSome) = true) : o = none := by cases o <;> simp_all
theorem isSome_t {o : Option Nat} (h : (!o.isSome) = false) : ∃ q, o = some q := by cases o <;> simp_all
end Go.Inf
namespace Go.Inf
open Go.RowKit Go.Sx
theorem rowsI_new {w : World} : (rowsI (fun _ => False) [(none, 0, 0)] [[]]).holds w := by
  refine ⟨⟨rfl, fun r s l hs hl => ?_⟩, fun _ h => h.elim, rowsI_loc _ _ _⟩
  cases r with
  | zero => simp at hs hl; subst hs hl; exact ⟨rfl, fun _ _ h => by simp at h⟩
  | succ r => simp at hs
end Go.Inf
namespace Go.Inf
open Go.RowKit Go.Sx Go.Gx
section
variable {P : Program} {fn : Func} {R : Ending → World → Prop} {b : Nat → Value} {n : Nat} {d : List Deferred} {w0 w : World} {x : St} {L0 L : List Sx.Item}
theorem tvki (i : Nat) (C : List Nat) (jj bt : Nat) (a : Int) (l : List (Int × Nat)) (o : Option Nat) (ho : lookI a l = o) {t kt et : Nat} (hS : clrA x = true → Sp w (LJof x))
    (k : Goal P (bodyPost P fn R) b n d ((vX (via P b n 0 w x (tvR b n i C))).k (.tuple #[.int .i64 (o.getD 0 : Int), .bool o.isSome])) w)
    (hi : (LJof x)[jj]? = some (mapN bt l) := by kernel_rfl)
    (h : vA (via P b n 0 w x (tvR b n i C)) = vB w (via P b n 0 w x (tvR b n i C)) := by kernel_rfl)
    (h2 : lkO b n (vX (via P b n 0 w x (tvR b n i C))) = some ([.map (some bt), .int .i64 a], [t]) := by kernel_rfl)
    (ht : mapT P t = some (kt, et) := by kernel_rfl) (hkt : P.underlying kt = some (.int .i64) := by kernel_rfl) (hz : (P.info? et).bind (·.zero) = some (.int .i64 0) := by kernel_rfl) : Goal P (bodyPost P fn R) b n d x w := by
  refine tvk i C jj a (.int .i64 0) _ keyN injN ?_ hS k hi h h2 ht hkt hz
  subst ho
  rw [look_ivs, Option.isSome_map]
  cases lookI a l <;> rfl
end
end Go.Inf
set_option linter.unusedVariables false
set_option linter.unusedSimpArgs false
namespace Go.Inf
open Go.RowKit Go.Sx
def RB (k : Nat) (g : G) (n : Nat) (s : Seen) (r : Bool) (s' : Seen) : Prop := ∃ y, g.b[n]? = some y ∧ (y = none → false = r ∧ s.put n 2 = s') ∧ ∀ p, y = some p → ∃ t s2, round k g p s = some (t, s2) ∧ (t = true → true = r ∧ s2 = s') ∧ (t = false → false = r ∧ s2.put n 2 = s')
def RA (k : Nat) (g : G) (n : Nat) (s : Seen) (r : Bool) (s' : Seen) : Prop := ∃ y, g.a[n]? = some y ∧ (y = none → RB k g n s r s') ∧ ∀ p, y = some p → ∃ t s2, round k g p s = some (t, s2) ∧ (t = true → true = r ∧ s2 = s') ∧ (t = false → RB k g n s2 r s')
theorem round_cases {k n : Nat} {g : G} {s s' : Seen} {r : Bool} (h : round (k + 1) g n s = some (r, s')) :
    ∃ n1, find k g n = some n1 ∧ (0 < s.at n1 → (s.at n1 == 1) = r ∧ s = s') ∧ (s.at n1 = 0 → RA k g n1 (s.put n1 1) r s') := by
  unfold round at h
  split at h <;> try contradiction
  rename_i n1 hn
  refine ⟨n1, hn, ?_⟩
  simp only at h
  split at h
  · rename_i e; cases h; exact ⟨fun _ => ⟨rfl, rfl⟩, fun q => by omega⟩
  · rename_i e
    refine ⟨fun q => absurd q e, fun _ => ?_⟩
    have hA : ∀ (x : Option (Option Nat)) (s : Seen) (t : Bool) (s2 : Seen), (match x with | some none => some (false, s) | some (some m) => round k g m s | none => none) = some (t, s2) →
        ∃ o, x = some o ∧ (o = none → false = t ∧ s = s2) ∧ ∀ p, o = some p → round k g p s = some (t, s2) := by
      intro x s t s2 h
      split at h <;> try contradiction
      · cases h; exact ⟨none, rfl, fun _ => ⟨rfl, rfl⟩, fun p q => by cases q⟩
      · rename_i m; exact ⟨some m, rfl, fun q => (by cases q), fun p e => by cases e; exact h⟩
    have hB : ∀ s, (match (match g.b[n1]? with | some none => some (false, s) | some (some m) => round k g m s | none => none) with
        | some (true, s) => some (true, s) | some (false, s) => some (false, s.put n1 2) | none => none) = some (r, s') → RB k g n1 s r s' := by
      intro s h
      split at h <;> try contradiction
      · rename_i s2 hg
        obtain ⟨o, ho, h1, h2⟩ := hA _ _ _ _ hg
        cases h
        exact ⟨o, ho, fun q => by have := (h1 q).1; simp at this, fun p hp => ⟨true, _, h2 p hp, fun _ => ⟨rfl, rfl⟩, fun e => by cases e⟩⟩
      · rename_i s2 hg
        obtain ⟨o, ho, h1, h2⟩ := hA _ _ _ _ hg
        cases h
        exact ⟨o, ho, fun q => by rw [(h1 q).2]; exact ⟨rfl, rfl⟩, fun p hp => ⟨false, _, h2 p hp, fun e => (by cases e), fun _ => ⟨rfl, rfl⟩⟩⟩
    split at h <;> try contradiction
    · rename_i s2 hg
      obtain ⟨o, ho, h1, h2⟩ := hA _ _ _ _ hg
      cases h
      exact ⟨o, ho, fun q => by have := (h1 q).1; simp at this, fun p hp => ⟨true, _, h2 p hp, fun _ => ⟨rfl, rfl⟩, fun e => by cases e⟩⟩
    · rename_i s2 hg
      obtain ⟨o, ho, h1, h2⟩ := hA _ _ _ _ hg
      exact ⟨o, ho, fun q => by rw [(h1 q).2]; exact hB _ h, fun p hp => ⟨false, _, h2 p hp, fun e => (by cases e), fun _ => hB _ h⟩⟩
def PD (n c j : Nat) (s : Seen) (r : Nat) (s' : Seen) : Prop := c + j ≤ 2147483647 ∧ min (c + j) 1000000 = r ∧ s.put n (min (c + j) 1000000) = s'
def PC (k : Nat) (g : G) (n c : Nat) (s : Seen) (r : Nat) (s' : Seen) : Prop := ∃ kd, g.kind[n]? = some kd ∧ (kd ≠ 6 → PD n c 0 s r s') ∧ (kd = 6 → ∃ q l v, g.row[n]? = some q ∧ whole k g q [] = some (l, v) ∧ PD n c l.length s r s')
def PB (k : Nat) (g : G) (n c : Nat) (s : Seen) (r : Nat) (s' : Seen) : Prop := ∃ y, g.b[n]? = some y ∧ (y = none → PC k g n c s r s') ∧ ∀ p, y = some p → ∃ j s2, parts k g p s = some (j, s2) ∧ PC k g n (c + j) s2 r s'
def PA (k : Nat) (g : G) (n c : Nat) (s : Seen) (r : Nat) (s' : Seen) : Prop := ∃ y, g.a[n]? = some y ∧ (y = none → PB k g n c s r s') ∧ ∀ p, y = some p → ∃ j s2, parts k g p s = some (j, s2) ∧ PB k g n (c + j) s2 r s'
theorem PC_le {k n c r : Nat} {g : G} {s s' : Seen} (h : PC k g n c s r s') : c ≤ 2147483647 := by
  obtain ⟨kd, _, h1, h2⟩ := h
  by_cases e : kd = 6
  · obtain ⟨_, l, _, _, _, h⟩ := h2 e; have := h.1; omega
  · have := (h1 e).1; omega
theorem PB_le {k n c r : Nat} {g : G} {s s' : Seen} (h : PB k g n c s r s') : c ≤ 2147483647 := by
  obtain ⟨y, _, h1, h2⟩ := h
  cases y with
  | none => exact PC_le (h1 rfl)
  | some p => obtain ⟨j, _, _, h⟩ := h2 p rfl; have := PC_le h; omega
theorem parts_cases {k n r : Nat} {g : G} {s s' : Seen} (h : parts (k + 1) g n s = some (r, s')) :
    ∃ n1, find k g n = some n1 ∧ (0 < s.at n1 → s.at n1 = r ∧ s = s') ∧ (s.at n1 = 0 → PA k g n1 1 s r s') := by
  unfold parts at h
  split at h <;> try contradiction
  rename_i n1 hn
  refine ⟨n1, hn, ?_⟩
  simp only at h
  split at h
  · rename_i e; cases h; exact ⟨fun _ => ⟨rfl, rfl⟩, fun q => by omega⟩
  · rename_i e
    refine ⟨fun q => absurd q e, fun _ => ?_⟩
    have hA : ∀ (x : Option (Option Nat)) (c : Nat) (s : Seen) (t : Nat) (s2 : Seen), (match x with | some none => some (c, s) | some (some m) => (match parts k g m s with | some (j, s) => some (c + j, s) | none => none) | none => none) = some (t, s2) →
        ∃ o, x = some o ∧ (o = none → c = t ∧ s = s2) ∧ ∀ p, o = some p → ∃ j, parts k g p s = some (j, s2) ∧ c + j = t := by
      intro x c s t s2 h
      split at h <;> try contradiction
      · cases h; exact ⟨none, rfl, fun _ => ⟨rfl, rfl⟩, fun p q => by cases q⟩
      · rename_i m
        split at h <;> try contradiction
        rename_i j s3 hp
        cases h
        exact ⟨some m, rfl, fun q => (by cases q), fun p e => by cases e; exact ⟨j, hp, rfl⟩⟩
    split at h <;> try contradiction
    rename_i c1 s1 hg
    obtain ⟨o, ho, h1, h2⟩ := hA _ _ _ _ _ hg
    have hB : PB k g n1 c1 s1 r s' := by
      split at h <;> try contradiction
      rename_i c2 s2 hg2
      obtain ⟨o2, ho2, h3, h4⟩ := hA _ _ _ _ _ hg2
      have hC : PC k g n1 c2 s2 r s' := by
        split at h <;> try contradiction
        rename_i j hj
        split at h <;> try contradiction
        rename_i hle
        cases h
        split at hj <;> try contradiction
        · rename_i hk
          split at hj <;> try contradiction
          rename_i q hq
          rw [Option.map_eq_some_iff] at hj
          obtain ⟨⟨l, v⟩, hw, rfl⟩ := hj
          exact ⟨6, hk, fun e => absurd rfl e, fun _ => ⟨q, l, v, hq, hw, hle, rfl, rfl⟩⟩
        · rename_i kd h6 hk
          cases hj
          exact ⟨kd, hk, fun _ => ⟨hle, rfl, rfl⟩, fun e => absurd e (by intro e; subst e; exact h6 rfl)⟩
      exact ⟨o2, ho2, fun q => by obtain ⟨rfl, rfl⟩ := h3 q; exact hC, fun p hp => by obtain ⟨j, hj, rfl⟩ := h4 p hp; exact ⟨j, s2, hj, hC⟩⟩
    exact ⟨o, ho, fun q => by obtain ⟨rfl, rfl⟩ := h1 q; exact hB, fun p hp => by obtain ⟨j, hj, rfl⟩ := h2 p hp; exact ⟨j, s1, hj, hB⟩⟩
end Go.Inf
namespace Go.Inf
theorem seen_beq (v : Nat) : (((v : Nat) : Int) == (1 : Int)) = (v == 1) := by
  by_cases h : v = 1
  · subst h; rfl
  · have h2 : ¬ ((v : Int) = 1) := by omega
    rw [beq_eq_false_iff_ne.2 h, beq_eq_false_iff_ne.2 h2]
end Go.Inf
set_option linter.unusedVariables false
set_option linter.unusedSimpArgs false
namespace Go.Inf
open Go.RowKit Go.Sx
structure Tv where
  A : Option Addr
  na : Nat
  ca : Nat
  B : Option Addr
  nb : Nat
  cb : Nat
def tvC (t : Ty) (p : Tv) : List Value := match t with
  | .mk kd n row _ _ => [.int .i64 (kd : Int), .int .i64 (n : Int), .int .i64 (row : Int), .slice p.A p.na p.ca, .slice p.B p.nb p.cb]
/-- A tree of types that is only read. -/
inductive TyIn (w : World) (S : Nat → Prop) : Tv → Ty → Prop
  | mk {kd n row : Nat} {ops : List Nm} {args : List Ty} (p : Tv) (ps : List Tv) (hs : Strs w S p.A ops) (hn : p.na = ops.length) (hc : p.na ≤ p.ca ∧ ops.length < 1000000000 ∧ args.length ≤ 2) (hb : p.nb = args.length) (hl : ps.length = args.length)
      (hm : ∀ (i : Nat) (q : Tv) (t : Ty), ps[i]? = some q → args[i]? = some t → ∃ a, p.B = some a ∧ S a.block ∧ w.cells? 0 (a.add (i * 5)) 5 = some (tvC t q))
      (ht : ∀ (i : Nat) (q : Tv) (t : Ty), ps[i]? = some q → args[i]? = some t → TyIn w S q t) : TyIn w S p (.mk kd n row ops args)
theorem TyIn.keep {w w' : World} {S : Nat → Prop} {p : Tv} {t : Ty} (h : TyIn w S p t) (k : ∀ c, S c → w'.heap[c]? = w.heap[c]?) : TyIn w' S p t := by
  induction h with
  | mk p ps hs hn hc hb hl hm _ ih => exact .mk p ps (hs.keep k) hn hc hb hl (fun i q t h1 h2 => by obtain ⟨a, ha, hS, hcs⟩ := hm i q t h1 h2; exact ⟨a, ha, hS, cells_same hcs (by rw [add_block]; exact k _ hS)⟩) ih
theorem TyIn.mono {w : World} {S S' : Nat → Prop} {p : Tv} {t : Ty} (h : TyIn w S p t) (k : ∀ c, S c → S' c) : TyIn w S' p t := by
  induction h with
  | mk p ps hs hn hc hb hl hm _ ih => exact .mk p ps (hs.mono k) hn hc hb hl (fun i q t h1 h2 => by obtain ⟨a, ha, hS, hcs⟩ := hm i q t h1 h2; exact ⟨a, ha, k _ hS, hcs⟩) ih
theorem tyI_loc (S : Nat → Prop) (p : Tv) (t : Ty) : Sx.Loc S (fun w => TyIn w S p t) := fun _ _ _ hk h => h.keep hk
def tyI (S : Nat → Prop) (p : Tv) (t : Ty) : Sx.Item := .ro S (fun w => TyIn w S p t)
theorem TyIn.open {w : World} {S : Nat → Prop} {p : Tv} {kd n row : Nat} {ops : List Nm} {args : List Ty} (h : TyIn w S p (.mk kd n row ops args)) :
    Strs w S p.A ops ∧ p.na = ops.length ∧ (p.na ≤ p.ca ∧ ops.length < 1000000000 ∧ args.length ≤ 2) ∧ p.nb = args.length ∧ ∀ i t, args[i]? = some t → ∃ (q : Tv) (a : Addr), p.B = some a ∧ w.cells? 0 (a.add (i * 5)) 5 = some (tvC t q) ∧ TyIn w S q t := by
  cases h with
  | mk _ ps hs hn hc hb hl hm ht =>
    refine ⟨hs, hn, hc, hb, fun i t h => ?_⟩
    have hi : i < ps.length := by rw [hl]; exact (List.getElem?_eq_some_iff.1 h).1
    obtain ⟨a, ha, hS, hcs⟩ := hm i _ t (List.getElem?_eq_getElem hi) h
    exact ⟨_, a, ha, hcs, ht i _ t (List.getElem?_eq_getElem hi) h⟩
/-- What one goes on with behind a part of a written type. -/
theorem ofT_var {k n row : Nat} {g g' : G} {ops : List Nm} {args : List Ty} {m : Nat} (h : ofT (k + 1) g (.mk 0 n row ops args) = some (g', m)) :
    (∃ q, lookI n g.tv = some q ∧ g = g' ∧ q = m) ∨ (lookI n g.tv = none ∧ ∃ g1, g.var = some (g1, m) ∧ { g1 with tv := g1.tv ++ [((n : Int), m)] } = g') := by
  simp only [ofT, if_true] at h
  split at h
  · rename_i q hq; cases h; exact .inl ⟨_, hq, rfl, rfl⟩
  · rename_i hq
    split at h <;> try contradiction
    rename_i g1 m1 hv
    cases h; exact .inr ⟨hq, g1, hv, rfl⟩
def OR (kd row : Nat) (ops : List Nm) (g : G) (a b : Option Nat) (g' : G) (m : Nat) : Prop :=
  (kd ≠ 6 → g.put kd a b 0 = some (g', m)) ∧
  (kd = 6 → ∃ g1 x, ((row = 0 ∧ g = g1 ∧ 0 = x) ∨ (0 < row ∧ lookI row g.rv = some x ∧ g = g1) ∨ (0 < row ∧ lookI row g.rv = none ∧ ∃ g2, g.opn = some (g2, x) ∧ { g2 with rv := g2.rv ++ [((row : Int), x)] } = g1)) ∧
    ∃ g3 r, g1.putRow ops (some x) = some (g3, r) ∧ g3.put kd a b r = some (g', m))
def OB (k kd row : Nat) (ops : List Nm) (g : G) (a : Option Nat) (t : Option Ty) (g' : G) (m : Nat) : Prop :=
  (t = none → OR kd row ops g a none g' m) ∧ ∀ u, t = some u → ∃ g1 b, ofT k g u = some (g1, b) ∧ OR kd row ops g1 a (some b) g' m
def OA (k kd row : Nat) (ops : List Nm) (g : G) (t t2 : Option Ty) (g' : G) (m : Nat) : Prop :=
  (t = none → OB k kd row ops g none t2 g' m) ∧ ∀ u, t = some u → ∃ g1 b, ofT k g u = some (g1, b) ∧ OB k kd row ops g1 (some b) t2 g' m
theorem ofT_more {k kd n row : Nat} {g g' : G} {ops : List Nm} {args : List Ty} {m : Nat} (hk : kd ≠ 0) (h : ofT (k + 1) g (.mk kd n row ops args) = some (g', m)) : OA k kd row ops g args[0]? args[1]? g' m := by
  simp only [ofT, if_neg hk] at h
  have hX : ∀ (g : G) (t : Option Ty) (g1 : G) (a : Option Nat), (match t with | none => some (g, none) | some t => (match ofT k g t with | some (g, m) => some (g, some m) | none => none)) = some (g1, a) →
      (t = none → g = g1 ∧ none = a) ∧ ∀ u, t = some u → ∃ b, ofT k g u = some (g1, b) ∧ some b = a := by
    intro g t g1 a h
    cases t with
    | none => cases h; exact ⟨fun _ => ⟨rfl, rfl⟩, fun u e => by cases e⟩
    | some t =>
      simp only at h
      split at h <;> try contradiction
      rename_i g2 b hb
      cases h
      exact ⟨fun e => (by cases e), fun u e => by cases e; exact ⟨b, hb, rfl⟩⟩
  split at h <;> try contradiction
  rename_i g1 a hA
  have hA := hX _ _ _ _ hA
  have hOB : OB k kd row ops g1 a args[1]? g' m := by
    split at h <;> try contradiction
    rename_i g2 b hB
    have hB := hX _ _ _ _ hB
    have hOR : OR kd row ops g2 a b g' m := by
      split at h
      · rename_i h6
        refine ⟨fun e => absurd h6 e, fun _ => ?_⟩
        split at h <;> try contradiction
        rename_i g3 x hx
        split at h <;> try contradiction
        rename_i g4 r hr
        refine ⟨g3, x, ?_, g4, r, hr, h⟩
        split at hx
        · rename_i h0
          split at hx
          · rename_i q hq; cases hx; exact .inr (.inl ⟨h0, hq, rfl⟩)
          · rename_i hq
            split at hx <;> try contradiction
            rename_i g5 q ho
            cases hx
            exact .inr (.inr ⟨h0, hq, g5, ho, rfl⟩)
        · cases hx; exact .inl ⟨by omega, rfl, rfl⟩
      · rename_i h6; exact ⟨fun _ => h, fun e => absurd e h6⟩
    exact ⟨fun e => by obtain ⟨rfl, rfl⟩ := hB.1 e; exact hOR, fun u e => by obtain ⟨q, h1, rfl⟩ := hB.2 u e; exact ⟨g2, q, h1, hOR⟩⟩
  exact ⟨fun e => by obtain ⟨rfl, rfl⟩ := hA.1 e; exact hOB, fun u e => by obtain ⟨q, h1, rfl⟩ := hA.2 u e; exact ⟨g1, q, h1, hOB⟩⟩
end Go.Inf
namespace Go.Inf
open Go.RowKit Go.Sx
theorem put_tv {g g' : G} {kd r n : Nat} {a b : Option Nat} (h : g.put kd a b r = some (g', n)) : g'.tv = g.tv ∧ g'.rv = g.rv := by
  unfold G.put at h
  split at h
  · simp only [wO_eq, wN_eq, wL_eq, Option.some.injEq, Prod.mk.injEq] at h; obtain ⟨rfl, _⟩ := h; exact ⟨rfl, rfl⟩
  · cases h
theorem opn_rv {g g' : G} {n : Nat} (h : g.opn = some (g', n)) : g'.rv = g.rv := by
  unfold G.opn G.putRow at h
  split at h
  · simp only [wO_eq, wN_eq, wL_eq, Option.some.injEq, Prod.mk.injEq] at h; obtain ⟨rfl, _⟩ := h; rfl
  · cases h
theorem some_at {α : Type} {l : List α} {i : Nat} (h : i < l.length) : ∃ x, l[i]? = some x := ⟨_, List.getElem?_eq_getElem h⟩
theorem none_at {α : Type} {l : List α} {i : Nat} (h : l.length ≤ i) : l[i]? = none := List.getElem?_eq_none h
end Go.Inf
namespace Go.Inf
open Go.RowKit Go.Sx
theorem ty_at {w0 w : World} {L0 L : List Sx.Item} {S : Nat → Prop} {p : Tv} {t : Ty} (H : Hs w0 L0 w L) (j : Nat) (hi : L[j]? = some (tyI S p t)) : TyIn w S p t := (H.at j hi).1
end Go.Inf
set_option linter.unusedVariables false
set_option linter.unusedSimpArgs false
namespace Go.Lex
open Go.Gx (byteAt)
def digitB (c : UInt8) : Bool := decide ((c.toNat : Int) ≥ 48) && decide ((c.toNat : Int) ≤ 57)
def letterB (c : UInt8) : Bool := ((decide ((c.toNat : Int) ≥ 97) && decide ((c.toNat : Int) ≤ 122)) || (decide ((c.toNat : Int) ≥ 65) && decide ((c.toNat : Int) ≤ 90))) || ((c.toNat : Int) == 95)
def blankB (c : UInt8) : Bool := ((((c.toNat : Int) == 9) || ((c.toNat : Int) == 10)) || ((c.toNat : Int) == 13)) || ((c.toNat : Int) == 32)
abbrev sgB : ByteArray := ⟨#[40, 41, 91, 93, 123, 125, 44, 59, 58, 61, 45, 43, 42, 60, 124, 126]⟩
def signB (c : UInt8) : Bool := (List.range 16).any (fun j => (byteAt sgB j).toNat == c.toNat)
/-- What a byte begins. -/
def cls (c : UInt8) : Nat :=
  if blankB c = true then 1 else if ((c.toNat : Int) == 35) = true then 2 else if digitB c = true then 3 else if letterB c = true then 4 else if signB c = true then 5 else 0
/-! ### Ends of runs -/
/-- The first place from k on whose byte is not p; the end. -/
def stop (p : UInt8 → Bool) (s : ByteArray) (k : Nat) : Nat :=
  if _h : k < s.size ∧ p (byteAt s k) = true then stop p s (k + 1) else k
termination_by s.size - k
theorem le_stop (p : UInt8 → Bool) (s : ByteArray) (k : Nat) : k ≤ stop p s k := by
  rw [stop]
  split
  · have := le_stop p s (k + 1); omega
  · exact Nat.le_refl _
termination_by s.size - k
def notNl (c : UInt8) : Bool := (c.toNat : Int) != 10
/-- Behind blanks and remarks. -/
def pass (s : ByteArray) (k : Nat) : Nat :=
  if _h : k < s.size then
    if blankB (byteAt s k) = true then pass s (k + 1)
    else if ((byteAt s k).toNat : Int) == 35 then pass s (stop notNl s (k + 1))
    else k
  else k
termination_by s.size - k
decreasing_by
  all_goals (have := le_stop notNl s (k + 1); omega)
/-! ### Numbers -/
def maxInt : Nat := 9223372036854775807
/-- What the first m digits from j on say. -/
def dval (s : ByteArray) (j : Nat) : Nat → Nat
  | 0 => 0
  | m + 1 => dval s j m * 10 + ((byteAt s (j + m)).toNat - 48)
def numOk (s : ByteArray) (j e : Nat) : Bool := !(decide (e - j > 1) && ((byteAt s j).toNat == 48)) && decide (dval s j (e - j) ≤ maxInt)
/-! ### Words and signs -/
def wordsL : List ByteArray := [⟨#[111, 112]⟩, ⟨#[111, 110, 99, 101]⟩, ⟨#[109, 97, 110, 121]⟩, ⟨#[100, 101, 102]⟩, ⟨#[114, 101, 99]⟩, ⟨#[109, 97, 105, 110]⟩, ⟨#[108, 101, 116]⟩, ⟨#[105, 110]⟩, ⟨#[102, 110]⟩, ⟨#[105, 102]⟩, ⟨#[116, 104, 101, 110]⟩, ⟨#[101, 108, 115, 101]⟩, ⟨#[99, 97, 115, 101]⟩, ⟨#[111, 102]⟩, ⟨#[101, 110, 100]⟩, ⟨#[100, 111]⟩, ⟨#[102, 115, 116]⟩, ⟨#[115, 110, 100]⟩, ⟨#[104, 97, 110, 100, 108, 101]⟩, ⟨#[115, 104, 97, 108, 108, 111, 119]⟩, ⟨#[119, 105, 116, 104]⟩, ⟨#[114, 101, 116, 117, 114, 110]⟩, ⟨#[116, 114, 117, 101]⟩, ⟨#[102, 97, 108, 115, 101]⟩, ⟨#[105, 110, 116]⟩, ⟨#[98, 111, 111, 108]⟩, ⟨#[117, 110, 105, 116]⟩, ⟨#[108, 105, 115, 116]⟩]
def wordB (s : ByteArray) : Bool := wordsL.any (fun x => s.toList == x.toList)
def longerB (s : ByteArray) : Bool := (((s.toList == (⟨#[58, 58]⟩ : ByteArray).toList) || (s.toList == (⟨#[61, 61]⟩ : ByteArray).toList)) || (s.toList == (⟨#[61, 62]⟩ : ByteArray).toList)) || (s.toList == (⟨#[45, 62]⟩ : ByteArray).toList)
/-! ### Pieces -/
/-! ### The token at a place -/
structure Nx where
  kind : Nat
  at_ : Nat
  text : ByteArray
  n : Nat
  nx : Nat
  fk : Nat
  fa : Nat
def fault (k a : Nat) : Nx := ⟨0, 0, ⟨#[]⟩, 0, 0, k, a⟩
def signLen (s : ByteArray) (j : Nat) : Nat := if (decide (((j + 2 : Nat) : Int) ≤ ((s.size : Nat) : Int)) && longerB (s.extract j (j + 2))) = true then 2 else 1
def numAt (s : ByteArray) (j : Nat) : Nx :=
  if numOk s j (stop digitB s j) = true then ⟨1, j, ⟨#[]⟩, dval s j (stop digitB s j - j), stop digitB s j, 0, 0⟩ else fault 3 j
def nameAt (s : ByteArray) (j : Nat) : Nx :=
  if stop (fun c => letterB c || digitB c) s j - j > 20 then fault 3 j
  else ⟨if wordB (s.extract j (stop (fun c => letterB c || digitB c) s j)) = true then 3 else 2, j, s.extract j (stop (fun c => letterB c || digitB c) s j), 0, stop (fun c => letterB c || digitB c) s j, 0, 0⟩
/-- The token that begins at j. -/
def tokAt (s : ByteArray) (j : Nat) : Nx :=
  if digitB (byteAt s j) = true then numAt s j
  else if letterB (byteAt s j) = true then nameAt s j
  else if signB (byteAt s j) = true then ⟨4, j, s.extract j (j + signLen s j), 0, j + signLen s j, 0, 0⟩
  else fault 2 j
/-- The token at a place or behind it. -/
def next (s : ByteArray) (i : Nat) : Nx :=
  if pass s i < s.size then tokAt s (pass s i) else ⟨0, s.size, ⟨#[]⟩, 0, s.size, 0, 0⟩
def Nx.tokV (x : Nx) : Value := .agg #[.int .i64 (x.kind : Int), .int .i64 (x.at_ : Int), .string x.text, .int .i64 (x.n : Int)]
def Nx.faultV (x : Nx) : Value := .agg #[.int .i64 (x.fk : Int), .int .i64 (x.fa : Int)]
def Nx.V (x : Nx) : Value := .tuple #[x.tokV, .int .i64 (x.nx : Int), x.faultV]
/-! ### Signs: the list of them, and what the byte and the next one say -/
/-! ### All tokens -/
end Go.Lex
