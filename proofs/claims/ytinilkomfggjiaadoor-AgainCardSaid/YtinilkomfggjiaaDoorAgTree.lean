/- The tokens of a tree, and what is written of them: plain laws. -/
import Derived.Test.YtinilkomfggjiaaDoorZk
import Derived.Test.YtinilkomfggjiaaDoorAgTok
import Derived.Test.YtinilkomfggjiaaDoorSynGood
set_option linter.unusedVariables false
set_option linter.unusedSimpArgs false
namespace Go.Ag
open Go.Gx (byteAt)
open Go.Lex Go.Syn
abbrev wd (s : ByteArray) : Tk := (3, s, 0)
abbrev sg (s : ByteArray) : Tk := (4, s, 0)
abbrev nmT (s : ByteArray) : Tk := (2, s, 0)
abbrev nuT (n : Nat) : Tk := (1, e0, n)
theorem gw_op : GT (wd Z.k51) := gt_word (by decide) (by decide) (by decide +kernel) (by decide +kernel) (by decide +kernel)
theorem gw_once : GT (wd Z.k39) := gt_word (by decide) (by decide) (by decide +kernel) (by decide +kernel) (by decide +kernel)
theorem gw_many : GT (wd Z.k42) := gt_word (by decide) (by decide) (by decide +kernel) (by decide +kernel) (by decide +kernel)
theorem gw_def : GT (wd Z.k43) := gt_word (by decide) (by decide) (by decide +kernel) (by decide +kernel) (by decide +kernel)
theorem gw_rec : GT (wd Z.k19) := gt_word (by decide) (by decide) (by decide +kernel) (by decide +kernel) (by decide +kernel)
theorem gw_main : GT (wd Z.k44) := gt_word (by decide) (by decide) (by decide +kernel) (by decide +kernel) (by decide +kernel)
theorem gw_let : GT (wd Z.k12) := gt_word (by decide) (by decide) (by decide +kernel) (by decide +kernel) (by decide +kernel)
theorem gw_in : GT (wd Z.k21) := gt_word (by decide) (by decide) (by decide +kernel) (by decide +kernel) (by decide +kernel)
theorem gw_fn : GT (wd Z.k25) := gt_word (by decide) (by decide) (by decide +kernel) (by decide +kernel) (by decide +kernel)
theorem gw_if : GT (wd Z.k28) := gt_word (by decide) (by decide) (by decide +kernel) (by decide +kernel) (by decide +kernel)
theorem gw_then : GT (wd Z.k45) := gt_word (by decide) (by decide) (by decide +kernel) (by decide +kernel) (by decide +kernel)
theorem gw_else : GT (wd Z.k46) := gt_word (by decide) (by decide) (by decide +kernel) (by decide +kernel) (by decide +kernel)
theorem gw_case : GT (wd Z.k32) := gt_word (by decide) (by decide) (by decide +kernel) (by decide +kernel) (by decide +kernel)
theorem gw_of : GT (wd Z.k49) := gt_word (by decide) (by decide) (by decide +kernel) (by decide +kernel) (by decide +kernel)
theorem gw_end : GT (wd Z.k50) := gt_word (by decide) (by decide) (by decide +kernel) (by decide +kernel) (by decide +kernel)
theorem gw_do : GT (wd Z.k38) := gt_word (by decide) (by decide) (by decide +kernel) (by decide +kernel) (by decide +kernel)
theorem gw_fst : GT (wd Z.k36) := gt_word (by decide) (by decide) (by decide +kernel) (by decide +kernel) (by decide +kernel)
theorem gw_snd : GT (wd Z.k37) := gt_word (by decide) (by decide) (by decide +kernel) (by decide +kernel) (by decide +kernel)
theorem gw_handle : GT (wd Z.k27) := gt_word (by decide) (by decide) (by decide +kernel) (by decide +kernel) (by decide +kernel)
theorem gw_shallow : GT (wd Z.k33) := gt_word (by decide) (by decide) (by decide +kernel) (by decide +kernel) (by decide +kernel)
theorem gw_with : GT (wd Z.k34) := gt_word (by decide) (by decide) (by decide +kernel) (by decide +kernel) (by decide +kernel)
theorem gw_return : GT (wd Z.k35) := gt_word (by decide) (by decide) (by decide +kernel) (by decide +kernel) (by decide +kernel)
theorem gw_true : GT (wd Z.k13) := gt_word (by decide) (by decide) (by decide +kernel) (by decide +kernel) (by decide +kernel)
theorem gw_false : GT (wd Z.k14) := gt_word (by decide) (by decide) (by decide +kernel) (by decide +kernel) (by decide +kernel)
theorem gw_int : GT (wd Z.k23) := gt_word (by decide) (by decide) (by decide +kernel) (by decide +kernel) (by decide +kernel)
theorem gw_bool : GT (wd Z.k26) := gt_word (by decide) (by decide) (by decide +kernel) (by decide +kernel) (by decide +kernel)
theorem gw_unit : GT (wd Z.k31) := gt_word (by decide) (by decide) (by decide +kernel) (by decide +kernel) (by decide +kernel)
theorem gw_list : GT (wd Z.k41) := gt_word (by decide) (by decide) (by decide +kernel) (by decide +kernel) (by decide +kernel)
theorem gt_op : GT (sg Z.k4) := gt_sign (by decide) (by decide) (by decide +kernel) (by decide +kernel) (by decide +kernel)
theorem gt_cp : GT (sg Z.k2) := gt_sign (by decide) (by decide) (by decide +kernel) (by decide +kernel) (by decide +kernel)
theorem gt_ob : GT (sg Z.k18) := gt_sign (by decide) (by decide) (by decide +kernel) (by decide +kernel) (by decide +kernel)
theorem gt_cb : GT (sg Z.k22) := gt_sign (by decide) (by decide) (by decide +kernel) (by decide +kernel) (by decide +kernel)
theorem gt_oc : GT (sg Z.k20) := gt_sign (by decide) (by decide) (by decide +kernel) (by decide +kernel) (by decide +kernel)
theorem gt_cc : GT (sg Z.k11) := gt_sign (by decide) (by decide) (by decide +kernel) (by decide +kernel) (by decide +kernel)
theorem gt_cm : GT (sg Z.k16) := gt_sign (by decide) (by decide) (by decide +kernel) (by decide +kernel) (by decide +kernel)
theorem gt_sc : GT (sg Z.k48) := gt_sign (by decide) (by decide) (by decide +kernel) (by decide +kernel) (by decide +kernel)
theorem gt_cn : GT (sg Z.k47) := gt_sign (by decide) (by decide) (by decide +kernel) (by decide +kernel) (by decide +kernel)
theorem gt_eq : GT (sg Z.k7) := gt_sign (by decide) (by decide) (by decide +kernel) (by decide +kernel) (by decide +kernel)
theorem gt_mi : GT (sg Z.k5) := gt_sign (by decide) (by decide) (by decide +kernel) (by decide +kernel) (by decide +kernel)
theorem gt_pl : GT (sg Z.k10) := gt_sign (by decide) (by decide) (by decide +kernel) (by decide +kernel) (by decide +kernel)
theorem gt_ti : GT (sg Z.k6) := gt_sign (by decide) (by decide) (by decide +kernel) (by decide +kernel) (by decide +kernel)
theorem gt_lt : GT (sg Z.k17) := gt_sign (by decide) (by decide) (by decide +kernel) (by decide +kernel) (by decide +kernel)
theorem gt_br : GT (sg Z.k24) := gt_sign (by decide) (by decide) (by decide +kernel) (by decide +kernel) (by decide +kernel)
theorem gt_tl : GT (sg Z.k29) := gt_sign (by decide) (by decide) (by decide +kernel) (by decide +kernel) (by decide +kernel)
theorem gt_cs : GT (sg Z.k9) := gt_sign (by decide) (by decide) (by decide +kernel) (by decide +kernel) (by decide +kernel)
theorem gt_ee : GT (sg Z.k8) := gt_sign (by decide) (by decide) (by decide +kernel) (by decide +kernel) (by decide +kernel)
theorem gt_ar : GT (sg Z.k1) := gt_sign (by decide) (by decide) (by decide +kernel) (by decide +kernel) (by decide +kernel)
theorem gt_to : GT (sg Z.k15) := gt_sign (by decide) (by decide) (by decide +kernel) (by decide +kernel) (by decide +kernel)
def inL (least : Int) (t : Nd) (l : List Tk) : List Tk := if lvl t < least then [sg Z.k4] ++ l ++ [sg Z.k2] else l
def intL (n : Int) : List Tk := if n < 0 then [sg Z.k29, nuT (-n).toNat] else [nuT n.toNat]
def opL (nm : ByteArray) (x y : Nd) (lx ly : List Tk) : List Tk :=
  if nm = Z.k8 ∨ nm = Z.k17 then inL 2 x lx ++ [sg nm] ++ inL 2 y ly
  else if nm = Z.k6 then inL 4 x lx ++ [sg nm] ++ inL 5 y ly
  else inL 3 x lx ++ [sg nm] ++ inL 4 y ly
def psL : List ByteArray → List Tk
  | [] => []
  | [p] => [nmT p]
  | p :: q :: r => [nmT p, sg Z.k16] ++ psL (q :: r)
def arT (ps : List ByteArray) : List Tk := if ps = [] then [sg Z.k15] else [sg Z.k5, sg Z.k20] ++ psL ps ++ [sg Z.k11, sg Z.k15]
def pNd (p : Nat × ByteArray) : Nd := .mk 23 p.1 p.2 0 []
structure Cd where
  a : Nat
  nm : ByteArray
  pa : Nat
  pn : ByteArray
  qa : Nat
  qn : ByteArray
  e : Nd
  le : List Tk
def Cd.node (c : Cd) : Nd := .mk 22 c.a c.nm 0 [.mk 23 c.pa c.pn 0 [], .mk 23 c.qa c.qn 0 [], c.e]
def Cd.tks (c : Cd) : List Tk := [sg Z.k24, nmT c.nm, nmT c.pn, nmT c.qn, sg Z.k1] ++ c.le
inductive Tw : Nd → List Tk → Prop
  | eint (a : Nat) (n : Int) : -9223372036854775807 ≤ n → n ≤ 9223372036854775807 → GT (nuT n.natAbs) → Tw (.mk 3 a Z.E n []) (intL n)
  | ebool (a : Nat) (n : Int) : (n = 0 ∨ n = 1) → Tw (.mk 4 a Z.E n []) [wd (if n = 1 then Z.k13 else Z.k14)]
  | eunit (a : Nat) : Tw (.mk 5 a Z.E 0 []) [sg Z.k4, sg Z.k2]
  | evar (a : Nat) (nm : ByteArray) : GT (nmT nm) → Tw (.mk 6 a nm 0 []) [nmT nm]
  | efn (a : Nat) (nm : ByteArray) (x : Nd) (lx : List Tk) : GT (nmT nm) → Tw x lx → Tw (.mk 7 a nm 0 [x]) ([wd Z.k25, nmT nm, sg Z.k1] ++ lx)
  | eapp (a : Nat) (x y : Nd) (lx ly : List Tk) : Tw x lx → Tw y ly → Tw (.mk 8 a Z.E 0 [x, y]) ((if x.k = 8 then lx else inL 6 x lx) ++ inL 6 y ly)
  | elet0 (a : Nat) (nm : ByteArray) (x y : Nd) (lx ly : List Tk) : GT (nmT nm) → Tw x lx → Tw y ly → Tw (.mk 9 a nm 0 [x, y]) ([wd Z.k12, nmT nm, sg Z.k7] ++ lx ++ [wd Z.k21] ++ ly)
  | elet1 (a : Nat) (nm : ByteArray) (fa : Nat) (fx : ByteArray) (x y : Nd) (lx ly : List Tk) : GT (nmT nm) → GT (nmT fx) → Tw x lx → Tw y ly →
      Tw (.mk 9 a nm 1 [.mk 7 fa fx 0 [x], y]) ([wd Z.k12, wd Z.k19, nmT nm, nmT fx, sg Z.k7] ++ lx ++ [wd Z.k21] ++ ly)
  | eseq (a : Nat) (x y : Nd) (lx ly : List Tk) : Tw x lx → Tw y ly → Tw (.mk 10 a Z.E 0 [x, y]) (inL 1 x lx ++ [sg Z.k48] ++ ly)
  | eif (a : Nat) (x y z : Nd) (lx ly lz : List Tk) : Tw x lx → Tw y ly → Tw z lz → Tw (.mk 11 a Z.E 0 [x, y, z]) ([wd Z.k28] ++ lx ++ [wd Z.k45] ++ ly ++ [wd Z.k46] ++ lz)
  | epair (a : Nat) (x y : Nd) (lx ly : List Tk) : Tw x lx → Tw y ly → Tw (.mk 12 a Z.E 0 [x, y]) ([sg Z.k4] ++ lx ++ [sg Z.k16] ++ ly ++ [sg Z.k2])
  | efst (a : Nat) (x : Nd) (lx : List Tk) : Tw x lx → Tw (.mk 13 a Z.E 0 [x]) ([wd Z.k36] ++ inL 6 x lx)
  | esnd (a : Nat) (x : Nd) (lx : List Tk) : Tw x lx → Tw (.mk 14 a Z.E 0 [x]) ([wd Z.k37] ++ inL 6 x lx)
  | enil (a : Nat) : Tw (.mk 15 a Z.E 0 []) [sg Z.k18, sg Z.k22]
  | econs (a : Nat) (x y : Nd) (lx ly : List Tk) : Tw x lx → Tw y ly → Tw (.mk 16 a Z.E 0 [x, y]) (inL 3 x lx ++ [sg Z.k9] ++ inL 2 y ly)
  | ecase (a : Nat) (x y z : Nd) (ua va : Nat) (un vn : ByteArray) (lx ly lz : List Tk) : GT (nmT un) → GT (nmT vn) → Tw x lx → Tw y ly → Tw z lz →
      Tw (.mk 17 a Z.E 0 [x, y, .mk 23 ua un 0 [], .mk 23 va vn 0 [], z]) ([wd Z.k32] ++ lx ++ [wd Z.k49, sg Z.k18, sg Z.k22, sg Z.k1] ++ ly ++ [sg Z.k24, nmT un, sg Z.k9, nmT vn, sg Z.k1] ++ lz ++ [wd Z.k50])
  | eop (a : Nat) (nm : ByteArray) (x y : Nd) (lx ly : List Tk) : (nm = Z.k8 ∨ nm = Z.k17 ∨ nm = Z.k10 ∨ nm = Z.k5 ∨ nm = Z.k6) → Tw x lx → Tw y ly → Tw (.mk 18 a nm 0 [x, y]) (opL nm x y lx ly)
  | edo (a : Nat) (nm : ByteArray) (x : Nd) (lx : List Tk) : GT (nmT nm) → Tw x lx → Tw (.mk 19 a nm 0 [x]) ([wd Z.k38, nmT nm] ++ inL 6 x lx)
  | ehandle (a : Nat) (n : Int) (x b : Nd) (ra : Nat) (rn : ByteArray) (lx lb : List Tk) (cs : List Cd) : (n = 0 ∨ n = 1) → GT (nmT rn) → (∀ c ∈ cs, GT (nmT c.nm) ∧ GT (nmT c.pn) ∧ GT (nmT c.qn)) → Tw x lx → Tw b lb → (∀ c ∈ cs, Tw c.e c.le) →
      Tw (.mk 20 a Z.E n (x :: .mk 21 ra rn 0 [b] :: cs.map Cd.node)) ([wd (if n = 1 then Z.k33 else Z.k27)] ++ lx ++ [wd Z.k34, sg Z.k20, wd Z.k35, nmT rn, sg Z.k1] ++ lb ++ cs.flatMap Cd.tks ++ [sg Z.k11])
inductive Ty : Nd → List Tk → Prop
  | tint (a : Nat) : Ty (.mk 24 a Z.E 0 []) [wd Z.k23]
  | tbool (a : Nat) : Ty (.mk 25 a Z.E 0 []) [wd Z.k26]
  | tunit (a : Nat) : Ty (.mk 26 a Z.E 0 []) [wd Z.k31]
  | tlist (a : Nat) (x : Nd) (lx : List Tk) : Ty x lx → Ty (.mk 27 a Z.E 0 [x]) (inL 2 x lx ++ [wd Z.k41])
  | tpair (a : Nat) (x y : Nd) (lx ly : List Tk) : Ty x lx → Ty y ly → Ty (.mk 28 a Z.E 0 [x, y]) (inL 2 x lx ++ [sg Z.k6] ++ inL 1 y ly)
  | tfn (a : Nat) (x y : Nd) (lx ly : List Tk) (ps : List (Nat × ByteArray)) : (∀ p ∈ ps, GT (nmT p.2)) → Ty x lx → Ty y ly → Ty (.mk 29 a Z.E 0 (x :: y :: ps.map pNd)) (inL 1 x lx ++ arT (ps.map (·.2)) ++ ly)
theorem ap_toList (a b : ByteArray) : (a ++ b).data.toList = a.data.toList ++ b.data.toList := by
  rw [ByteArray.data_append, Array.toList_append]
theorem by_list {a b : ByteArray} (h : a.data.toList = b.data.toList) : a = b := by
  cases a; cases b; simp only [ByteArray.mk.injEq]; exact Array.toList_inj.1 h
def bl (l : List Tk) : List UInt8 := (joinW l).data.toList
theorem bl_one (x : Tk) : bl [x] = (sayT x).data.toList := rfl
theorem bl_cons (x : Tk) {l : List Tk} (h : l ≠ []) : bl (x :: l) = (sayT x).data.toList ++ 32 :: bl l := by
  unfold bl; rw [joinW_cons x h]; simp [ap_toList]
theorem bl_app {l m : List Tk} (hl : l ≠ []) (hm : m ≠ []) : bl (l ++ m) = bl l ++ 32 :: bl m := by
  unfold bl; rw [joinW_app hl hm]; simp [ap_toList]
theorem say_w (s : ByteArray) : sayT (wd s) = s := rfl
theorem say_s (s : ByteArray) : sayT (sg s) = s := rfl
theorem say_n (s : ByteArray) : sayT (nmT s) = s := rfl
theorem inL_ne {k : Int} {t : Nd} {l : List Tk} (h : l ≠ []) : inL k t l ≠ [] := by unfold inL; split <;> simp [h]
theorem inL_gt {k : Int} {t : Nd} {l : List Tk} (h : ∀ x ∈ l, GT x) : ∀ x ∈ inL k t l, GT x := by
  unfold inL
  split
  · intro x hx
    simp only [List.mem_append, List.mem_cons, List.not_mem_nil, or_false] at hx
    rcases hx with (rfl | hx) | rfl
    · exact gt_op
    · exact h x hx
    · exact gt_cp
  · exact h
theorem inL_bl {k : Int} {t : Nd} {l : List Tk} (h : l ≠ []) : bl (inL k t l) = (inT k t (joinW l)).data.toList := by
  unfold inL inT
  split
  · rw [bl_app (by simp) (by simp), bl_app (by simp) h, bl_one, bl_one, say_s, say_s]
    simp [ap_toList, bl]
  · rfl
end Go.Ag
