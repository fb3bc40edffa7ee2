/- Own texts, pruned and joined by a program (prune.py). -/
import Ieee.Word
import Ieee.Arith
import Derived.Test.YtgjcibhhffkemaaGreatDoorProg
import Derived.Below
import Derived.WalkKit
import Derived.WalkSmall
import Derived.KernelRfl
import Derived.LaidEql
import Derived.WideLaws
import Derived.Lib.Hide
import Derived.Outline
import Derived.Handy
import Derived.Deep.QuietTactic
import Derived.BigQuiet
import Derived.OwnWalk
import Derived.WalkLawsBesides
import Derived.WalkSpells
import Derived.RegionTactic
import Derived.ChangeAlike
import Derived.BigRegion
import Derived.Deep.RegionWith
import Derived.Deep.RegionHeld3
import Derived.Deep.DeepCutAuto
import Derived.Laws.FloatArith
import Derived.Laws.Cover2
import Derived.Laws.BitsAllLaws
import Derived.Laws.AppendOwn
import Derived.Laws.AppendOwnNone
import Derived.Maps.AppendAt
import Derived.Deep.RegionLaw
import Derived.Orders
import Derived.Lib.SlBytesConst
import Derived.OpenShut
set_option linter.unusedVariables false
set_option linter.unusedSimpArgs false
namespace Go.Proofs.YtgjcibhhffkemaaGreatDoor
namespace Fl
open Ieee
def V (r : Nat) : Nat := if r < 4503599627370496 then r else (4503599627370496 + r % 4503599627370496) * 2 ^ (r / 4503599627370496 - 1)
theorem V_mono {r s : Nat} (h : r < s) : V r < V s := by
 unfold V
 by_cases hr : r < 4503599627370496
 ·rw [if_pos hr]
  by_cases hs : s < 4503599627370496
  ·rw [if_pos hs];exact h
  ·rw [if_neg hs]
   have : 0 < 2 ^ (s / 4503599627370496 - 1) := Nat.two_pow_pos _
   have := Nat.le_mul_of_pos_right (4503599627370496 + s % 4503599627370496) this
   omega
 ·rw [if_neg hr,if_neg (by omega)]
  generalize ha : r / 4503599627370496 = a
  generalize hb : s / 4503599627370496 = b
  generalize hp : r % 4503599627370496 = p
  generalize hq : s % 4503599627370496 = q
  have hpl : p < 4503599627370496 := hp ▸ Nat.mod_lt _ (by decide)
  have hab : a ≤ b := by rw [← ha,← hb];exact Nat.div_le_div_right (by omega)
  have ha1 : 1 ≤ a := by omega
  rcases Nat.lt_or_eq_of_le hab with hlt | heq
  ·have h1 : (4503599627370496 + p) * 2 ^ (a - 1) < 9007199254740992 * 2 ^ (a - 1) := Nat.mul_lt_mul_of_pos_right (by omega) (Nat.two_pow_pos _)
   have h2 : 9007199254740992 * 2 ^ (a - 1) = 4503599627370496 * 2 ^ a := by
    have : 2 ^ a = 2 ^ (a - 1) * 2 := by rw [← Nat.pow_succ];congr 1;omega
    rw [this];omega
   have h3 : 2 ^ a ≤ 2 ^ (b - 1) := Nat.pow_le_pow_right (by decide) (by omega)
   have h4 : 4503599627370496 * 2 ^ a ≤ (4503599627370496 + q) * 2 ^ (b - 1) := Nat.mul_le_mul (by omega) h3
   omega
  ·subst heq
   have hpq : p < q := by omega
   exact Nat.mul_lt_mul_of_pos_right (by omega) (Nat.two_pow_pos _)
theorem V_lt_iff (r s : Nat) : V r < V s ↔ r < s := by
 constructor
 ·intro h
  rcases Nat.lt_trichotomy r s with h1 | h1 | h1
  ·exact h1
  ·subst h1;omega
  ·have := V_mono h1;omega
 ·exact V_mono
theorem V_zero : V 0 = 0 := rfl
theorem read_small (x : Nat) (h : x % 9223372036854775808 < 9218868437227405312) : ∃ m p,double.read x = .number (x / 9223372036854775808 % 2 == 1) m (-1074 + (p : Nat)) ∧ m * 2 ^ p = V (x % 9223372036854775808) := by
 have e1 : double.signWeight = 9223372036854775808 := rfl
 have e2 : double.binade = 4503599627370496 := rfl
 have e3 : double.infRung = 9218868437227405312 := rfl
 have e4 : double.leastPlace = -1074 := rfl
 unfold Format.read
 rw [e1,e2,e3,e4]
 simp only
 unfold V
 by_cases hs : x % 9223372036854775808 < 4503599627370496
 ·rw [if_pos hs,if_pos hs];exact ⟨_,0,rfl,by simp⟩
 ·rw [if_neg hs,if_neg hs,if_pos h];exact ⟨_,_,rfl,rfl⟩
theorem read_inf (x : Nat) (h : x % 9223372036854775808 = 9218868437227405312) : double.read x = .infinity (x / 9223372036854775808 % 2 == 1) := by
 unfold Format.read
 simp only [show double.signWeight = 9223372036854775808 from rfl,show double.binade = 4503599627370496 from rfl,show double.infRung = 9218868437227405312 from rfl]
 rw [if_neg (by omega),if_neg (by omega),if_pos h]
theorem read_nan (x : Nat) (h : 9218868437227405312 < x % 9223372036854775808) : ∃ s t,double.read x = .nan s t := by
 unfold Format.read
 simp only [show double.signWeight = 9223372036854775808 from rfl,show double.binade = 4503599627370496 from rfl,show double.infRung = 9218868437227405312 from rfl]
 rw [if_neg (by omega),if_neg (by omega),if_neg (by omega)]
 exact ⟨_,_,rfl⟩
def rk (x : Nat) : Int := if 9223372036854775808 ≤ x then -((x : Int) - 9223372036854775808) else x
def some' (x : Nat) : Bool := decide (x % 9223372036854775808 ≤ 9218868437227405312)
theorem shl_eq (m k : Nat) : m <<< k = m * 2 ^ k := Nat.shiftLeft_eq m k
theorem compare_int (a b : Int) : compare a b = if a < b then .lt else if a = b then .eq else .gt := by
 show compareOfLessAndEq a b = _
 unfold compareOfLessAndEq
 rfl
theorem cmp_scale (a b : Int) (k : Int) (hk : 0 < k) : compare (a * k) (b * k) = compare a b := by
 rw [compare_int,compare_int]
 by_cases h1 : a < b
 ·rw [if_pos h1,if_pos (Int.mul_lt_mul_of_pos_right h1 hk)]
 ·rw [if_neg h1]
  by_cases h2 : a = b
  ·subst h2;rw [if_neg (by omega),if_pos rfl,if_pos rfl]
  ·have h3 : b < a := by omega
   have h4 := Int.mul_lt_mul_of_pos_right h3 hk
   rw [if_neg (by omega),if_neg h2,if_neg (by omega)]
def sg (s : Bool) (a : Nat) : Int := if s then -(a : Int) else a
theorem V_eq_iff (r s : Nat) : V r = V s ↔ r = s := by
 constructor
 ·intro h
  rcases Nat.lt_trichotomy r s with h1 | h1 | h1
  ·have := V_mono h1;omega
  ·exact h1
  ·have := V_mono h1;omega
 ·rintro rfl;rfl
theorem cmp_V (s t : Bool) (r q : Nat) : compare (sg s (V r)) (sg t (V q)) = compare (sg s r) (sg t q) := by
 rw [compare_int,compare_int]
 have h1 := V_lt_iff r q
 have h2 := V_lt_iff q r
 have h3 := V_eq_iff r 0
 have h4 := V_eq_iff q 0
 have h5 := V_eq_iff r q
 rw [V_zero] at h3 h4
 unfold sg
 generalize V r = a at *
 generalize V q = b at *
 have e1 : ((if s = true then -(a : Int) else a) < (if t = true then -(b : Int) else b)) ↔ ((if s = true then -(r : Int) else r) < (if t = true then -(q : Int) else q)) := by
  cases s <;> cases t <;> simp <;> omega
 have e2 : ((if s = true then -(a : Int) else a) = (if t = true then -(b : Int) else b)) ↔ ((if s = true then -(r : Int) else r) = (if t = true then -(q : Int) else q)) := by
  cases s <;> cases t <;> simp <;> omega
 simp only [e1,e2]
theorem rk_sg (x : Nat) (hx : x < 18446744073709551616) : rk x = sg (x / 9223372036854775808 % 2 == 1) (x % 9223372036854775808) := by
 unfold rk sg
 by_cases h : 9223372036854775808 ≤ x
 ·have h1 : (x / 9223372036854775808 % 2 == 1) = true := by rw [beq_iff_eq];omega
  rw [if_pos h,h1,if_pos rfl];omega
 ·have h1 : (x / 9223372036854775808 % 2 == 1) = false := by rw [beq_eq_false_iff_ne];omega
  rw [if_neg h,h1];simp;omega
theorem signed_scale (s : Bool) (m k l p : Nat) (h : k + l = p) : signed s m k * ((2 ^ l : Nat) : Int) = sg s (m * 2 ^ p) := by
 have e : (m <<< k) * 2 ^ l = m * 2 ^ p := by rw [shl_eq,Nat.mul_assoc,← Nat.pow_add,h]
 unfold signed sg
 cases s
 ·simp only [Bool.false_eq_true,if_false];exact_mod_cast e
 ·simp only [if_true];rw [Int.neg_mul];congr 1;exact_mod_cast e
theorem order_numbers (s t : Bool) (m n p q : Nat) : Datum.order (.number s m (-1074 + (p : Int))) (.number t n (-1074 + (q : Int))) = some (compare (sg s (m * 2 ^ p)) (sg t (n * 2 ^ q))) := by
 show some (compare (signed s m _) (signed t n _)) = _
 congr 1
 have e1 : ((-1074 + (p : Int)) - min (-1074 + (p : Int)) (-1074 + (q : Int))).toNat = p - min p q := by omega
 have e2 : ((-1074 + (q : Int)) - min (-1074 + (p : Int)) (-1074 + (q : Int))).toNat = q - min p q := by omega
 rw [e1,e2,← signed_scale s m (p - min p q) (min p q) p (by omega),← signed_scale t n (q - min p q) (min p q) q (by omega)]
 rw [cmp_scale _ _ _ (by exact_mod_cast Nat.two_pow_pos _)]
theorem order_rank (x y : Nat) (hx : x < 18446744073709551616) (hy : y < 18446744073709551616) : double.order x y = if some' x && some' y then some (compare (rk x) (rk y)) else none := by
 unfold Format.order
 rw [rk_sg x hx,rk_sg y hy]
 unfold some'
 rcases Nat.lt_trichotomy (x % 9223372036854775808) 9218868437227405312 with h1 | h1 | h1
 ·obtain ⟨m,p,e1,v1⟩ := read_small x h1
  rw [e1]
  rcases Nat.lt_trichotomy (y % 9223372036854775808) 9218868437227405312 with h2 | h2 | h2
  ·obtain ⟨n,q,e2,v2⟩ := read_small y h2
   rw [e2,order_numbers,v1,v2,cmp_V,if_pos (by simp;omega)]
  ·rw [read_inf y h2,if_pos (by simp;omega),h2]
   generalize (x / 9223372036854775808 % 2 == 1) = s
   generalize (y / 9223372036854775808 % 2 == 1) = t
   rw [compare_int]
   unfold sg
   cases t
   ·show some Ordering.lt = _
    rw [if_pos (by cases s <;> simp <;> omega)]
   ·show some Ordering.gt = _
    rw [if_neg (by cases s <;> simp <;> omega),if_neg (by cases s <;> simp <;> omega)]
  ·obtain ⟨t,f,e2⟩ := read_nan y h2
   rw [e2,if_neg (by simp;omega)];rfl
 ·rw [read_inf x h1]
  rcases Nat.lt_trichotomy (y % 9223372036854775808) 9218868437227405312 with h2 | h2 | h2
  ·obtain ⟨n,q,e2,v2⟩ := read_small y h2
   rw [e2,if_pos (by simp;omega),h1]
   generalize (x / 9223372036854775808 % 2 == 1) = s
   generalize (y / 9223372036854775808 % 2 == 1) = t
   rw [compare_int]
   unfold sg
   cases s
   ·show some Ordering.gt = _
    rw [if_neg (by cases t <;> simp <;> omega),if_neg (by cases t <;> simp <;> omega)]
   ·show some Ordering.lt = _
    rw [if_pos (by cases t <;> simp <;> omega)]
  ·rw [read_inf y h2,if_pos (by simp;omega),h1,h2]
   generalize (x / 9223372036854775808 % 2 == 1) = s
   generalize (y / 9223372036854775808 % 2 == 1) = t
   rw [compare_int]
   cases s <;> cases t <;> rfl
  ·obtain ⟨t,f,e2⟩ := read_nan y h2
   rw [e2,if_neg (by simp;omega)];rfl
 ·obtain ⟨s,f,e1⟩ := read_nan x h1
  rw [e1,if_neg (by simp;omega)];rfl
def wordN (n : Nat) : Nat := double.nearest false n 0
theorem pow_le_log {n : Nat} (hn : n ≠ 0) : 2 ^ n.log2 ≤ n ∧ n < 2 ^ (n.log2 + 1) := ⟨Nat.log2_self_le hn,Nat.lt_log2_self⟩
theorem log2_le {n k : Nat} (hn : n ≠ 0) (h : n < 2 ^ (k + 1)) : n.log2 ≤ k := by
 have h1 := (pow_le_log hn).1
 by_cases hk : n.log2 ≤ k
 ·exact hk
 ·exfalso
  have : 2 ^ (k + 1) ≤ 2 ^ n.log2 := Nat.pow_le_pow_right (by decide) (by omega)
  omega
theorem cut_zero (way : Toward) (neg : Bool) (n : Nat) : way.cut neg n 0 = n := by
 unfold Toward.cut
 simp only [Nat.zero_min,Nat.shiftLeft_zero,Nat.div_one,Nat.mod_one]
 cases way <;> simp
theorem wordN_eq (n : Nat) (h0 : 0 < n) (h1 : n < 9007199254740992) : wordN n = (1022 + n.log2) * 4503599627370496 + n * 2 ^ (52 - n.log2) := by
 have hl : n.log2 ≤ 52 := log2_le (by omega) (by simpa using h1)
 unfold wordN Format.nearest
 rw [if_neg (by omega)]
 have e1 : max ((0 : Int) + (n.log2 : Int) - (double.fractionBits : Int)) double.leastPlace = (n.log2 : Int) - 52 := by
  show max ((0 : Int) + (n.log2 : Int) - 52) (-1074) = _
  omega
 simp only [e1]
 have e2 : ((0 : Int) - ((n.log2 : Int) - 52)).toNat = 52 - n.log2 := by omega
 have e3 : ((n.log2 : Int) - 52 - 0).toNat = 0 := by omega
 have e4 : ((n.log2 : Int) - 52 - double.leastPlace).toNat = 1022 + n.log2 := by
  show ((n.log2 : Int) - 52 - (-1074)).toNat = _
  omega
 rw [e2,e3,e4,cut_zero,shl_eq]
 have hm : n * 2 ^ (52 - n.log2) < 9007199254740992 := by
  have := (pow_le_log (n := n) (by omega)).2
  calc n * 2 ^ (52 - n.log2) < 2 ^ (n.log2 + 1) * 2 ^ (52 - n.log2) := Nat.mul_lt_mul_of_pos_right this (Nat.two_pow_pos _)
   _ = 2 ^ 53 := by rw [← Nat.pow_add];congr 1;omega
   _ = 9007199254740992 := by decide
 show double.word false (min ((1022 + n.log2) * 4503599627370496 + n * 2 ^ (52 - n.log2)) 9218868437227405312) = _
 rw [Nat.min_eq_left (by omega)]
 rfl
theorem wordN_top : wordN 9007199254740992 = 4845873199050653696 := by decide +kernel
theorem wordN_Vu (n u : Nat) (hu : u = 1074) (h1 : n ≤ 9007199254740992) : V (wordN n) = n * 2 ^ u ∧ wordN n < 9218868437227405312 := by
 rcases Nat.eq_zero_or_pos n with h0 | h0
 ·subst h0
  have e0 : wordN 0 = 0 := by decide +kernel
  rw [e0]
  refine ⟨?_,by decide⟩
  rw [Nat.zero_mul];rfl
 rcases Nat.lt_or_eq_of_le h1 with h1 | h1
 ·have hl : n.log2 ≤ 52 := log2_le (by omega) (by simpa using h1)
  have hp := pow_le_log (n := n) (by omega)
  have hm : n * 2 ^ (52 - n.log2) < 9007199254740992 := by
   calc n * 2 ^ (52 - n.log2) < 2 ^ (n.log2 + 1) * 2 ^ (52 - n.log2) := Nat.mul_lt_mul_of_pos_right hp.2 (Nat.two_pow_pos _)
    _ = 2 ^ 53 := by rw [← Nat.pow_add];congr 1;omega
    _ = 9007199254740992 := by decide
  have hm2 : 4503599627370496 ≤ n * 2 ^ (52 - n.log2) := by
   calc 4503599627370496 = 2 ^ 52 := by decide
    _ = 2 ^ n.log2 * 2 ^ (52 - n.log2) := by rw [← Nat.pow_add];congr 1;omega
    _ ≤ n * 2 ^ (52 - n.log2) := Nat.mul_le_mul_right _ hp.1
  have hw := wordN_eq n h0 h1
  have hexp : n * 2 ^ (52 - n.log2) * 2 ^ (1022 + n.log2) = n * 2 ^ u := by
   rw [Nat.mul_assoc,← Nat.pow_add];congr 2;omega
  generalize n * 2 ^ (52 - n.log2) = m at hw hm hm2 hexp
  rw [hw]
  refine ⟨?_,by omega⟩
  have e1 : ((1022 + n.log2) * 4503599627370496 + m) / 4503599627370496 = 1023 + n.log2 := by omega
  have e2 : ((1022 + n.log2) * 4503599627370496 + m) % 4503599627370496 = m - 4503599627370496 := by omega
  generalize (1022 + n.log2) * 4503599627370496 + m = r at e1 e2
  unfold V
  rw [if_neg (by omega)]
  rw [e1,e2,show 4503599627370496 + (m - 4503599627370496) = m from by omega,show 1023 + n.log2 - 1 = 1022 + n.log2 from by omega,hexp]
 ·have hw := wordN_top
  rw [h1,hw]
  refine ⟨?_,by decide⟩
  have e1 : 4845873199050653696 / 4503599627370496 = 1076 := by decide
  have e2 : 4845873199050653696 % 4503599627370496 = 0 := by decide
  generalize (4845873199050653696 : Nat) = r at e1 e2
  unfold V
  rw [if_neg (by omega),e1,e2,show 1076 - 1 = u + 1 from by omega,Nat.pow_succ,Nat.add_zero]
  generalize 2 ^ u = q
  omega
theorem wordN_V (n : Nat) (h1 : n ≤ 9007199254740992) : V (wordN n) = n * 2 ^ 1074 ∧ wordN n < 9218868437227405312 := wordN_Vu n 1074 rfl h1
theorem wordN_of_V (n r u : Nat) (hu : u = 1074) (h1 : n ≤ 9007199254740992) (h : V r = n * 2 ^ u) : r = wordN n := (V_eq_iff _ _).1 (h.trans (wordN_Vu n u hu h1).1.symm)
end Fl
end Go.Proofs.YtgjcibhhffkemaaGreatDoor
namespace Go.Proofs.YtgjcibhhffkemaaGreatDoor
open Go.RowKit
theorem ret_int {k : IntKind} {a b : Int} (h : a = b) : Ending.returned (.int k a) = .returned (.int k b) := by rw [h]
section
variable {P : Program} (w : World)
theorem run_equalIn_iface_int (d : Nat) {ti tn : TypeId} {ms : Array (String × TypeId)} {i : TypeInfo} {k : IntKind} (a b : Int)
  (hi : P.underlying ti = some (.interface ms)) (hn : P.underlying tn = some (.int k)) (hinfo : P.info? tn = some i) (hcomp : i.comparable = true) :
  (Op.equalIn (d + 2) ti (.iface tn (.int k a)) (.iface tn (.int k b))).run P w = .ok (a == b) w := by
 simp [Op.equalIn,run_underlying hi,run_underlying hn,typeInfo,hinfo,hcomp]
theorem run_eql_iface_int {ti tn : TypeId} {ms : Array (String × TypeId)} {i : TypeInfo} {k : IntKind} (a b : Int)
  (hi : P.underlying ti = some (.interface ms)) (hn : P.underlying tn = some (.int k)) (hinfo : P.info? tn = some i) (hcomp : i.comparable = true) :
  (binOp .eql ti (.iface tn (.int k a)) (.iface tn (.int k b))).run P w = .ok (.bool (a == b)) w := by
 simp only [binOp]
 simp [Op.equal,Op.maxDepth,run_equalIn_iface_int w 9998 a b hi hn hinfo hcomp]
end
theorem eql_code {P : Program} {ti tn : TypeId} (a b : Int)
  (hi : (P.underlying ti).map (fun d => match d with | .interface _ => true | _ => false) = some true) (hn : P.underlying tn = some (.int .i64)) (hc : (P.info? tn).map (·.comparable) = some true) (w : World) :
  (binOp .eql ti (.iface tn (.int .i64 a)) (.iface tn (.int .i64 b))).run P w = .ok (.bool (a == b)) w := by
 obtain ⟨i,hinfo,hcomp⟩ := Option.map_eq_some_iff.1 hc
 obtain ⟨d,hd,hx⟩ := Option.map_eq_some_iff.1 hi
 cases d with
 | interface ms => exact run_eql_iface_int w a b hd hn hinfo hcomp
 | _ => simp at hx
def AtG (w : World) (g T : Nat) (cs : Array Value) : Prop := w.heap[g]? = some (.cells cs T (0,0))
namespace AtG
variable {w w' : World} {g T : Nat} {cs : Array Value}
theorem lt (h : AtG w g T cs) : g < w.heap.size := (Array.getElem?_eq_some_iff.1 h).1
theorem cell (h : AtG w g T cs) (i : Nat) (v : Value) (hi : cs[i]? = some v) : w.cell? ⟨g,i,none⟩ = some v := by
 unfold AtG at h;simp [World.cell?,h,hi]
theorem frozen (h : AtG w g T cs) (i : Nat) : w.frozen? ⟨g,i,none⟩ = false := by
 unfold AtG at h;simp [World.frozen?,h]
theorem drew (h : AtG w g T cs) : AtG w.drew g T cs := h
theorem alloc (h : AtG w g T cs) (o : Obj) : AtG (w.alloc o) g T cs := by
 have := h.lt;unfold AtG at *;rw [Below.heap_alloc w o g this];exact h
theorem new (w : World) (T : Nat) (cs : Array Value) : AtG (w.alloc (.cells cs T)) w.heap.size T cs := heap_alloc_new w _
theorem set (h : AtG w g T cs) (i : Nat) (v : Value) : AtG (w.setCell ⟨g,i,none⟩ v) g T (cs.setIfInBounds i v) := by
 have hl := h.lt
 unfold AtG at *
 simp [World.setCell,Array.getElem?_modify,h]
theorem far (h : AtG w g T cs) {p : Addr} (hp : g ≠ p.block) (v : Value) : AtG (w.setCell p v) g T cs := by
 unfold AtG at *;rw [Below.heap_setCell w p v g hp];exact h
theorem below (h : AtG w g T cs) (hb : Below w.heap.size w w') : AtG w' g T cs := (hb.block g h.lt).trans h
theorem grown (h : AtG w g T cs) {row : Option Nat} (hg : w.grownBy w' row) (hr : row ≠ some g) : AtG w' g T cs := (hg.block g h.lt (fun e => hr e.symm)).trans h
end AtG
theorem gb_refl (w : World) (r : Option Nat) : w.grownBy w r := ⟨rfl,rfl,rfl,Nat.le_refl _,fun _ _ _ => rfl⟩
def codeOf (v : Int) : Int := if 1 ≤ v ∧ v ≤ 11 then v else -1
set_option maxHeartbeats 400000 in
theorem code_some (v : Int) (w : World) : Calls Tryz.prog 33 #[.iface 71 (.int .i64 v)] w fun e w' => e = .returned (.int .i64 (codeOf v)) ∧ w' = w := by
 have he := fun (x : Int) => eql_code (P := Tryz.prog) (ti := 28) (tn := 71) v x (by kernel_rfl) (by kernel_rfl) (by kernel_rfl) w
 go_enter Tryz.func33,Tryz.ntmps33
 go_wp2
 go_loop [3] (fun c => ∃ k : Nat,1 ≤ k ∧ k ≤ 12 ∧ c = .int .i64 k ∧ (v < 1 ∨ (k : Int) ≤ v)) (fun c => 12 - (intOf c).toNat)
 case atStart => exact ⟨1,by omega,by omega,rfl,by omega⟩
 case round =>
  obtain ⟨k,hk1,hk2,rfl,hv⟩ := hrel
  go_wp2
  ·have hvk : (v == (k : Int)) = true := by assumption
   have hvk' : v = k := by simpa using hvk
   go_ret
   exact ⟨ret_int (by unfold codeOf;rw [if_pos (by omega),hvk']),rfl⟩
  ·have hvk : (v == (k : Int)) = false := by assumption
   have hvk' : ¬ v = k := by simpa using hvk
   exact ⟨⟨k + 1,by omega,by omega,by go_num,by omega⟩,by simp [intOf];omega⟩
  ·go_ret
   exact ⟨ret_int (by unfold codeOf;rw [if_neg (by omega)]),rfl⟩
end Go.Proofs.YtgjcibhhffkemaaGreatDoor
namespace Go.Proofs.YtgjcibhhffkemaaGreatDoor
open Go.RowKit
theorem AtG.gb {w w' : World} {g k T : Nat} {cs : Array Value} (h : AtG w g T cs) (hg : w.grownBy w' (some k)) (hr : g ≠ k) : AtG w' g T cs := h.grown hg (fun e => hr (by injection e with e;exact e.symm))
end Go.Proofs.YtgjcibhhffkemaaGreatDoor
namespace Go.Proofs.YtgjcibhhffkemaaGreatDoor
open Go.RowKit Fl
theorem frombits_run (x : Int) (w : World) : (callFunc 54 #[.int .u64 x]).run Tryz.prog w = .ok (.value (.float .f64 x.toNat)) w := by kernel_rfl
theorem tobits_run (x : Nat) (w : World) : (callFunc 87 #[.float .f64 x]).run Tryz.prog w = .ok (.value (.int .u64 x)) w := by kernel_rfl
end Go.Proofs.YtgjcibhhffkemaaGreatDoor
namespace Go.Proofs.YtgjcibhhffkemaaGreatDoor
namespace Fl
open Ieee
theorem cut_low (way : Toward) (hw : way = .down ∨ way = .zero) (m d : Nat) : way.cut false m d = m / 2 ^ d := by
 have e : m / (1 <<< min d (m.log2 + 2)) = m / 2 ^ d := by
  rw [shl_eq,Nat.one_mul]
  by_cases h : d ≤ m.log2 + 2
  ·rw [Nat.min_eq_left h]
  ·rw [Nat.min_eq_right (by omega)]
   have h1 : m < 2 ^ (m.log2 + 1) := Nat.lt_log2_self
   have h2 : 2 ^ (m.log2 + 1) ≤ 2 ^ (m.log2 + 2) := Nat.pow_le_pow_right (by decide) (by omega)
   have h3 : 2 ^ (m.log2 + 1) ≤ 2 ^ d := Nat.pow_le_pow_right (by decide) (by omega)
   rw [Nat.div_eq_of_lt (by omega),Nat.div_eq_of_lt (by omega)]
 unfold Toward.cut
 rw [← e]
 rcases hw with rfl | rfl <;> rfl
theorem sign_low (x : Nat) (h : x < 9223372036854775808) : (x / 9223372036854775808 % 2 == 1) = false := by rw [beq_eq_false_iff_ne];omega
theorem integral_pos (way : Toward) (hw : way = .down ∨ way = .zero) (x u : Nat) (hu : u = 1074) (h : x < 9218868437227405312) : (double.read x).integral way = .number false (V x / 2 ^ u) 0 := by
 obtain ⟨m,p,e1,v1⟩ := read_small x (by omega)
 rw [e1,sign_low x (by omega)]
 rw [Nat.mod_eq_of_lt (show x < 9223372036854775808 by omega)] at v1
 show Datum.number false (way.cut false (m <<< (-1074 + (p : Int)).toNat) (-(-1074 + (p : Int))).toNat) 0 = _
 rw [← v1,cut_low way hw]
 congr 1
 by_cases hp : u ≤ p
 ·rw [show (-1074 + (p : Int)).toNat = p - u from by omega,show (-(-1074 + (p : Int))).toNat = 0 from by omega,shl_eq,Nat.pow_zero,Nat.div_one]
  rw [show 2 ^ p = 2 ^ (p - u) * 2 ^ u from by rw [← Nat.pow_add];congr 1;omega,← Nat.mul_assoc,Nat.mul_div_cancel _ (Nat.two_pow_pos u)]
 ·rw [show (-1074 + (p : Int)).toNat = 0 from by omega,show (-(-1074 + (p : Int))).toNat = u - p from by omega,Nat.shiftLeft_zero]
  rw [show 2 ^ u = 2 ^ (u - p) * 2 ^ p from by rw [← Nat.pow_add];congr 1;omega,Nat.mul_div_mul_right _ _ (Nat.two_pow_pos p)]
def flo (x : Nat) : Nat := V x / 2 ^ 1074
theorem flo_le_iff (n x u : Nat) (hu : u = 1074) (hn : n ≤ 9007199254740992) : n ≤ V x / 2 ^ u ↔ wordN n ≤ x := by
 have h1 := (wordN_Vu n u hu hn).1
 rw [Nat.le_div_iff_mul_le (Nat.two_pow_pos u),← h1]
 have h2 := V_lt_iff x (wordN n)
 omega
theorem le_flo (n x : Nat) (hn : n ≤ 9007199254740992) : n ≤ flo x ↔ wordN n ≤ x := flo_le_iff n x 1074 rfl hn
theorem wordN_lt_u (u n m : Nat) (hu : u = 1074) (hn : n ≤ 9007199254740992) (hm : m ≤ 9007199254740992) : wordN n < wordN m ↔ n < m := by
 rw [← V_lt_iff,(wordN_Vu n u hu hn).1,(wordN_Vu m u hu hm).1]
 exact Nat.mul_lt_mul_right (Nat.two_pow_pos _)
theorem wordN_lt_iff (n m : Nat) (hn : n ≤ 9007199254740992) (hm : m ≤ 9007199254740992) : wordN n < wordN m ↔ n < m := wordN_lt_u 1074 n m rfl hn hm
theorem flo_wordN (n : Nat) (hn : n < 9007199254740992) : flo (wordN n) = n := by
 have h1 := (le_flo n (wordN n) (by omega)).2 (Nat.le_refl _)
 have h2 := le_flo (n + 1) (wordN n) (by omega)
 have h7 := (wordN_lt_iff n (n + 1) (by omega) (by omega)).2 (by omega)
 by_cases h8 : n + 1 ≤ flo (wordN n)
 ·have := h2.1 h8;omega
 ·omega
def bitsN (n : Int) : Nat := if n < 0 then 9223372036854775808 + wordN n.natAbs else wordN n.natAbs
theorem one_word : wordN 1 = 4607182418800017408 := by decide +kernel
theorem most_word : wordN 1024 = 4652218415073722368 := by decide +kernel
def isRate (x : Nat) : Bool := decide (4607182418800017408 ≤ x ∧ x ≤ 4652218415073722368)
theorem flo_bd (x : Nat) (h : isRate x = true) : 1 ≤ flo x ∧ flo x ≤ 1024 := by
 unfold isRate at h
 rw [decide_eq_true_iff] at h
 refine ⟨(le_flo 1 x (by omega)).2 (by rw [one_word];exact h.1),?_⟩
 have := le_flo 1025 x (by omega)
 have e : wordN 1024 < wordN 1025 := (wordN_lt_iff 1024 1025 (by omega) (by omega)).2 (by omega)
 rw [most_word] at e
 omega
theorem ord_lt (x y : Nat) (hx : x < 18446744073709551616) (hy : y < 18446744073709551616) : (double.order x y == some .lt) = (some' x && some' y && decide (rk x < rk y)) := by
 rw [order_rank x y hx hy,compare_int]
 cases some' x <;> cases some' y <;> try rfl
 by_cases h1 : rk x < rk y
 ·rw [if_pos (show (true && true) = true from rfl),if_pos h1,decide_eq_true h1];rfl
 ·rw [if_pos (show (true && true) = true from rfl),if_neg h1,decide_eq_false h1];split <;> rfl
theorem ord_gt (x y : Nat) (hx : x < 18446744073709551616) (hy : y < 18446744073709551616) : (double.order x y == some .gt) = (some' x && some' y && decide (rk y < rk x)) := by
 rw [order_rank x y hx hy,compare_int]
 cases some' x <;> cases some' y <;> try rfl
 by_cases h1 : rk x < rk y
 ·rw [if_pos (show (true && true) = true from rfl),if_pos h1,decide_eq_false (by omega)];rfl
 ·rw [if_pos (show (true && true) = true from rfl),if_neg h1]
  by_cases h2 : rk x = rk y
  ·rw [if_pos h2,decide_eq_false (by omega)];rfl
  ·rw [if_neg h2,decide_eq_true (by omega)];rfl
theorem ord_eq (x y : Nat) (hx : x < 18446744073709551616) (hy : y < 18446744073709551616) : (double.order x y == some .eq) = (some' x && some' y && decide (rk x = rk y)) := by
 rw [order_rank x y hx hy,compare_int]
 cases some' x <;> cases some' y <;> try rfl
 by_cases h1 : rk x < rk y
 ·rw [if_pos (show (true && true) = true from rfl),if_pos h1,decide_eq_false (by omega)];rfl
 ·rw [if_pos (show (true && true) = true from rfl),if_neg h1]
  by_cases h2 : rk x = rk y
  ·rw [if_pos h2,decide_eq_true h2];rfl
  ·rw [if_neg h2,decide_eq_false h2];rfl
theorem ord_self (x : Nat) (hx : x < 18446744073709551616) : (double.order x x != some .eq) = !some' x := by
 show (!(double.order x x == some .eq)) = _
 rw [ord_eq x x hx hx,decide_eq_true rfl,Bool.and_true,Bool.and_self]
def isInf (x : Nat) : Bool := decide (x % 9223372036854775808 = 9218868437227405312)
theorem ord_inf (x : Nat) : (double.order (x % 9223372036854775808) 9218868437227405311 == some .gt) = isInf x := by
 rw [ord_gt _ _ (by omega) (by decide)]
 unfold isInf some' rk
 rw [if_neg (by omega),if_neg (by omega),Bool.eq_iff_iff]
 simp only [Bool.and_eq_true,decide_eq_true_eq]
 omega
theorem rate_test (x : Nat) (hx : x < 18446744073709551616) : (!some' x || isInf x || (double.order x 4607182418800017408 == some .lt) || (double.order x 4652218415073722368 == some .gt)) = !isRate x := by
 rw [ord_lt _ _ hx (by decide),ord_gt _ _ hx (by decide)]
 unfold isInf some' rk isRate
 rw [Bool.eq_iff_iff]
 simp only [Bool.and_eq_true,Bool.or_eq_true,Bool.not_eq_true',decide_eq_true_eq,decide_eq_false_iff_not]
 split <;> simp <;> omega
end Fl
end Go.Proofs.YtgjcibhhffkemaaGreatDoor
namespace Go.Proofs.YtgjcibhhffkemaaGreatDoor
open Go.RowKit Fl
theorem andNot_top (x : Nat) (hx : x < 18446744073709551616) : bits .andNot .u64 (x : Int) 9223372036854775808 = ((x % 9223372036854775808 : Nat) : Int) := by
 have h := u64_andNot_nat x 9223372036854775808 hx (by decide)
 have e : x &&& (18446744073709551615 - 9223372036854775808) = x % 9223372036854775808 := Nat.and_two_pow_sub_one_eq_mod x 63
 rw [e] at h
 exact h
section
attribute [local irreducible] FloatKind.decode
theorem floor_case (x : Nat) (s : Bool) (m : Nat) (i : Int) (hd : FloatKind.f64.decode x = .number s m i) : Extern.MathFloor.toIntegral "math.archFloor" .down #[.float .f64 x] = pure (.float .f64 (FloatKind.f64.encode ((Ieee.Datum.number s m i).integral .down))) := by
 conv => lhs;whnf
 generalize FloatKind.f64.decode x = d at hd ⊢
 subst hd
 rfl
end
theorem archFloor_code (v : Value) (w : World) : (callFunc 76 #[v]).run Tryz.prog w = ((Extern.MathFloor.toIntegral "math.archFloor" .down #[v]) >>= fun v => pure (Next.value v)).run Tryz.prog w := by kernel_rfl
end Go.Proofs.YtgjcibhhffkemaaGreatDoor
namespace Go.Proofs.YtgjcibhhffkemaaGreatDoor
open Go.RowKit Fl
theorem archFloor_run (x : Nat) (h : x < 9218868437227405312) (w : World) : (callFunc 76 #[.float .f64 x]).run Tryz.prog w = .ok (.value (.float .f64 (wordN (flo x)))) w := by
 obtain ⟨m,p,e1,v1⟩ := read_small x (by omega)
 have e2 := integral_pos .down (Or.inl rfl) x 1074 rfl h
 rw [e1] at e2
 rw [archFloor_code,floor_case x _ _ _ e1,e2]
 rfl
theorem toInt_flo (x : Nat) (h : isRate x = true) : floatToIntVal .f64 (wordN (flo x)) .i64 = some ((flo x : Nat) : Int) := by
 have hb := flo_bd x h
 have hw := (wordN_V (flo x) (by omega)).2
 have e2 := integral_pos .zero (Or.inr rfl) (wordN (flo x)) 1074 rfl hw
 have e3 := flo_wordN (flo x) (by omega)
 have e4 : (Ieee.double.read (wordN (flo x))).integral .zero = .number false (flo x) 0 := e2.trans (congrArg (fun n => Ieee.Datum.number false n 0) e3)
 have e5 : (FloatKind.f64.decode (wordN (flo x))).toInt .zero = some ((flo x : Nat) : Int) := by
  show (match (Ieee.double.read (wordN (flo x))).integral .zero with | .number s m _ => some (Ieee.signed s m 0) | _ => none) = _
  rw [e4]
  show some (Ieee.signed false (flo x) 0) = _
  unfold Ieee.signed
  simp
 unfold floatToIntVal
 rw [e5]
 simp [IntKind.min,IntKind.max,IntKind.signed,IntKind.bits]
 omega
theorem isRate_bd (x : Nat) (h : isRate x = true) : x < 9218868437227405312 := by
 unfold isRate at h;rw [decide_eq_true_iff] at h;omega
theorem tests_rate (a : Nat) (hx : a < 18446744073709551616) (h : isRate a = true) : (FloatKind.f64.format.order a a != some .eq) = false ∧ (FloatKind.f64.format.order (a % 9223372036854775808) 9218868437227405311 == some .gt) = false ∧ (FloatKind.f64.format.order a 4607182418800017408 == some .lt) = false ∧ (FloatKind.f64.format.order a 4652218415073722368 == some .gt) = false := by
 have ht := rate_test a hx
 rw [h] at ht
 simp only [Bool.not_true,Bool.or_eq_false_iff] at ht
 exact ⟨(ord_self a hx).trans ht.1.1.1,(ord_inf a).trans ht.1.1.2,ht.1.2,ht.2⟩
theorem tests_none (a : Nat) (hx : a < 18446744073709551616) (h : isRate a = false) : (FloatKind.f64.format.order a a != some .eq) = true ∨ (FloatKind.f64.format.order a a != some .eq) = false ∧ ((FloatKind.f64.format.order (a % 9223372036854775808) 9218868437227405311 == some .gt) = true ∨ (FloatKind.f64.format.order (a % 9223372036854775808) 9218868437227405311 == some .gt) = false ∧ ((FloatKind.f64.format.order a 4607182418800017408 == some .lt) = true ∨ (FloatKind.f64.format.order a 4607182418800017408 == some .lt) = false ∧ (FloatKind.f64.format.order a 4652218415073722368 == some .gt) = true)) := by
 have ht := rate_test a hx
 rw [h] at ht
 have e1 : (FloatKind.f64.format.order a a != some .eq) = !some' a := ord_self a hx
 have e2 : (FloatKind.f64.format.order (a % 9223372036854775808) 9218868437227405311 == some .gt) = isInf a := ord_inf a
 rw [e1,e2]
 generalize (!some' a) = p at ht ⊢
 generalize isInf a = q at ht ⊢
 change (p || q || (FloatKind.f64.format.order a 4607182418800017408 == some .lt) || (FloatKind.f64.format.order a 4652218415073722368 == some .gt)) = true at ht
 generalize (FloatKind.f64.format.order a 4607182418800017408 == some .lt) = r at ht ⊢
 generalize (FloatKind.f64.format.order a 4652218415073722368 == some .gt) = s at ht ⊢
 cases p <;> cases q <;> cases r <;> cases s <;> simp_all
theorem rateOf_any (a : Nat) (w : World) (hx : a < 18446744073709551616) :
  Calls Tryz.prog 36 #[.int .u64 a] w fun e w' => e = .returned (.tuple #[.int .i64 (if isRate a then flo a else 0),if isRate a then .nilIface else .iface 71 (.int .i64 1)]) ∧ w' = w := by
 have hf := frombits_run
 have ht := tobits_run
 have han := andNot_top a hx
 cases hR : isRate a
 ·rcases tests_none a hx hR with h1 | ⟨h1,h2 | ⟨h2,h3 | ⟨h3,h4⟩⟩⟩
  all_goals
   go_enter Tryz.func36,Tryz.ntmps36
   go_wp2
   go_returns
   exact ⟨rfl,rfl⟩
 ·obtain ⟨h1,h2,h3,h4⟩ := tests_rate a hx hR
  have ha := archFloor_run a (isRate_bd a hR)
  have hc := fun w => run_convert_float_int (P := Tryz.prog) w 120 3 .f64 .i64 _ _ (by rw [Tryz.underlying120];rfl) Tryz.underlying3 (toInt_flo a hR)
  go_enter Tryz.func36,Tryz.ntmps36
  go_wp2
  go_returns
  exact ⟨rfl,rfl⟩
end Go.Proofs.YtgjcibhhffkemaaGreatDoor
namespace Go.Proofs.YtgjcibhhffkemaaGreatDoor
open Go.RowKit Fl
def cfgV (L Q C : Int) (R : Nat) (M : Int) : Value := .agg #[.int .i64 L,.int .i64 Q,.int .i64 C,.int .u64 (R : Int),.int .u8 M]
def cfgC (L Q C : Int) (R : Nat) (M : Int) : Array Value := #[.int .i64 L,.int .i64 Q,.int .i64 C,.int .u64 (R : Int),.int .u8 M]
def CfgOk (L Q C : Int) (R : Nat) : Prop := 1 ≤ L ∧ L ≤ 32 ∧ isRate R = true ∧ (flo R : Int) ≤ Q ∧ Q ≤ 1024 ∧ 1 ≤ C ∧ C ≤ 1000
def errCode (c : Int) : Value := .iface 71 (.int .i64 c)
theorem cfg_cases (L Q C : Int) (R : Nat) (K : Prop) (h1 : L < 1 → ¬ CfgOk L Q C R → K) (h2 : ¬ L < 1 → 32 < L → ¬ CfgOk L Q C R → K) (h3 : ¬ L < 1 → ¬ 32 < L → isRate R = false → ¬ CfgOk L Q C R → K)
  (h4 : ¬ L < 1 → ¬ 32 < L → isRate R = true → Q < flo R → ¬ CfgOk L Q C R → K) (h5 : ¬ L < 1 → ¬ 32 < L → isRate R = true → ¬ Q < flo R → 1024 < Q → ¬ CfgOk L Q C R → K)
  (h6 : ¬ L < 1 → ¬ 32 < L → isRate R = true → ¬ Q < flo R → ¬ 1024 < Q → C < 1 → ¬ CfgOk L Q C R → K) (h7 : ¬ L < 1 → ¬ 32 < L → isRate R = true → ¬ Q < flo R → ¬ 1024 < Q → ¬ C < 1 → 1000 < C → ¬ CfgOk L Q C R → K)
  (h8 : ¬ L < 1 → ¬ 32 < L → isRate R = true → ¬ Q < flo R → ¬ 1024 < Q → ¬ C < 1 → ¬ 1000 < C → CfgOk L Q C R → K) : K := by
 unfold CfgOk at *
 by_cases a1 : L < 1
 ·exact h1 a1 (by omega)
 by_cases a2 : 32 < L
 ·exact h2 a1 a2 (by omega)
 cases a3 : isRate R
 ·exact h3 a1 a2 a3 (by rw [a3];simp)
 by_cases a4 : Q < flo R
 ·exact h4 a1 a2 a3 a4 (by omega)
 by_cases a5 : 1024 < Q
 ·exact h5 a1 a2 a3 a4 a5 (by omega)
 by_cases a6 : C < 1
 ·exact h6 a1 a2 a3 a4 a5 a6 (by omega)
 by_cases a7 : 1000 < C
 ·exact h7 a1 a2 a3 a4 a5 a6 a7 (by omega)
 ·exact h8 a1 a2 a3 a4 a5 a6 a7 ⟨by omega,by omega,a3,by omega,by omega,by omega,by omega⟩
theorem flo_small (R : Nat) (h : isRate R = true) : (flo R : Int) ≤ 1024 ∧ 1 ≤ (flo R : Int) := by have := flo_bd R h;omega
set_option maxRecDepth 100000 in
set_option maxHeartbeats 1600000 in
theorem cfgX (L Q C : Int) (R : Nat) (M : Int) (w : World) (hR : R < 18446744073709551616) : Calls Tryz.prog 21 #[cfgV L Q C R M] w fun e w' => Below w.heap.size w w' ∧ ((CfgOk L Q C R ∧ e = .returned (.tuple #[.int .i64 (flo R),.nilIface])) ∨ (¬ CfgOk L Q C R ∧ e = .returned (.tuple #[.int .i64 0,errCode 1]))) := by
 have HR0 := Lib.hid (fun w => rateOf_any R w hR)
 have HB : Hid (Below w.heap.size w (w.alloc (.cells (cfgC L Q C R M) 24))) := Lib.hid ((Below.refl _ _).alloc (Nat.le_refl _) _)
 have hF := flo_small R
 have g1 : ∀ w,(binOp BinOp.neq 28 .nilIface .nilIface).run Tryz.prog w = .ok (.bool false) w := fun w => by rfl
 have g2 : ∀ (w : World) (c : Int),(binOp BinOp.neq 28 (.iface 71 (.int .i64 c)) .nilIface).run Tryz.prog w = .ok (.bool true) w := fun w c => by rfl
 unfold cfgC at HB
 unfold cfgV errCode
 clear hR
 refine cfg_cases L Q C R _ ?_ ?_ ?_ ?_ ?_ ?_ ?_ ?_
 ·intro a1 hno
  have HNO := Lib.hid hno
  clear hno hF HR0
  go_enter Tryz.func21,Tryz.ntmps21
  go_wp2_with fail
  go_returns
  exact ⟨HB.out,.inr ⟨HNO.out,rfl⟩⟩
 ·intro a1 a2 hno
  have HNO := Lib.hid hno
  clear hno hF HR0
  go_enter Tryz.func21,Tryz.ntmps21
  go_wp2_with fail
  go_returns
  exact ⟨HB.out,.inr ⟨HNO.out,rfl⟩⟩
 ·intro a1 a2 a3 hno
  have HNO := Lib.hid hno
  have HR : Hid (∀ w,Calls Tryz.prog 36 #[.int .u64 R] w fun e w' => e = .returned (.tuple #[.int .i64 0,.iface 71 (.int .i64 1)]) ∧ w' = w) := Lib.hid (fun w => by have := HR0.out w;rw [a3] at this;exact this)
  clear hno hF HR0 a3
  go_enter Tryz.func21,Tryz.ntmps21
  go_wp2_with fail
  refine (HR.out _).mono ?_
  rintro e9 w9 ⟨rfl,hw9⟩;subst hw9
  go_wp2_with fail
  go_returns
  exact ⟨HB.out,.inr ⟨HNO.out,rfl⟩⟩
 all_goals
  intro a1 a2 a3
  obtain ⟨f1,f2⟩ := hF a3
  have HR : Hid (∀ w,Calls Tryz.prog 36 #[.int .u64 R] w fun e w' => e = .returned (.tuple #[.int .i64 (flo R : Int),.nilIface]) ∧ w' = w) := Lib.hid (fun w => by have := HR0.out w;rw [a3] at this;exact this)
  clear HR0 hF a3
  generalize (flo R : Int) = k at *
 ·intro a4 hno
  have HNO := Lib.hid hno
  clear hno
  go_enter Tryz.func21,Tryz.ntmps21
  go_wp2_with fail
  refine (HR.out _).mono ?_
  rintro e9 w9 ⟨rfl,hw9⟩;subst hw9
  go_wp2_with fail
  go_returns
  exact ⟨HB.out,.inr ⟨HNO.out,rfl⟩⟩
 ·intro a4 a5 hno
  have HNO := Lib.hid hno
  clear hno
  go_enter Tryz.func21,Tryz.ntmps21
  go_wp2_with fail
  refine (HR.out _).mono ?_
  rintro e9 w9 ⟨rfl,hw9⟩;subst hw9
  go_wp2_with fail
  go_returns
  exact ⟨HB.out,.inr ⟨HNO.out,rfl⟩⟩
 ·intro a4 a5 a6 hno
  have HNO := Lib.hid hno
  clear hno
  go_enter Tryz.func21,Tryz.ntmps21
  go_wp2_with fail
  refine (HR.out _).mono ?_
  rintro e9 w9 ⟨rfl,hw9⟩;subst hw9
  go_wp2_with fail
  go_returns
  exact ⟨HB.out,.inr ⟨HNO.out,rfl⟩⟩
 ·intro a4 a5 a6 a7 hno
  have HNO := Lib.hid hno
  clear hno
  go_enter Tryz.func21,Tryz.ntmps21
  go_wp2_with fail
  refine (HR.out _).mono ?_
  rintro e9 w9 ⟨rfl,hw9⟩;subst hw9
  go_wp2_with fail
  go_returns
  exact ⟨HB.out,.inr ⟨HNO.out,rfl⟩⟩
 ·intro a4 a5 a6 a7 hno
  have HNO := Lib.hid hno
  clear hno
  go_enter Tryz.func21,Tryz.ntmps21
  go_wp2_with fail
  refine (HR.out _).mono ?_
  rintro e9 w9 ⟨rfl,hw9⟩;subst hw9
  go_wp2_with fail
  go_returns
  exact ⟨HB.out,.inl ⟨HNO.out,rfl⟩⟩
end Go.Proofs.YtgjcibhhffkemaaGreatDoor
namespace Go.Proofs.YtgjcibhhffkemaaGreatDoor
open Go.RowKit
section
variable {w w1 : World} {base : Nat} {e : TypeId} {size n : Nat} {v : Value} {xs : List Value}
theorem own_base (h : w.ownsRow base e size v n xs) (k : Nat) (hk : v.ownBlock = some k) : base ≤ k := by
 rcases h.2 with ⟨rfl,_⟩ | ⟨g,cap,cur,rfl,hb,_⟩
 ·simp [Value.ownBlock] at hk
 ·have : g = k := Option.some.inj hk
  omega
theorem own_nil (w : World) (base : Nat) (e : TypeId) (size : Nat) : w.ownsRow base e size (.slice none 0 0) 0 [] := ⟨by simp,.inl ⟨rfl,rfl⟩⟩
theorem own_below (h : w.ownsRow base e size v n xs) (hb : Below w.heap.size w w1) : w1.ownsRow base e size v n xs := by
 refine ⟨h.1,?_⟩
 rcases h.2 with h | ⟨g,cap,cur,rfl,hg,hh,hr⟩
 ·exact .inl h
 ·exact .inr ⟨g,cap,cur,rfl,hg,(hb.block g (Array.getElem?_eq_some_iff.1 hh).1).trans hh,hr⟩
theorem own_grown (h : w.ownsRow base e size v n xs) {row : Option Nat} (hg : w.grownBy w1 row) (hr : ∀ k,v.ownBlock = some k → some k ≠ row) : w1.ownsRow base e size v n xs := by
 refine ⟨h.1,?_⟩
 rcases h.2 with h | ⟨g,cap,cur,rfl,hb,hh,hx⟩
 ·exact .inl h
 ·exact .inr ⟨g,cap,cur,rfl,hb,(hg.block g (Array.getElem?_eq_some_iff.1 hh).1 (hr g rfl)).trans hh,hx⟩
theorem own_lt (h : w.ownsRow base e size v n xs) (k : Nat) (hk : v.ownBlock = some k) : k < w.heap.size := by
 rcases h.2 with ⟨rfl,_⟩ | ⟨g,cap,cur,rfl,hb,hh,_⟩
 ·simp [Value.ownBlock] at hk
 ·have : g = k := Option.some.inj hk
  subst this
  exact (Array.getElem?_eq_some_iff.1 hh).1
theorem own_lower {b' : Nat} (h : w.ownsRow base e size v n xs) (hb : b' ≤ base) : w.ownsRow b' e size v n xs := by
 refine ⟨h.1,?_⟩
 rcases h.2 with h | ⟨g,cap,cur,rfl,hg,hr⟩
 ·exact .inl h
 ·exact .inr ⟨g,cap,cur,rfl,Nat.le_trans hb hg,hr⟩
theorem own_cells (h : w.ownsRow base e 1 v n xs) : (v = .slice none 0 0 ∧ xs = []) ∨ ∃ g cap,v = .slice (some ⟨g,0,none⟩) xs.length cap ∧ xs.length ≤ cap ∧ cap ≤ maxLen ∧ base ≤ g ∧ g < w.heap.size ∧ ∀ j u,xs[j]? = some u → w.cell? ⟨g,j,none⟩ = some u := by
 have hl := h.1
 rcases h.2 with ⟨rfl,h0⟩ | ⟨g,cap,cur,rfl,hb,hh,hnc,hcm,hcs,hct⟩
 ·refine .inl ⟨rfl,List.eq_nil_of_length_eq_zero (by omega)⟩
 ·refine .inr ⟨g,cap,by rw [hl,Nat.mul_one],by omega,hcm,hb,(Array.getElem?_eq_some_iff.1 hh).1,fun j u hu => ?_⟩
  rw [← hct] at hu
  have : cur[j]? = some u := by
   rw [List.getElem?_take] at hu
   split at hu
   ·simpa using hu
   ·cases hu
  simp [World.cell?,hh,this]
end
section
variable {P : Program} {ops : Array Oper} {rest : List Oper} {o : Oper} {a : Act} {Q : Exit → Act → World → Prop}
theorem app1 {w0 W : World} (base B : Nat) (hBb : B ≤ base) (hgd : o.guard = none) (s x : Operand) (t e : TypeId) (z : Value) (bytes : Nat)
  (ho : o.op = .call { callee := .builtin .append,args := #[s,x],argTypes := #[t,t] })
  (ht : P.underlying t = some (.slice e)) (hinfo : (P.info? e).map (fun i => (i.zero,i.size,i.bytes)) = some (some z,1,bytes)) (hz : z.cells.size = 1) (hb0 : 0 < bytes)
  (v : Value) (n : Nat) (xs : List Value) (y : Value) (HO : W.ownsRow base e 1 v n xs) (hs : a.eval s = v) (hx : a.eval x = .slice (some ⟨W.heap.size,0,none⟩) 1 1) (h1 : y.oneCell' = true)
  (HB : Below B w0 W) (hbase : base ≤ W.heap.size) (hl : (n + 1) * bytes ≤ 140737488355328)
  (h : ∀ v1 w1,w1.ownsRow base e 1 v1 (n + 1) (xs ++ [y]) → Below B w0 w1 → W.grownBy w1 v.ownBlock → wpList P ops Q rest (a.put o.dst v1) w1) :
  wpList P ops Q (o :: rest) a (W.alloc (.cells #[y] e)) := by
 obtain ⟨i0,hi,hz0,hz1,hz2⟩ := info_parts hinfo
 have hlen : n + 1 ≤ 140737488355328 := Nat.le_trans (Nat.le_mul_of_pos_right _ hb0) hl
 refine wpList_append_own (W.alloc (.cells #[y] e)) hgd s x t ho base e i0 z 1 bytes ht hi hz0 hz1 hz2 hz (by omega) v n xs hs (own_below HO (Below.alloc (Below.refl _ _) (Nat.le_refl _) _)) ⟨W.heap.size,0,none⟩ 1 1 [y] hx rfl
  (fun j u hu => by
   obtain rfl : j = 0 := by have := (List.getElem?_eq_some_iff.1 hu).1;simp at this;exact this
   obtain rfl : y = u := by simpa using hu
   have e1 : (⟨W.heap.size,0,none⟩ : Addr).add 0 = ⟨W.heap.size,0,none⟩ := by unfold Addr.add;simp
   rw [e1];exact (AtG.new W e #[y]).cell 0 y rfl) (by simpa using h1) (by simp only [maxLen];omega) hl (by simp;omega) ?_
 intro v1 w1 hown hg _
 exact h v1 w1 hown ((HB.alloc (by omega) _).grown hg (by simp;omega) (fun k hk => Nat.le_trans hBb (own_base HO k hk))) (World.grownBy.trans (World.grownBy_alloc W _ _) hg)
def SrcRow (w : World) (u : Value) (m : Nat) (ys : List Value) : Prop :=
 (u = .slice none 0 0 ∧ ys = [] ∧ m = 0) ∨ ∃ ad c,u = .slice (some ad) m c ∧ ∀ j y,ys[j]? = some y → w.cell? (ad.add j) = some y
theorem wp_appRow {w : World} {K : Act → World → Prop} (s x : Operand) (t : TypeId)
  (ho : o.op = .call { callee := .builtin .append,args := #[s,x],argTypes := #[t,t] })
  (base : Nat) (e : TypeId) (z : Value) (size bytes : Nat) (ht : P.underlying t = some (.slice e)) (hinfo : (P.info? e).map (fun i => (i.zero,i.size,i.bytes)) = some (some z,size,bytes)) (hzs : z.cells.size = size) (hsz : 0 < size)
  (v u : Value) (n m : Nat) (xs ys : List Value) (HO : w.ownsRow base e size v n xs) (HS : SrcRow w u m ys) (hs : a.eval s = v) (hx : a.eval x = u) (hl : ys.length = m * size) (h1 : ∀ y ∈ ys,y.oneCell' = true)
  (hbytes : (n + m) * bytes ≤ 140737488355328) (hb0 : 0 < bytes) (hbase : base ≤ w.heap.size)
  (h : ∀ v' w',w'.ownsRow base e size v' (n + m) (xs ++ ys) → w.grownBy w' v.ownBlock → K (a.put o.dst v') w') : o.wp P a w K Q := by
 obtain ⟨i0,hi,hz0,hz1,hz2⟩ := info_parts hinfo
 have h63 : n + m ≤ maxLen := by
  have : n + m ≤ (n + m) * bytes := Nat.le_mul_of_pos_right _ hb0
  unfold maxLen;omega
 rcases HS with ⟨rfl,rfl,rfl⟩ | ⟨ad,c,rfl,hc⟩
 ·have hrun := run_append_owned_none (P := P) (w := w) base t o.type e i0 size ht hi v n xs HO
  unfold Oper.wp
  simp [execOp,ho,resolve,invoke,builtin,hs,hx,hrun,Result.andThen]
  exact h v w (by simpa using HO) (gb_refl _ _)
 ·obtain ⟨v',w',hr,h2,h3,_,_⟩ := run_append_own_at (P := P) w base t o.type e i0 z size bytes ht hi hz0 hz1 hz2 hzs hsz v n xs HO ad m c ys hl hc h1 h63 hbytes hbase
  unfold Oper.wp execOp
  simp only [ho,resolve,invoke,builtin,Sem.run_bind,Sem.run_pure,Result.andThen_ok,List.map_toArray,List.map_cons,List.map_nil,hs,hx,hr]
  exact h v' w' h2 h3
theorem wpList_appRow {w : World} (hgd : o.guard = none) (s x : Operand) (t : TypeId)
  (ho : o.op = .call { callee := .builtin .append,args := #[s,x],argTypes := #[t,t] })
  (base : Nat) (e : TypeId) (z : Value) (size bytes : Nat) (ht : P.underlying t = some (.slice e)) (hinfo : (P.info? e).map (fun i => (i.zero,i.size,i.bytes)) = some (some z,size,bytes)) (hzs : z.cells.size = size) (hsz : 0 < size)
  (v u : Value) (n m : Nat) (xs ys : List Value) (HO : w.ownsRow base e size v n xs) (HS : SrcRow w u m ys) (hs : a.eval s = v) (hx : a.eval x = u) (hl : ys.length = m * size) (h1 : ∀ y ∈ ys,y.oneCell' = true)
  (hbytes : (n + m) * bytes ≤ 140737488355328) (hb0 : 0 < bytes) (hbase : base ≤ w.heap.size)
  (h : ∀ v' w',w'.ownsRow base e size v' (n + m) (xs ++ ys) → w.grownBy w' v.ownBlock → wpList P ops Q rest (a.put o.dst v') w') : wpList P ops Q (o :: rest) a w :=
 wpList_plain hgd fun _ hK => wp_appRow s x t ho base e z size bytes ht hinfo hzs hsz v u n m xs ys HO HS hs hx hl h1 hbytes hb0 hbase fun v' w' h2 h3 => hK _ _ (h v' w' h2 h3)
theorem step_appRow {w : World} {K : Act → World → Prop} {E : Prop} (hgd : o.guard = none) (s x : Operand) (t : TypeId)
  (ho : o.op = .call { callee := .builtin .append,args := #[s,x],argTypes := #[t,t] })
  (base : Nat) (e : TypeId) (z : Value) (size bytes : Nat) (ht : P.underlying t = some (.slice e)) (hinfo : (P.info? e).map (fun i => (i.zero,i.size,i.bytes)) = some (some z,size,bytes)) (hzs : z.cells.size = size) (hsz : 0 < size)
  (v u : Value) (n m : Nat) (xs ys : List Value) (HO : w.ownsRow base e size v n xs) (HS : SrcRow w u m ys) (hs : a.eval s = v) (hx : a.eval x = u) (hl : ys.length = m * size) (h1 : ∀ y ∈ ys,y.oneCell' = true)
  (hbytes : (n + m) * bytes ≤ 140737488355328) (hb0 : 0 < bytes) (hbase : base ≤ w.heap.size)
  (h : ∀ v' w',w'.ownsRow base e size v' (n + m) (xs ++ ys) → w.grownBy w' v.ownBlock → K (a.put o.dst v') w') :
  if Region.wanted o (yielded ops a.tmps) = true then Oper.wp P o a w K Q else E := by
 have hw : Region.wanted o (yielded ops a.tmps) = true := by simp [Region.wanted,hgd]
 rw [if_pos hw]
 exact wp_appRow s x t ho base e z size bytes ht hinfo hzs hsz v u n m xs ys HO HS hs hx hl h1 hbytes hb0 hbase h
theorem src_own {w : World} {base n : Nat} {e : TypeId} {v : Value} {xs : List Value} (h : w.ownsRow base e 1 v n xs) : SrcRow w v n xs := by
 have hl := h.1
 rcases own_cells h with ⟨rfl,rfl⟩ | ⟨g,cap,rfl,_,_,_,_,hc⟩
 ·exact .inl ⟨rfl,rfl,by simpa using hl.symm⟩
 ·refine .inr ⟨⟨g,0,none⟩,cap,by rw [show xs.length = n from by omega],fun j y hy => ?_⟩
  have e1 : (⟨g,0,none⟩ : Addr).add j = ⟨g,j,none⟩ := by unfold Addr.add;split <;> simp_all
  rw [e1];exact hc j y hy
end
end Go.Proofs.YtgjcibhhffkemaaGreatDoor
namespace Go.Proofs.YtgjcibhhffkemaaGreatDoor
open Go.RowKit
structure Only (S : Nat → Prop) (w w' : World) : Prop where
 os : w'.os = w.os
 tape : w'.tape = w.tape
 output : w'.output = w.output
 size : w.heap.size ≤ w'.heap.size
 block : ∀ k,k < w.heap.size → ¬ S k → w'.heap[k]? = w.heap[k]?
namespace Only
variable {S T : Nat → Prop} {w w1 w2 : World}
theorem refl (w : World) : Only S w w := ⟨rfl,rfl,rfl,Nat.le_refl _,fun _ _ _ => rfl⟩
theorem of_below (h : Below w.heap.size w w1) : Only S w w1 := ⟨h.os,h.tape,h.output,h.size,fun k hk _ => h.block k hk⟩
theorem trans (h : Only S w w1) (h' : Only T w1 w2) (hT : ∀ k,T k → S k ∨ w.heap.size ≤ k) : Only S w w2 :=
 ⟨h'.os.trans h.os,h'.tape.trans h.tape,h'.output.trans h.output,Nat.le_trans h.size h'.size,fun k hk hS =>
  (h'.block k (Nat.lt_of_lt_of_le hk h.size) (fun ht => (hT k ht).elim hS (fun g => by omega))).trans (h.block k hk hS)⟩
theorem mono (h : Only T w w1) (hT : ∀ k,T k → S k ∨ w.heap.size ≤ k) : Only S w w1 := (refl w).trans h hT
theorem below {B : Nat} (h : Only S w w1) (hB : B ≤ w.heap.size) (hS : ∀ k,S k → B ≤ k) : Below B w w1 :=
 ⟨h.os,h.tape,h.output,h.size,fun k hk => h.block k (by omega) (fun hs => by have := hS k hs;omega)⟩
theorem of_grown {r : Option Nat} (h : w.grownBy w1 r) (hr : ∀ k,r = some k → S k) : Only S w w1 :=
 ⟨h.os,h.tape,h.output,h.size,fun k hk hS => h.block k hk (fun e => hS (hr k e.symm))⟩
theorem set (w : World) (g i : Nat) (v : Value) (hg : S g) : Only S w (w.setCell ⟨g,i,none⟩ v) :=
 ⟨rfl,rfl,rfl,by simp,fun k _ hS => Below.heap_setCell w _ v k (fun e => hS (by rw [e];exact hg))⟩
theorem drew (h : Only S w w1) : Only S w w1.drew := ⟨h.os,h.tape,h.output,h.size,h.block⟩
end Only
theorem AtG.only {S : Nat → Prop} {w w1 : World} {g T : Nat} {cs : Array Value} (h : AtG w g T cs) (ho : Only S w w1) (hS : ¬ S g) : AtG w1 g T cs := (ho.block g h.lt hS).trans h
theorem own_only {S : Nat → Prop} {w w1 : World} {base n e size : Nat} {v : Value} {xs : List Value} (h : w.ownsRow base e size v n xs) (ho : Only S w w1) (hS : ∀ k,v.ownBlock = some k → ¬ S k) : w1.ownsRow base e size v n xs := by
 refine ⟨h.1,?_⟩
 rcases h.2 with h2 | ⟨g,cap,cur,rfl,hb,hh,rest⟩
 ·exact .inl h2
 ·exact .inr ⟨g,cap,cur,rfl,hb,(ho.block g (Array.getElem?_eq_some_iff.1 hh).1 (hS g rfl)).trans hh,rest⟩
theorem AtG.ne {w : World} {g g' T T' : Nat} {cs cs' : Array Value} (h : AtG w g T cs) (h' : AtG w g' T' cs') (hT : T ≠ T') : g ≠ g' := by
 rintro rfl
 unfold AtG at h h'
 rw [h] at h'
 injection h' with h'
 injection h' with _ e _
 exact hT e
end Go.Proofs.YtgjcibhhffkemaaGreatDoor
namespace Go.Proofs.YtgjcibhhffkemaaGreatDoor
open Go.RowKit
section
variable {P : Program} {ops : Array Oper} {rest : List Oper} {o : Oper} {a : Act} {Q : Exit → Act → World → Prop}
theorem wp_appRowX {w : World} {K : Act → World → Prop} (s x : Operand) (t : TypeId)
  (ho : o.op = .call { callee := .builtin .append,args := #[s,x],argTypes := #[t,t] })
  (base : Nat) (e : TypeId) (z : Value) (size bytes : Nat) (ht : P.underlying t = some (.slice e)) (hinfo : (P.info? e).map (fun i => (i.zero,i.size,i.bytes)) = some (some z,size,bytes)) (hzs : z.cells.size = size) (hsz : 0 < size)
  (v u : Value) (n m : Nat) (xs ys : List Value) (HO : w.ownsRow base e size v n xs) (HS : SrcRow w u m ys) (hs : a.eval s = v) (hx : a.eval x = u) (hl : ys.length = m * size) (h1 : ∀ y ∈ ys,y.oneCell' = true)
  (hbytes : (n + m) * bytes ≤ 140737488355328) (hb0 : 0 < bytes) (hbase : base ≤ w.heap.size)
  (h : ∀ v' w',w'.ownsRow base e size v' (n + m) (xs ++ ys) → w.grownBy w' v.ownBlock → (v'.ownBlock = v.ownBlock ∨ v'.ownBlock = some w.heap.size) → K (a.put o.dst v') w') : o.wp P a w K Q := by
 obtain ⟨i0,hi,hz0,hz1,hz2⟩ := info_parts hinfo
 have h63 : n + m ≤ maxLen := by
  have : n + m ≤ (n + m) * bytes := Nat.le_mul_of_pos_right _ hb0
  unfold maxLen;omega
 rcases HS with ⟨rfl,rfl,rfl⟩ | ⟨ad,c,rfl,hc⟩
 ·have hrun := run_append_owned_none (P := P) (w := w) base t o.type e i0 size ht hi v n xs HO
  unfold Oper.wp
  simp [execOp,ho,resolve,invoke,builtin,hs,hx,hrun,Result.andThen]
  exact h v w (by simpa using HO) (gb_refl _ _) (.inl rfl)
 ·obtain ⟨v',w',hr,h2,h3,_,h5⟩ := run_append_own_at (P := P) w base t o.type e i0 z size bytes ht hi hz0 hz1 hz2 hzs hsz v n xs HO ad m c ys hl hc h1 h63 hbytes hbase
  unfold Oper.wp execOp
  simp only [ho,resolve,invoke,builtin,Sem.run_bind,Sem.run_pure,Result.andThen_ok,List.map_toArray,List.map_cons,List.map_nil,hs,hx,hr]
  exact h v' w' h2 h3 h5
theorem wpList_appRowX {w : World} (hgd : o.guard = none) (s x : Operand) (t : TypeId)
  (ho : o.op = .call { callee := .builtin .append,args := #[s,x],argTypes := #[t,t] })
  (base : Nat) (e : TypeId) (z : Value) (size bytes : Nat) (ht : P.underlying t = some (.slice e)) (hinfo : (P.info? e).map (fun i => (i.zero,i.size,i.bytes)) = some (some z,size,bytes)) (hzs : z.cells.size = size) (hsz : 0 < size)
  (v u : Value) (n m : Nat) (xs ys : List Value) (HO : w.ownsRow base e size v n xs) (HS : SrcRow w u m ys) (hs : a.eval s = v) (hx : a.eval x = u) (hl : ys.length = m * size) (h1 : ∀ y ∈ ys,y.oneCell' = true)
  (hbytes : (n + m) * bytes ≤ 140737488355328) (hb0 : 0 < bytes) (hbase : base ≤ w.heap.size)
  (h : ∀ v' w',w'.ownsRow base e size v' (n + m) (xs ++ ys) → w.grownBy w' v.ownBlock → (v'.ownBlock = v.ownBlock ∨ v'.ownBlock = some w.heap.size) → wpList P ops Q rest (a.put o.dst v') w') : wpList P ops Q (o :: rest) a w :=
 wpList_plain hgd fun _ hK => wp_appRowX s x t ho base e z size bytes ht hinfo hzs hsz v u n m xs ys HO HS hs hx hl h1 hbytes hb0 hbase fun v' w' h2 h3 h4 => hK _ _ (h v' w' h2 h3 h4)
end
theorem src_at {w : World} {k T n : Nat} {cs : Array Value} (h : AtG w k T cs) (c : Nat) : SrcRow w (.slice (some ⟨k,0,none⟩) n c) n cs.toList :=
 .inr ⟨⟨k,0,none⟩,c,rfl,fun j y hy => by
  have e1 : (⟨k,0,none⟩ : Addr).add j = ⟨k,j,none⟩ := by unfold Addr.add;split <;> simp_all
  rw [e1];exact h.cell j y (by simpa using hy)⟩
theorem own_form {w : World} {base n e size : Nat} {v : Value} {xs : List Value} (h : w.ownsRow base e size v n xs) : ∃ a c,v = .slice a n c := by
 rcases h.2 with ⟨rfl,h0⟩ | ⟨g,cap,cur,rfl,_⟩
 ·exact ⟨none,0,by rw [h0]⟩
 ·exact ⟨_,_,rfl⟩
end Go.Proofs.YtgjcibhhffkemaaGreatDoor
namespace Go.Proofs.YtgjcibhhffkemaaGreatDoor
open Go.RowKit
def RdK (k : IntKind) (w : World) (v : Value) (xs : List Int) : Prop :=
 (xs = [] ∧ ∃ a c,v = .slice a 0 c) ∨ ∃ b off cap,v = .slice (some ⟨b,off,none⟩) xs.length cap ∧ xs.length ≤ cap ∧ xs.length ≤ 140737488355328 ∧
  (∀ j,j < xs.length → w.cell? ⟨b,off + j,none⟩ = some (.int k (xs.getD j 0))) ∧ (∀ x ∈ xs,(Lit.int k x).wf = true)
theorem RdK.mk {k : IntKind} {w : World} {x : Addr} {len cap : Nat} {zs : List Int} (hl : len ≤ cap) (hz : zs.length = cap) (hc : ∀ i,i < zs.length → w.cell? (x.add i) = some (.int k (zs.getD i 0))) (hw : ∀ n ∈ zs,(Lit.int k n).wf = true) (hm : len ≤ 140737488355328) :
  RdK k w (.slice (some x) len cap) (zs.take len) := by
 have hlen : (zs.take len).length = len := by simp;omega
 rcases Nat.eq_zero_or_pos len with h0 | h0
 ·subst h0;exact .inl ⟨by simp,_,_,rfl⟩
 obtain ⟨b,off,sp⟩ := x
 have hsp : sp = Option.none := by
  have h := hc 0 (by omega)
  have e : (⟨b,off,sp⟩ : Addr).add 0 = ⟨b,off,sp⟩ := by unfold Addr.add;simp
  rw [e] at h
  cases sp with
  | none => rfl
  | some s =>
   exfalso
   unfold World.cell? at h
   split at h
   ·simp at h
   ·cases h
 subst hsp
 refine .inr ⟨b,off,cap,by rw [hlen],by omega,by omega,fun j hj => ?_,fun x hx => hw x (List.mem_of_mem_take hx)⟩
 have h := hc j (by omega)
 have e : (⟨b,off,Option.none⟩ : Addr).add j = ⟨b,off + j,Option.none⟩ := by unfold Addr.add;split <;> simp_all
 rw [e] at h
 rw [h]
 simp only [List.getD_eq_getElem?_getD,List.getElem?_take]
 rw [if_pos (by omega)]
end Go.Proofs.YtgjcibhhffkemaaGreatDoor
namespace Go.Proofs.YtgjcibhhffkemaaGreatDoor
open Go.RowKit
def rdr (s : ByteArray) (p o b x : Int) : Array Value := #[.string s,.int .i64 p,.int .i64 o,.int .i64 b,.int .i64 x]
theorem fail_no (g : Nat) (s : ByteArray) (p o b x at' bad : Int) (w : World) (h : AtG w g 114 (rdr s p o b x)) (hb : b ≠ 0) :
  Calls Tryz.prog 99 #[.pointer (some ⟨g,0,none⟩),.int .i64 at',.int .i64 bad] w fun e w' => e = .returned (.tuple #[]) ∧ w' = w := by
 unfold rdr at *
 have z := h.cell 3 _ rfl
 have e : (b == 0) = false := by rw [beq_eq_false_iff_ne];exact hb
 clear h
 go_enter Tryz.func99,Tryz.ntmps99
 go_wp2
 go_returns
 exact ⟨rfl,rfl⟩
theorem fail_yes (g : Nat) (s : ByteArray) (p o x at' bad : Int) (w : World) (h : AtG w g 114 (rdr s p o 0 x)) :
  Calls Tryz.prog 99 #[.pointer (some ⟨g,0,none⟩),.int .i64 at',.int .i64 bad] w fun e w' => e = .returned (.tuple #[]) ∧ AtG w' g 114 (rdr s p o bad at') ∧ w' = (w.setCell ⟨g,3,none⟩ (.int .i64 bad)).setCell ⟨g,4,none⟩ (.int .i64 at') := by
 unfold rdr at *
 have z := h.cell 3 _ rfl
 have f3 := h.frozen 3
 have f4 := h.frozen 4
 have c4 := h.cell 4 _ rfl
 have H := Lib.hid h;clear h
 go_enter Tryz.func99,Tryz.ntmps99
 go_wp2
 go_returns
 exact ⟨rfl,(H.out.set 3 _).set 4 _,rfl⟩
end Go.Proofs.YtgjcibhhffkemaaGreatDoor
namespace Go.Proofs.YtgjcibhhffkemaaGreatDoor
open Go.RowKit
namespace Rg
structure Rl where
 R : Value → World → Prop
 st : ∀ v w w',R v w → Below w.heap.size w w' → R v w'
def eq (X : Value) : Rl := ⟨fun v _ => v = X,fun _ _ _ h _ => h⟩
theorem mk {X : Value} {w : World} : (eq X).R X w := rfl
def any : Rl := ⟨fun _ _ => True,fun _ _ _ _ _ => trivial⟩
def waits (o : Oper) (j : Nat) : Bool := o.after.toList.any fun e => Region.binds .any e && e.on == j
def reach (l : List Oper) : Nat → Nat → Nat → Bool
 | 0,_,_ => false
 | n + 1,i,j => match l[i]? with
  | none => false
  | some o => o.after.toList.any fun e => Region.binds .any e && (e.on == j || reach l n e.on j)
def waitsFar (l : List Oper) (n : Nat) (o : Oper) (j : Nat) : Bool := o.after.toList.any fun e => Region.binds .any e && (e.on == j || reach l n e.on j)
def isDst (l : List Oper) (t : Nat) : Bool := l.any fun o => o.dst == some t
def dstsOk (n : Nat) : List Oper → Bool
 | [] => true
 | o :: l => (match o.dst with | none => true | some d => decide (d < n) && !isDst l d) && dstsOk n l
def edgesOk : Nat → List Oper → Bool
 | _,[] => true
 | i,o :: l => (o.after.toList.all fun e => !Region.binds .any e || decide (e.on < i)) && edgesOk (i + 1) l
section
variable (P : Program) (ops : Array Oper) (Q : Exit → Act → World → Prop) (J : World → Prop) (b : Act)
def look : List (Nat × Rl) → Nat → Option Rl
 | [],_ => none
 | (k,r) :: l,j => if k == j then some r else look l j
structure Known (Rs : List (Nat × Rl)) (o : Oper) (a : Act) (w : World) : Prop where
 j : J w
 base : ∀ t x,isDst ops.toList t = false → b.tmps.toList[t]? = some x → a.tmps[t]? = some x
 dep : ∀ i t r,waits o i = true → (ops.toList[i]?).bind (·.dst) = some t → look Rs i = some r → ∃ v,a.tmps[t]? = some v ∧ r.R v w
 far : ∀ n i t r,waitsFar ops.toList n o i = true → (ops.toList[i]?).bind (·.dst) = some t → look Rs i = some r → ∃ v,a.tmps[t]? = some v ∧ r.R v w
def One (Rs : List (Nat × Rl)) (o : Oper) (r : Rl) : Prop :=
 ∀ a w,Known ops J b Rs o a w →
  if Region.wanted o (yielded ops a.tmps) = true then ∀ K : Act → World → Prop,(∀ v w',r.R v w' → Below w.heap.size w w' → K (a.put o.dst v) w') → o.wp P a w K Q else r.R undef w
def Fin (D : List Deferred) : List Oper → List Rl → List Value → World → Prop
 | [],[],base,w => Q .normal ⟨base.toArray,D⟩ w
 | o :: os,r :: rs,base,w => match o.dst with
  | some d => ∀ v,r.R v w → Fin D os rs (base.set d v) w
  | none => Fin D os rs base w
 | _,_,_,_ => False
def Build : Nat → List Oper → List (Nat × Rl) → Prop
 | _,[],Rs => ∀ w,J w → Fin Q b.defers ops.toList (Rs.reverse.map (·.2)) b.tmps.toList w
 | n,o :: l,Rs => ∃ r : Rl,One P ops Q J b Rs o r ∧ Build (n + 1) l ((n,r) :: Rs)
end
section
variable {P : Program} {ops : Array Oper} {Q : Exit → Act → World → Prop} {J : World → Prop} {b : Act}
theorem dst_lt {n : Nat} : ∀ {l : List Oper},dstsOk n l = true → ∀ (i : Nat) (o : Oper) (t : Nat),l[i]? = some o → o.dst = some t → t < n
 | [],_,i,o,t,h,_ => by simp at h
 | p :: l,h,0,o,t,ho,hd => by
  simp only [dstsOk,Bool.and_eq_true] at h
  obtain rfl : p = o := by simpa using ho
  have := h.1;rw [hd] at this;simp at this;exact this.1
 | p :: l,h,i + 1,o,t,ho,hd => by
  simp only [dstsOk,Bool.and_eq_true] at h
  exact dst_lt h.2 i o t (by simpa using ho) hd
theorem isDst_of {l : List Oper} {i : Nat} {o : Oper} {t : Nat} (h : l[i]? = some o) (hd : o.dst = some t) : isDst l t = true := by
 unfold isDst;rw [List.any_eq_true];exact ⟨o,List.mem_of_getElem? h,by simp [hd]⟩
theorem dst_ne {n : Nat} : ∀ {l : List Oper},dstsOk n l = true → ∀ (i j : Nat) (o p : Oper) (t : Nat),l[i]? = some o → l[j]? = some p → o.dst = some t → p.dst = some t → i = j
 | [],_,i,j,o,p,t,h,_,_,_ => by simp at h
 | q :: l,h,i,j,o,p,t,ho,hp,hod,hpd => by
  simp only [dstsOk,Bool.and_eq_true] at h
  cases i with
  | zero => cases j with
   | zero => rfl
   | succ j =>
    exfalso
    obtain rfl : q = o := by simpa using ho
    have h1 := h.1;rw [hod] at h1;simp at h1
    have := isDst_of (l := l) (i := j) (by simpa using hp) hpd
    rw [h1.2] at this;cases this
  | succ i => cases j with
   | zero =>
    exfalso
    obtain rfl : q = p := by simpa using hp
    have h1 := h.1;rw [hpd] at h1;simp at h1
    have := isDst_of (l := l) (i := i) (by simpa using ho) hod
    rw [h1.2] at this;cases this
   | succ j => rw [dst_ne h.2 i j o p t (by simpa using ho) (by simpa using hp) hod hpd]
theorem edge_lt : ∀ {l : List Oper} {m : Nat},edgesOk m l = true → ∀ (i : Nat) (o : Oper) (e : Edge),l[i]? = some o → e ∈ o.after → Region.binds .any e = true → e.on < m + i
 | [],_,_,i,o,e,h,_,_ => by simp at h
 | p :: l,m,h,0,o,e,ho,he,hb => by
  simp only [edgesOk,Bool.and_eq_true,List.all_eq_true] at h
  obtain rfl : p = o := by simpa using ho
  have := h.1 e (by simpa using he);rw [hb] at this;simpa using this
 | p :: l,m,h,i + 1,o,e,ho,he,hb => by
  simp only [edgesOk,Bool.and_eq_true] at h
  have := edge_lt h.2 i o e (by simpa using ho) he hb
  omega
def unl (n : Nat) (listed : Array Bool) : Nat := (List.range n).countP fun i => !listed.getD i true
theorem countP_upd {p q : Nat → Bool} {i : Nat} : ∀ {l : List Nat},l.Nodup → i ∈ l → p i = true → q i = false → (∀ j,j ≠ i → q j = p j) → l.countP q + 1 = l.countP p
 | [],_,h,_,_,_ => by simp at h
 | x :: l,hn,hi,hp,hq,hj => by
  rw [List.nodup_cons] at hn
  by_cases hx : x = i
  ·subst hx
   have : l.countP q = l.countP p := List.countP_congr fun y hy => by rw [hj y (fun e => hn.1 (e ▸ hy))]
   rw [List.countP_cons_of_neg (by simp [hq]),List.countP_cons_of_pos (by simp [hp]),this]
  ·have := countP_upd hn.2 (by rcases List.mem_cons.1 hi with h | h;exact absurd h.symm hx;exact h) hp hq hj
   rw [List.countP_cons,List.countP_cons,hj x hx];omega
theorem unl_set {n i : Nat} {listed : Array Bool} (hs : listed.size = n) (hi : listed.getD i true = false) : unl n (listed.setIfInBounds i true) + 1 = unl n listed := by
 have hlt : i < listed.size := by
  rcases Nat.lt_or_ge i listed.size with h | h
  ·exact h
  ·simp [Array.getElem?_eq_none h] at hi
 unfold unl
 refine countP_upd List.nodup_range (List.mem_range.2 (hs ▸ hlt)) (by simp only [hi];rfl) ?_ ?_
 ·simp [Array.getElem?_setIfInBounds_self_of_lt hlt]
 ·intro j hj;simp [Array.getElem?_setIfInBounds_ne (Ne.symm hj)]
theorem all_of_ready {listed : Array Bool} (he : edgesOk 0 ops.toList = true) (hr : Region.ready .any ops listed = []) (hs : listed.size = ops.size) : ∀ i,i < ops.size → listed.getD i false = true := by
 intro i
 induction i using Nat.strongRecOn with
 | _ i ih =>
  intro hi
  cases h : listed.getD i true with
  | true =>
   have hl : i < listed.size := by omega
   simp [hl] at h ⊢;exact h
  | false =>
   exfalso
   have : i ∈ Region.ready .any ops listed := by
    rw [mem_ready]
    refine ⟨h,ops[i],by simp [hi],fun e hm hb => ?_⟩
    have hl := edge_lt he i ops[i] e (by simp [hi]) hm hb
    exact ih e.on (by omega) (by omega)
   rw [hr] at this;cases this
theorem reach_spec {l : List Oper} {listed : Array Bool} (hc : ∀ (i : Nat) (o : Oper) (e : Edge),l[i]? = some o → listed.getD i false = true → e ∈ o.after → Region.binds .any e = true → listed.getD e.on false = true) :
  ∀ n i j,reach l n i j = true → listed.getD i false = true → listed.getD j false = true
 | 0,i,j,h,_ => by simp [reach] at h
 | n + 1,i,j,h,hi => by
  unfold reach at h
  split at h
  ·cases h
  ·rename_i o ho
   rw [List.any_eq_true] at h
   obtain ⟨e,he,hj⟩ := h
   simp only [Bool.and_eq_true,Bool.or_eq_true,beq_iff_eq] at hj
   have hl := hc i o e ho hi (by simpa using he) hj.1
   rcases hj.2 with rfl | h2
   ·exact hl
   ·exact reach_spec hc n e.on j h2 hl
theorem waitsFar_spec {l : List Oper} {listed : Array Bool} (hc : ∀ (i : Nat) (o : Oper) (e : Edge),l[i]? = some o → listed.getD i false = true → e ∈ o.after → Region.binds .any e = true → listed.getD e.on false = true)
  {n j : Nat} {o : Oper} (h : waitsFar l n o j = true) (ho : ∀ e ∈ o.after,Region.binds .any e = true → listed.getD e.on false = true) : listed.getD j false = true := by
 unfold waitsFar at h
 rw [List.any_eq_true] at h
 obtain ⟨e,he,hj⟩ := h
 simp only [Bool.and_eq_true,Bool.or_eq_true,beq_iff_eq] at hj
 have hl := ho e (by simpa using he) hj.1
 rcases hj.2 with rfl | h2
 ·exact hl
 ·exact reach_spec hc n e.on j h2 hl
theorem closed_set {l : List Oper} {listed : Array Bool} {i : Nat} {o : Oper} (hc : ∀ (i : Nat) (o : Oper) (e : Edge),l[i]? = some o → listed.getD i false = true → e ∈ o.after → Region.binds .any e = true → listed.getD e.on false = true)
  (hi : l[i]? = some o) (ho : ∀ e ∈ o.after,Region.binds .any e = true → listed.getD e.on false = true) :
  ∀ (k : Nat) (p : Oper) (e : Edge),l[k]? = some p → (listed.setIfInBounds i true).getD k false = true → e ∈ p.after → Region.binds .any e = true → (listed.setIfInBounds i true).getD e.on false = true := by
 intro k p e hp hk he hb
 have up : ∀ m,listed.getD m false = true → (listed.setIfInBounds i true).getD m false = true := fun m hm => by
  by_cases hmi : i = m
  ·subst hmi
   rcases Nat.lt_or_ge i listed.size with h | h
   ·simp [Array.getElem?_setIfInBounds_self_of_lt h]
   ·simp [Array.getElem?_eq_none h] at hm
  ·have : (listed.setIfInBounds i true).getD m false = listed.getD m false := by simp [Array.getElem?_setIfInBounds_ne hmi]
   rw [this];exact hm
 by_cases hki : k = i
 ·subst hki
  obtain rfl : o = p := by rw [hi] at hp;exact Option.some.inj hp
  exact up _ (ho e he hb)
 ·have : (listed.setIfInBounds i true).getD k false = listed.getD k false := by simp [Array.getElem?_setIfInBounds_ne (Ne.symm hki)]
  rw [this] at hk
  exact up _ (hc k p e hp hk he hb)
theorem ready_of_unl {listed : Array Bool} (h : unl ops.size listed = 0) : Region.ready .any ops listed = [] := by
 rw [List.eq_nil_iff_forall_not_mem]
 intro i hi
 obtain ⟨h1,o,ho,_⟩ := mem_ready.1 hi
 have hlt : i < ops.size := (Array.getElem?_eq_some_iff.1 ho).1
 unfold unl at h
 rw [List.countP_eq_zero] at h
 have := h i (List.mem_range.2 hlt)
 rw [h1] at this;exact this rfl
structure Inv (ops : Array Oper) (J : World → Prop) (b : Act) (Rs : List Rl) (listed : Array Bool) (a : Act) (w : World) : Prop where
 j : J w
 defers : a.defers = b.defers
 size : a.tmps.size = b.tmps.size
 base : ∀ t,isDst ops.toList t = false → a.tmps[t]? = b.tmps[t]?
 closed : ∀ (i : Nat) (o : Oper) (e : Edge),ops.toList[i]? = some o → listed.getD i false = true → e ∈ o.after → Region.binds .any e = true → listed.getD e.on false = true
 dep : ∀ (i : Nat) (o : Oper) (t : Nat) (r : Rl),ops[i]? = some o → o.dst = some t → listed.getD i false = true → Rs[i]? = some r → ∃ v,a.tmps[t]? = some v ∧ r.R v w
theorem Inv.put {Rs : List Rl} {listed : Array Bool} {a : Act} {w w' : World} {i : Nat} {o : Oper} {r : Rl} {v : Value} (hd : dstsOk b.tmps.size ops.toList = true) (stJ : ∀ w w',J w → Below w.heap.size w w' → J w')
  (h : Inv ops J b Rs listed a w) (ho : ops[i]? = some o) (hr : Rs[i]? = some r) (hv : r.R v w') (hb : Below w.heap.size w w') (hs : listed.size = ops.size) (hdep : ∀ e ∈ o.after,Region.binds .any e = true → listed.getD e.on false = true) : Inv ops J b Rs (listed.setIfInBounds i true) (a.put o.dst v) w' := by
 have ho' : ops.toList[i]? = some o := by simpa using ho
 refine ⟨stJ _ _ h.j hb,?_,?_,?_,closed_set h.closed ho' hdep,?_⟩
 ·cases hd : o.dst <;> simp [Act.put,h.defers]
 ·cases hd : o.dst <;> simp [Act.put,h.size]
 ·intro t ht
  cases hod : o.dst with
  | none => simpa [Act.put] using h.base t ht
  | some d =>
   have hne : d ≠ t := fun e => by subst e;rw [isDst_of ho' hod] at ht;cases ht
   simpa [Act.put,Array.getElem?_setIfInBounds_ne hne] using h.base t ht
 ·intro k p t s hp hpd hl hs'
  by_cases hki : k = i
  ·subst hki
   obtain rfl : o = p := by rw [ho] at hp;exact Option.some.inj hp
   obtain rfl : r = s := by rw [hr] at hs';exact Option.some.inj hs'
   have hlt : t < a.tmps.size := by rw [h.size];exact dst_lt hd k o t ho' hpd
   refine ⟨v,?_,hv⟩
   simp [Act.put,hpd,Array.getElem?_setIfInBounds_self_of_lt hlt]
  ·have hl' : listed.getD k false = true := by
    have : (listed.setIfInBounds i true).getD k false = listed.getD k false := by simp [Array.getElem?_setIfInBounds_ne (Ne.symm hki)]
    rw [this] at hl;exact hl
   obtain ⟨u,hu,hru⟩ := h.dep k p t s hp hpd hl' hs'
   refine ⟨u,?_,s.st _ _ _ hru hb⟩
   cases hod : o.dst with
   | none => simpa [Act.put] using hu
   | some d =>
    have hne : d ≠ t := fun e => hki (by subst e;exact (dst_ne hd i k o p d ho' (by simpa using hp) hod hpd).symm)
    simpa [Act.put,Array.getElem?_setIfInBounds_ne hne] using hu
theorem run {Rs : List Rl} (hd : dstsOk b.tmps.size ops.toList = true) (he : edgesOk 0 ops.toList = true) (stJ : ∀ w w',J w → Below w.heap.size w w' → J w') (hlen : Rs.length = ops.size)
  (one : ∀ (i : Nat) (o : Oper) (r : Rl),ops[i]? = some o → Rs[i]? = some r → ∃ Ls : List (Nat × Rl),(∀ j s,look Ls j = some s → Rs[j]? = some s) ∧ One P ops Q J b Ls o r)
  (fin : ∀ a w listed,Inv ops J b Rs listed a w → (∀ i,i < ops.size → listed.getD i false = true) → Q .normal a w) :
  ∀ fuel listed a w,listed.size = ops.size → unl ops.size listed = fuel → Inv ops J b Rs listed a w → wpAny P .any ops Q fuel listed a w
 | 0,listed,a,w,hs,hu,h => ⟨ready_of_unl hu,fin a w listed h (all_of_ready he (ready_of_unl hu) hs)⟩
 | fuel + 1,listed,a,w,hs,hu,h => by
  refine ⟨fun hr => fin a w listed h (all_of_ready he hr hs),fun i hi => ?_⟩
  obtain ⟨h1,o,ho,hdep⟩ := mem_ready.1 hi
  have hlt : i < ops.size := (Array.getElem?_eq_some_iff.1 ho).1
  obtain ⟨r,hr⟩ : ∃ r,Rs[i]? = some r := ⟨_,List.getElem?_eq_getElem (hlen ▸ hlt)⟩
  have hu' := unl_set (i := i) hs h1
  obtain ⟨Ls,hLs,hone⟩ := one i o r ho hr
  have hk : Known ops J b Ls o a w := by
   refine ⟨h.j,fun t x ht hx => by rw [h.base t ht];simpa using hx,fun j t s hj ht hrs => ?_,fun n j t q hj ht hrs => ?_⟩
   rotate_left
   ·obtain ⟨p,hp,hpt⟩ := Option.bind_eq_some_iff.1 ht
    exact h.dep j p t q (by simpa using hp) hpt (waitsFar_spec h.closed hj hdep) (hLs _ _ hrs)
   obtain ⟨p,hp,hpt⟩ := Option.bind_eq_some_iff.1 ht
   unfold waits at hj;rw [List.any_eq_true] at hj
   obtain ⟨e,hem,hej⟩ := hj
   simp only [Bool.and_eq_true,beq_iff_eq] at hej
   obtain ⟨hbind,rfl⟩ := hej
   exact h.dep e.on p t s (by simpa using hp) hpt (hdep e (by simpa using hem) hbind) (hLs _ _ hrs)
  have hone := hone a w hk
  unfold wpOp
  simp only [ho]
  split
  ·rename_i hw
   rw [if_pos hw] at hone
   exact .inl (hone _ fun v w' hv hb => run hd he stJ hlen one fin fuel _ _ _ (by simpa using hs) (by omega) (h.put hd stJ ho hr hv hb hs hdep))
  ·rename_i hw
   rw [if_neg hw] at hone
   exact run hd he stJ hlen one fin fuel _ _ _ (by simpa using hs) (by omega) (h.put hd stJ ho hr hone (Below.refl _ _) hs hdep)
theorem fin_of {D : List Deferred} {w : World} {a : Act} (hD : a.defers = D) : ∀ (os : List Oper) (rs : List Rl) (base : List Value),
  dstsOk base.length os = true → os.length = rs.length → a.tmps.size = base.length →
  (∀ t,isDst os t = false → a.tmps[t]? = base[t]?) →
  (∀ (i : Nat) (o : Oper) (t : Nat) (r : Rl),os[i]? = some o → o.dst = some t → rs[i]? = some r → ∃ v,a.tmps[t]? = some v ∧ r.R v w) →
  Fin Q D os rs base w → Q .normal a w
 | [],[],base,_,_,hs,hb,_,h => by
  have : a.tmps = base.toArray := by
   apply Array.ext_getElem?
   intro t;rw [hb t rfl];simp
  obtain ⟨tm,df⟩ := a
  simp only at this hD
  subst this;subst hD
  exact h
 | o :: os,r :: rs,base,hd,hl,hs,hb,hr,h => by
  simp only [dstsOk,Bool.and_eq_true] at hd
  simp only [Fin] at h
  cases hod : o.dst with
  | none =>
   rw [hod] at h
   refine fin_of hD os rs base hd.2 (by simpa using hl) hs (fun t ht => hb t ?_) (fun i p t s hp hpd hs' => hr (i + 1) p t s (by simpa using hp) hpd (by simpa using hs')) h
   unfold isDst at ht ⊢;rw [List.any_cons,ht];simp [hod]
  | some d =>
   rw [hod] at h
   have hd1 := hd.1;rw [hod] at hd1;simp at hd1
   obtain ⟨v,hv,hrv⟩ := hr 0 o d r rfl hod rfl
   refine fin_of hD os rs (base.set d v) (by simpa using hd.2) (by simpa using hl) (by simpa using hs) (fun t ht => ?_) (fun i p t s hp hpd hs' => hr (i + 1) p t s (by simpa using hp) hpd (by simpa using hs')) (h v hrv)
   by_cases htd : d = t
   ·subst htd;rw [hv,List.getElem?_set_self hd1.1]
   ·rw [List.getElem?_set_ne htd]
    refine hb t ?_
    unfold isDst at ht ⊢;rw [List.any_cons,ht];simp [hod,htd]
 | [],_ :: _,_,_,h,_,_,_,_ => by simp at h
 | _ :: _,[],_,_,h,_,_,_,_ => by simp at h
def Num : List (Nat × Rl) → Prop
 | [] => True
 | (k,_) :: l => k = l.length ∧ Num l
theorem look_spec : ∀ {l : List (Nat × Rl)},Num l → ∀ j r,look l j = some r → (l.reverse.map (·.2))[j]? = some r
 | [],_,j,r,h => by simp [look] at h
 | (k,s) :: l,⟨hk,hn⟩,j,r,h => by
  simp only [look] at h
  rw [List.reverse_cons,List.map_append]
  split at h
  ·rename_i hkj
   have : k = j := by simpa using hkj
   subst this;cases h
   rw [List.getElem?_append_right (by simp [hk])];simp [hk]
  ·have := look_spec hn j r h
   rw [List.getElem?_append_left (List.getElem?_eq_some_iff.1 this).1];exact this
theorem build_spec : ∀ (l : List Oper) (n : Nat) (Rs : List (Nat × Rl)),Num Rs → Rs.length = n → Build P ops Q J b n l Rs →
  ∃ rs : List Rl,rs.length = l.length ∧ (∀ (i : Nat) (o : Oper) (r : Rl),l[i]? = some o → rs[i]? = some r → ∃ Ls : List (Nat × Rl),(∀ j s,look Ls j = some s → (Rs.reverse.map (·.2) ++ rs)[j]? = some s) ∧ One P ops Q J b Ls o r) ∧ (∀ w,J w → Fin Q b.defers ops.toList (Rs.reverse.map (·.2) ++ rs) b.tmps.toList w)
 | [],n,Rs,_,_,h => ⟨[],rfl,by simp,by simpa [Build] using h⟩
 | o :: l,n,Rs,hn,hl,⟨r,h1,h2⟩ => by
  obtain ⟨rs,hlen,ho,hf⟩ := build_spec l (n + 1) ((n,r) :: Rs) ⟨hl.symm,hn⟩ (by simp [hl]) h2
  have e : ((n,r) :: Rs).reverse.map (·.2) ++ rs = Rs.reverse.map (·.2) ++ (r :: rs) := by simp
  rw [e] at ho hf
  refine ⟨r :: rs,by simp [hlen],?_,hf⟩
  intro i p s hp hs
  cases i with
  | zero =>
   obtain rfl : o = p := by simpa using hp
   obtain rfl : r = s := by simpa using hs
   refine ⟨Rs,fun j s hj => ?_,h1⟩
   have := look_spec hn j s hj
   rw [List.getElem?_append_left (List.getElem?_eq_some_iff.1 this).1];exact this
  | succ i => exact ho i p s (by simpa using hp) (by simpa using hs)
theorem wp_region_each {id : Nat} {w : World} (hm : P.follows .mixedOrders = true) (J : World → Prop) (stJ : ∀ w w',J w → Below w.heap.size w w' → J w')
  (hd : dstsOk b.tmps.toList.length ops.toList = true) (he : edgesOk 0 ops.toList = true) (hJ : J w) (h : Build P ops Q J b 0 ops.toList []) : (Code.region id ops true).wp P Q b w := by
 obtain ⟨rs,hl,ho,hf⟩ := build_spec _ 0 [] trivial rfl h
 simp only [List.reverse_nil,List.map_nil,List.nil_append] at ho hf
 refine wp_region_any hm ?_
 have hd' : dstsOk b.tmps.size ops.toList = true := by simpa using hd
 have hl' : rs.length = ops.size := by simpa using hl
 refine run (Rs := rs) hd' he stJ hl' (fun i o r hio hr => ho i o r (by simpa using hio) hr) (fun a w' listed hi hall => ?_) ops.size _ b w.drew (by simp) ?_ ?_
 ·refine fin_of (D := b.defers) hi.defers ops.toList rs b.tmps.toList hd (by simpa using hl.symm) (by simpa using hi.size) (fun t ht => by rw [hi.base t ht];simp) (fun i o t r hio hot hr => ?_) (hf w' hi.j)
  have hio' : ops[i]? = some o := by simpa using hio
  exact hi.dep i o t r hio' hot (hall i (Array.getElem?_eq_some_iff.1 hio').1) hr
 ·unfold unl
  rw [List.countP_eq_length.2]
  ·simp
  ·intro i hi;rw [List.mem_range] at hi;simp [hi]
 ·refine ⟨stJ _ _ hJ (Below.refl _ _).drew,rfl,rfl,fun _ _ => rfl,fun i o e hio hl _ _ => ?_,fun i o t r hio _ hl _ => ?_⟩
  ·have hlt : i < ops.size := by simpa using (List.getElem?_eq_some_iff.1 hio).1
   simp [hlt] at hl
  have hlt : i < ops.size := (Array.getElem?_eq_some_iff.1 hio).1
  simp [hlt] at hl
theorem build_cons {n m : Nat} {o : Oper} {l : List Oper} {Rs : List (Nat × Rl)} {r : Rl} (h : One P ops Q J b Rs o r) (h2 : Build P ops Q J b m l ((n,r) :: Rs)) (hm : m = n + 1) : Build P ops Q J b n (o :: l) Rs := by subst hm;exact ⟨r,h,h2⟩
theorem build_end {n : Nat} {Rs : List (Nat × Rl)} (h : ∀ w,J w → Fin Q b.defers ops.toList (Rs.reverse.map (·.2)) b.tmps.toList w) : Build P ops Q J b n [] Rs := h
theorem fin_none {D : List Deferred} {o : Oper} {os : List Oper} {r : Rl} {rs : List Rl} {base : List Value} {w : World} (hd : o.dst = none) (h : Fin Q D os rs base w) : Fin Q D (o :: os) (r :: rs) base w := by
 simp only [Fin,hd];exact h
theorem fin_eq {D : List Deferred} {o : Oper} {os : List Oper} {X : Value} {rs : List Rl} {base : List Value} {w : World} {d : Nat} (hd : o.dst = some d) (h : Fin Q D os rs (base.set d X) w) : Fin Q D (o :: os) (eq X :: rs) base w := by
 simp only [Fin,hd];rintro _ rfl;exact h
theorem fin_any {D : List Deferred} {o : Oper} {os : List Oper} {r : Rl} {rs : List Rl} {base : List Value} {w : World} {d : Nat} (hd : o.dst = some d) (h : ∀ v,r.R v w → Fin Q D os rs (base.set d v) w) : Fin Q D (o :: os) (r :: rs) base w := by
 simp only [Fin,hd];exact h
theorem fin_nil {D : List Deferred} {base : List Value} {w : World} (h : Q .normal ⟨base.toArray,D⟩ w) : Fin Q D [] [] base w := h
theorem one_plain {Rs : List (Nat × Rl)} {o : Oper} {r : Rl} (hg : o.guard = none)
  (h : ∀ a w,Known ops J b Rs o a w → ∀ K : Act → World → Prop,(∀ v w',r.R v w' → Below w.heap.size w w' → K (a.put o.dst v) w') → o.wp P a w K Q) : One P ops Q J b Rs o r :=
 fun a w hk => by rw [if_pos (by simp [Region.wanted,hg])];exact h a w hk
theorem yielded_of {Rs : List (Nat × Rl)} {o : Oper} {a : Act} {w : World} (hk : Known ops J b Rs o a w) {j t : Nat} {g : Bool} (hw : waits o j = true) (ht : (ops.toList[j]?).bind (·.dst) = some t) (hr : look Rs j = some (eq (.bool g))) : yielded ops a.tmps j = some g := by
 obtain ⟨v,hv,rfl⟩ := hk.dep j t _ hw ht hr
 have ht' : (ops[j]?).bind (·.dst) = some t := by simpa using ht
 unfold yielded;rw [ht'];simp [hv]
theorem one_yes {Rs : List (Nat × Rl)} {o : Oper} {r : Rl} (j t : Nat) (g : Bool) (hg : o.guard = some (j,g)) (hw : waits o j = true) (ht : (ops.toList[j]?).bind (·.dst) = some t) (hr : look Rs j = some (eq (.bool g)))
  (h : ∀ a w,Known ops J b Rs o a w → ∀ K : Act → World → Prop,(∀ v w',r.R v w' → Below w.heap.size w w' → K (a.put o.dst v) w') → o.wp P a w K Q) : One P ops Q J b Rs o r :=
 fun a w hk => by rw [if_pos (by simp [Region.wanted,hg,yielded_of hk hw ht hr])];exact h a w hk
theorem one_no {Rs : List (Nat × Rl)} {o : Oper} (j t : Nat) (g : Bool) (hg : o.guard = some (j,g)) (hw : waits o j = true) (ht : (ops.toList[j]?).bind (·.dst) = some t) (hr : look Rs j = some (eq (.bool !g))) : One P ops Q J b Rs o (eq undef) :=
 fun a w hk => by
  have := yielded_of hk hw ht hr
  rw [if_neg (by simp [Region.wanted,hg,this])];rfl
theorem Known.e {Rs : List (Nat × Rl)} {o : Oper} {a : Act} {w : World} (hk : Known ops J b Rs o a w) (i t : Nat) {X : Value} (hw : waits o i = true) (ht : (ops.toList[i]?).bind (·.dst) = some t) (hr : look Rs i = some (eq X)) : a.tmps[t]? = some X := by
 obtain ⟨v,h,rfl⟩ := hk.dep i t _ hw ht hr;exact h
theorem ok {K : Act → World → Prop} {a : Act} {d : Option Nat} {X : Value} {w : World} (hK : ∀ v w',(eq X).R v w' → Below w.heap.size w w' → K (a.put d v) w') : K (a.put d X) w := hK _ _ rfl (Below.refl _ _)
abbrev Does (P : Program) (ops : Array Oper) (Q : Exit → Act → World → Prop) (J : World → Prop) (b : Act) (Rs : List (Nat × Rl)) (o : Oper) (r : Rl) : Prop :=
 ∀ a w,Known ops J b Rs o a w → ∀ K : Act → World → Prop,(∀ v w',r.R v w' → Below w.heap.size w w' → K (a.put o.dst v) w') → o.wp P a w K Q
theorem cp (m : Nat) {n : Nat} {o : Oper} {l : List Oper} {Rs : List (Nat × Rl)} (r : Rl) (hg : o.guard = none) (hm : m = n + 1) (h : Does P ops Q J b Rs o r) (h2 : Build P ops Q J b m l ((n,r) :: Rs)) : Build P ops Q J b n (o :: l) Rs := build_cons (one_plain hg h) h2 hm
theorem cpe (m : Nat) {n : Nat} {o : Oper} {l : List Oper} {Rs : List (Nat × Rl)} {X : Value} (hg : o.guard = none) (hm : m = n + 1) (h : Does P ops Q J b Rs o (eq X)) (h2 : Build P ops Q J b m l ((n,eq X) :: Rs)) : Build P ops Q J b n (o :: l) Rs := build_cons (one_plain hg h) h2 hm
theorem cy (m : Nat) {n : Nat} {o : Oper} {l : List Oper} {Rs : List (Nat × Rl)} (r : Rl) (j t : Nat) (g : Bool) (hg : o.guard = some (j,g)) (hw : waits o j = true) (ht : (ops.toList[j]?).bind (·.dst) = some t) (hr : look Rs j = some (eq (.bool g))) (hm : m = n + 1) (h : Does P ops Q J b Rs o r) (h2 : Build P ops Q J b m l ((n,r) :: Rs)) : Build P ops Q J b n (o :: l) Rs := build_cons (one_yes j t g hg hw ht hr h) h2 hm
theorem cye (m : Nat) {n : Nat} {o : Oper} {l : List Oper} {Rs : List (Nat × Rl)} {X : Value} (j t : Nat) (g : Bool) (hg : o.guard = some (j,g)) (hw : waits o j = true) (ht : (ops.toList[j]?).bind (·.dst) = some t) (hr : look Rs j = some (eq (.bool g))) (hm : m = n + 1) (h : Does P ops Q J b Rs o (eq X)) (h2 : Build P ops Q J b m l ((n,eq X) :: Rs)) : Build P ops Q J b n (o :: l) Rs := build_cons (one_yes j t g hg hw ht hr h) h2 hm
theorem cn (m : Nat) {n : Nat} {o : Oper} {l : List Oper} {Rs : List (Nat × Rl)} (j t : Nat) (g : Bool) (hg : o.guard = some (j,g)) (hw : waits o j = true) (ht : (ops.toList[j]?).bind (·.dst) = some t) (hr : look Rs j = some (eq (.bool !g))) (hm : m = n + 1) (h2 : Build P ops Q J b m l ((n,eq undef) :: Rs)) : Build P ops Q J b n (o :: l) Rs := build_cons (one_no j t g hg hw ht hr) h2 hm
end
end Rg
end Go.Proofs.YtgjcibhhffkemaaGreatDoor
namespace Go.Proofs.YtgjcibhhffkemaaGreatDoor
open Go.RowKit
set_option maxRecDepth 100000 in
theorem peek_bad (g : Nat) (s : ByteArray) (p o b x : Int) (w : World) (h : AtG w g 114 (rdr s p o b x)) (hb : b ≠ 0) :
  Calls Tryz.prog 69 #[.pointer (some ⟨g,0,none⟩)] w fun e w' => e = .returned (.int .i64 (-1)) ∧ Below w.heap.size w w' := by
 unfold rdr at h
 have H := Lib.hid h
 have hlt := h.lt
 have HLT := Lib.hid hlt
 have e1 : (b == 0) = false := by rw [beq_eq_false_iff_ne];exact hb
 clear h hlt
 go_enter Tryz.func69,Tryz.ntmps69
 go_upto_region 1 with (fail)
 refine Rg.wp_region_each (by kernel_rfl) (fun w' => Below w.heap.size w w') (fun w1 w2 h hb => h.trans (hb.mono h.size)) (by kernel_rfl) (by kernel_rfl) (Below.refl _ _) ?_
 show Rg.Build _ _ _ _ _ 0 [_,_,_,_,_,_,_,_,_,_,_,_,_,_,_,_,_] []
 refine Rg.cpe 1 rfl rfl (by intro ax wx hk Kx hK;have k0 := hk.base 0 _ rfl rfl;have hj := hk.j;clear hk;have z0 := (hj.cell (p := ⟨g,0,none⟩) HLT.out).trans (H.out.cell 0 _ rfl);have z1 := (hj.cell (p := ⟨g,1,none⟩) HLT.out).trans (H.out.cell 1 _ rfl);have z3 := (hj.cell (p := ⟨g,3,none⟩) HLT.out).trans (H.out.cell 3 _ rfl);go_simp;exact Rg.ok hK) ?_
 refine Rg.cpe 2 rfl rfl (by intro ax wx hk Kx hK;have k3 := hk.e 0 3 rfl rfl rfl;clear hk;go_simp;exact Rg.ok hK) ?_
 refine Rg.cpe 3 rfl rfl (by intro ax wx hk Kx hK;have k4 := hk.e 1 4 rfl rfl rfl;clear hk;go_simp;exact Rg.ok hK) ?_
 refine Rg.cpe 4 rfl rfl (by intro ax wx hk Kx hK;have k5 := hk.e 2 5 rfl rfl rfl;have hj := hk.j;clear hk;have z0 := (hj.cell (p := ⟨g,0,none⟩) HLT.out).trans (H.out.cell 0 _ rfl);have z1 := (hj.cell (p := ⟨g,1,none⟩) HLT.out).trans (H.out.cell 1 _ rfl);have z3 := (hj.cell (p := ⟨g,3,none⟩) HLT.out).trans (H.out.cell 3 _ rfl);go_simp;exact Rg.ok hK) ?_
 refine Rg.cp 5 (Rg.eq (.bool true)) rfl rfl (by intro ax wx hk Kx hK;have k6 := hk.e 3 6 rfl rfl rfl;have hj := hk.j;clear hk;have z0 := (hj.cell (p := ⟨g,0,none⟩) HLT.out).trans (H.out.cell 0 _ rfl);have z1 := (hj.cell (p := ⟨g,1,none⟩) HLT.out).trans (H.out.cell 1 _ rfl);have z3 := (hj.cell (p := ⟨g,3,none⟩) HLT.out).trans (H.out.cell 3 _ rfl);(go_simp;refine hK _ _ ?_ (Below.refl _ _);simp [Rg.eq,hb])) ?_
 refine Rg.cpe 6 rfl rfl (by intro ax wx hk Kx hK;have k7 := hk.e 4 7 rfl rfl rfl;have hj := hk.j;clear hk;have z0 := (hj.cell (p := ⟨g,0,none⟩) HLT.out).trans (H.out.cell 0 _ rfl);have z1 := (hj.cell (p := ⟨g,1,none⟩) HLT.out).trans (H.out.cell 1 _ rfl);have z3 := (hj.cell (p := ⟨g,3,none⟩) HLT.out).trans (H.out.cell 3 _ rfl);go_simp;exact Rg.ok hK) ?_
 refine Rg.cn 7 5 8 false rfl rfl rfl rfl rfl ?_
 refine Rg.cn 8 5 8 false rfl rfl rfl rfl rfl ?_
 refine Rg.cn 9 5 8 false rfl rfl rfl rfl rfl ?_
 refine Rg.cn 10 5 8 false rfl rfl rfl rfl rfl ?_
 refine Rg.cn 11 5 8 false rfl rfl rfl rfl rfl ?_
 refine Rg.cn 12 5 8 false rfl rfl rfl rfl rfl ?_
 refine Rg.cn 13 5 8 false rfl rfl rfl rfl rfl ?_
 refine Rg.cn 14 5 8 false rfl rfl rfl rfl rfl ?_
 refine Rg.cn 15 5 8 false rfl rfl rfl rfl rfl ?_
 refine Rg.cn 16 5 8 false rfl rfl rfl rfl rfl ?_
 refine Rg.cpe 17 rfl rfl (by intro ax wx hk Kx hK;have k8 := hk.e 5 8 rfl rfl rfl;have k18 := hk.e 15 18 rfl rfl rfl;clear hk;go_simp;exact Rg.ok hK) ?_
 refine Rg.build_end fun wx hj => ?_
 iterate 17 refine Rg.fin_eq rfl ?_
 refine Rg.fin_nil ?_
 simp only [List.set_cons_zero,List.set_cons_succ]
 have HJ := Lib.hid hj;clear hj
 go_wp2_with fail
 go_returns
 exact ⟨rfl,HJ.out⟩
set_option maxRecDepth 100000 in
theorem peek_end (g : Nat) (s : ByteArray) (p o x : Int) (w : World) (h : AtG w g 114 (rdr s p o 0 x)) (hp : (s.size : Int) ≤ p) :
  Calls Tryz.prog 69 #[.pointer (some ⟨g,0,none⟩)] w fun e w' => e = .returned (.int .i64 (-1)) ∧ Below w.heap.size w w' := by
 unfold rdr at h
 have H := Lib.hid h
 have hlt := h.lt
 have HLT := Lib.hid hlt
 clear h hlt
 go_enter Tryz.func69,Tryz.ntmps69
 go_upto_region 1 with (fail)
 refine Rg.wp_region_each (by kernel_rfl) (fun w' => Below w.heap.size w w') (fun w1 w2 h hb => h.trans (hb.mono h.size)) (by kernel_rfl) (by kernel_rfl) (Below.refl _ _) ?_
 show Rg.Build _ _ _ _ _ 0 [_,_,_,_,_,_,_,_,_,_,_,_,_,_,_,_,_] []
 refine Rg.cpe 1 rfl rfl (by intro ax wx hk Kx hK;have k0 := hk.base 0 _ rfl rfl;have hj := hk.j;clear hk;have z0 := (hj.cell (p := ⟨g,0,none⟩) HLT.out).trans (H.out.cell 0 _ rfl);have z1 := (hj.cell (p := ⟨g,1,none⟩) HLT.out).trans (H.out.cell 1 _ rfl);have z3 := (hj.cell (p := ⟨g,3,none⟩) HLT.out).trans (H.out.cell 3 _ rfl);go_simp;exact Rg.ok hK) ?_
 refine Rg.cpe 2 rfl rfl (by intro ax wx hk Kx hK;have k3 := hk.e 0 3 rfl rfl rfl;clear hk;go_simp;exact Rg.ok hK) ?_
 refine Rg.cpe 3 rfl rfl (by intro ax wx hk Kx hK;have k4 := hk.e 1 4 rfl rfl rfl;clear hk;go_simp;exact Rg.ok hK) ?_
 refine Rg.cpe 4 rfl rfl (by intro ax wx hk Kx hK;have k5 := hk.e 2 5 rfl rfl rfl;have hj := hk.j;clear hk;have z0 := (hj.cell (p := ⟨g,0,none⟩) HLT.out).trans (H.out.cell 0 _ rfl);have z1 := (hj.cell (p := ⟨g,1,none⟩) HLT.out).trans (H.out.cell 1 _ rfl);have z3 := (hj.cell (p := ⟨g,3,none⟩) HLT.out).trans (H.out.cell 3 _ rfl);go_simp;exact Rg.ok hK) ?_
 refine Rg.cp 5 (Rg.eq (.bool false)) rfl rfl (by intro ax wx hk Kx hK;have k6 := hk.e 3 6 rfl rfl rfl;have hj := hk.j;clear hk;have z0 := (hj.cell (p := ⟨g,0,none⟩) HLT.out).trans (H.out.cell 0 _ rfl);have z1 := (hj.cell (p := ⟨g,1,none⟩) HLT.out).trans (H.out.cell 1 _ rfl);have z3 := (hj.cell (p := ⟨g,3,none⟩) HLT.out).trans (H.out.cell 3 _ rfl);(go_simp;refine hK _ _ ?_ (Below.refl _ _);simp [Rg.eq])) ?_
 refine Rg.cpe 6 rfl rfl (by intro ax wx hk Kx hK;have k7 := hk.e 4 7 rfl rfl rfl;have hj := hk.j;clear hk;have z0 := (hj.cell (p := ⟨g,0,none⟩) HLT.out).trans (H.out.cell 0 _ rfl);have z1 := (hj.cell (p := ⟨g,1,none⟩) HLT.out).trans (H.out.cell 1 _ rfl);have z3 := (hj.cell (p := ⟨g,3,none⟩) HLT.out).trans (H.out.cell 3 _ rfl);go_simp;exact Rg.ok hK) ?_
 refine Rg.cye 7 5 8 false rfl rfl rfl rfl rfl (by intro ax wx hk Kx hK;have k0 := hk.base 0 _ rfl rfl;have hj := hk.j;clear hk;have z0 := (hj.cell (p := ⟨g,0,none⟩) HLT.out).trans (H.out.cell 0 _ rfl);have z1 := (hj.cell (p := ⟨g,1,none⟩) HLT.out).trans (H.out.cell 1 _ rfl);have z3 := (hj.cell (p := ⟨g,3,none⟩) HLT.out).trans (H.out.cell 3 _ rfl);go_simp;exact Rg.ok hK) ?_
 refine Rg.cye 8 5 8 false rfl rfl rfl rfl rfl (by intro ax wx hk Kx hK;have k9 := hk.e 6 9 rfl rfl rfl;clear hk;go_simp;exact Rg.ok hK) ?_
 refine Rg.cye 9 5 8 false rfl rfl rfl rfl rfl (by intro ax wx hk Kx hK;have k10 := hk.e 7 10 rfl rfl rfl;clear hk;go_simp;exact Rg.ok hK) ?_
 refine Rg.cye 10 5 8 false rfl rfl rfl rfl rfl (by intro ax wx hk Kx hK;have k11 := hk.e 8 11 rfl rfl rfl;have hj := hk.j;clear hk;have z0 := (hj.cell (p := ⟨g,0,none⟩) HLT.out).trans (H.out.cell 0 _ rfl);have z1 := (hj.cell (p := ⟨g,1,none⟩) HLT.out).trans (H.out.cell 1 _ rfl);have z3 := (hj.cell (p := ⟨g,3,none⟩) HLT.out).trans (H.out.cell 3 _ rfl);go_simp;exact Rg.ok hK) ?_
 refine Rg.cye 11 5 8 false rfl rfl rfl rfl rfl (by intro ax wx hk Kx hK;have k0 := hk.base 0 _ rfl rfl;have hj := hk.j;clear hk;have z0 := (hj.cell (p := ⟨g,0,none⟩) HLT.out).trans (H.out.cell 0 _ rfl);have z1 := (hj.cell (p := ⟨g,1,none⟩) HLT.out).trans (H.out.cell 1 _ rfl);have z3 := (hj.cell (p := ⟨g,3,none⟩) HLT.out).trans (H.out.cell 3 _ rfl);go_simp;exact Rg.ok hK) ?_
 refine Rg.cye 12 5 8 false rfl rfl rfl rfl rfl (by intro ax wx hk Kx hK;have k13 := hk.e 10 13 rfl rfl rfl;clear hk;go_simp;exact Rg.ok hK) ?_
 refine Rg.cye 13 5 8 false rfl rfl rfl rfl rfl (by intro ax wx hk Kx hK;have k14 := hk.e 11 14 rfl rfl rfl;clear hk;go_simp;exact Rg.ok hK) ?_
 refine Rg.cye 14 5 8 false rfl rfl rfl rfl rfl (by intro ax wx hk Kx hK;have k15 := hk.e 12 15 rfl rfl rfl;have hj := hk.j;clear hk;have z0 := (hj.cell (p := ⟨g,0,none⟩) HLT.out).trans (H.out.cell 0 _ rfl);have z1 := (hj.cell (p := ⟨g,1,none⟩) HLT.out).trans (H.out.cell 1 _ rfl);have z3 := (hj.cell (p := ⟨g,3,none⟩) HLT.out).trans (H.out.cell 3 _ rfl);go_simp;exact Rg.ok hK) ?_
 refine Rg.cye 15 5 8 false rfl rfl rfl rfl rfl (by intro ax wx hk Kx hK;have k16 := hk.e 13 16 rfl rfl rfl;have hj := hk.j;clear hk;have z0 := (hj.cell (p := ⟨g,0,none⟩) HLT.out).trans (H.out.cell 0 _ rfl);have z1 := (hj.cell (p := ⟨g,1,none⟩) HLT.out).trans (H.out.cell 1 _ rfl);have z3 := (hj.cell (p := ⟨g,3,none⟩) HLT.out).trans (H.out.cell 3 _ rfl);go_simp;exact Rg.ok hK) ?_
 refine Rg.cy 16 (Rg.eq (.bool true)) 5 8 false rfl rfl rfl rfl rfl (by intro ax wx hk Kx hK;have k12 := hk.e 9 12 rfl rfl rfl;have k17 := hk.e 14 17 rfl rfl rfl;have hj := hk.j;clear hk;have z0 := (hj.cell (p := ⟨g,0,none⟩) HLT.out).trans (H.out.cell 0 _ rfl);have z1 := (hj.cell (p := ⟨g,1,none⟩) HLT.out).trans (H.out.cell 1 _ rfl);have z3 := (hj.cell (p := ⟨g,3,none⟩) HLT.out).trans (H.out.cell 3 _ rfl);(go_simp;refine hK _ _ ?_ (Below.refl _ _);simp [Rg.eq,hp])) ?_
 refine Rg.cpe 17 rfl rfl (by intro ax wx hk Kx hK;have k8 := hk.e 5 8 rfl rfl rfl;have k18 := hk.e 15 18 rfl rfl rfl;clear hk;go_simp;exact Rg.ok hK) ?_
 refine Rg.build_end fun wx hj => ?_
 iterate 17 refine Rg.fin_eq rfl ?_
 refine Rg.fin_nil ?_
 simp only [List.set_cons_zero,List.set_cons_succ]
 have HJ := Lib.hid hj;clear hj
 go_wp2_with fail
 go_returns
 exact ⟨rfl,HJ.out⟩
set_option maxRecDepth 100000 in
theorem peek_in (g : Nat) (s : ByteArray) (p : Nat) (o x : Int) (w : World) (h : AtG w g 114 (rdr s p o 0 x)) (hp : p < s.size) :
  Calls Tryz.prog 69 #[.pointer (some ⟨g,0,none⟩)] w fun e w' => e = .returned (.int .i64 (s[p].toNat : Int)) ∧ Below w.heap.size w w' := by
 unfold rdr at h
 have H := Lib.hid h
 have hlt := h.lt
 have HLT := Lib.hid hlt
 have hp2 : ¬ (s.size : Int) ≤ p := by omega
 clear h hlt
 go_enter Tryz.func69,Tryz.ntmps69
 go_upto_region 1 with (fail)
 refine Rg.wp_region_each (by kernel_rfl) (fun w' => Below w.heap.size w w') (fun w1 w2 h hb => h.trans (hb.mono h.size)) (by kernel_rfl) (by kernel_rfl) (Below.refl _ _) ?_
 show Rg.Build _ _ _ _ _ 0 [_,_,_,_,_,_,_,_,_,_,_,_,_,_,_,_,_] []
 refine Rg.cpe 1 rfl rfl (by intro ax wx hk Kx hK;have k0 := hk.base 0 _ rfl rfl;have hj := hk.j;clear hk;have z0 := (hj.cell (p := ⟨g,0,none⟩) HLT.out).trans (H.out.cell 0 _ rfl);have z1 := (hj.cell (p := ⟨g,1,none⟩) HLT.out).trans (H.out.cell 1 _ rfl);have z3 := (hj.cell (p := ⟨g,3,none⟩) HLT.out).trans (H.out.cell 3 _ rfl);go_simp;exact Rg.ok hK) ?_
 refine Rg.cpe 2 rfl rfl (by intro ax wx hk Kx hK;have k3 := hk.e 0 3 rfl rfl rfl;clear hk;go_simp;exact Rg.ok hK) ?_
 refine Rg.cpe 3 rfl rfl (by intro ax wx hk Kx hK;have k4 := hk.e 1 4 rfl rfl rfl;clear hk;go_simp;exact Rg.ok hK) ?_
 refine Rg.cpe 4 rfl rfl (by intro ax wx hk Kx hK;have k5 := hk.e 2 5 rfl rfl rfl;have hj := hk.j;clear hk;have z0 := (hj.cell (p := ⟨g,0,none⟩) HLT.out).trans (H.out.cell 0 _ rfl);have z1 := (hj.cell (p := ⟨g,1,none⟩) HLT.out).trans (H.out.cell 1 _ rfl);have z3 := (hj.cell (p := ⟨g,3,none⟩) HLT.out).trans (H.out.cell 3 _ rfl);go_simp;exact Rg.ok hK) ?_
 refine Rg.cp 5 (Rg.eq (.bool false)) rfl rfl (by intro ax wx hk Kx hK;have k6 := hk.e 3 6 rfl rfl rfl;have hj := hk.j;clear hk;have z0 := (hj.cell (p := ⟨g,0,none⟩) HLT.out).trans (H.out.cell 0 _ rfl);have z1 := (hj.cell (p := ⟨g,1,none⟩) HLT.out).trans (H.out.cell 1 _ rfl);have z3 := (hj.cell (p := ⟨g,3,none⟩) HLT.out).trans (H.out.cell 3 _ rfl);(go_simp;refine hK _ _ ?_ (Below.refl _ _);simp [Rg.eq])) ?_
 refine Rg.cpe 6 rfl rfl (by intro ax wx hk Kx hK;have k7 := hk.e 4 7 rfl rfl rfl;have hj := hk.j;clear hk;have z0 := (hj.cell (p := ⟨g,0,none⟩) HLT.out).trans (H.out.cell 0 _ rfl);have z1 := (hj.cell (p := ⟨g,1,none⟩) HLT.out).trans (H.out.cell 1 _ rfl);have z3 := (hj.cell (p := ⟨g,3,none⟩) HLT.out).trans (H.out.cell 3 _ rfl);go_simp;exact Rg.ok hK) ?_
 refine Rg.cye 7 5 8 false rfl rfl rfl rfl rfl (by intro ax wx hk Kx hK;have k0 := hk.base 0 _ rfl rfl;have hj := hk.j;clear hk;have z0 := (hj.cell (p := ⟨g,0,none⟩) HLT.out).trans (H.out.cell 0 _ rfl);have z1 := (hj.cell (p := ⟨g,1,none⟩) HLT.out).trans (H.out.cell 1 _ rfl);have z3 := (hj.cell (p := ⟨g,3,none⟩) HLT.out).trans (H.out.cell 3 _ rfl);go_simp;exact Rg.ok hK) ?_
 refine Rg.cye 8 5 8 false rfl rfl rfl rfl rfl (by intro ax wx hk Kx hK;have k9 := hk.e 6 9 rfl rfl rfl;clear hk;go_simp;exact Rg.ok hK) ?_
 refine Rg.cye 9 5 8 false rfl rfl rfl rfl rfl (by intro ax wx hk Kx hK;have k10 := hk.e 7 10 rfl rfl rfl;clear hk;go_simp;exact Rg.ok hK) ?_
 refine Rg.cye 10 5 8 false rfl rfl rfl rfl rfl (by intro ax wx hk Kx hK;have k11 := hk.e 8 11 rfl rfl rfl;have hj := hk.j;clear hk;have z0 := (hj.cell (p := ⟨g,0,none⟩) HLT.out).trans (H.out.cell 0 _ rfl);have z1 := (hj.cell (p := ⟨g,1,none⟩) HLT.out).trans (H.out.cell 1 _ rfl);have z3 := (hj.cell (p := ⟨g,3,none⟩) HLT.out).trans (H.out.cell 3 _ rfl);go_simp;exact Rg.ok hK) ?_
 refine Rg.cye 11 5 8 false rfl rfl rfl rfl rfl (by intro ax wx hk Kx hK;have k0 := hk.base 0 _ rfl rfl;have hj := hk.j;clear hk;have z0 := (hj.cell (p := ⟨g,0,none⟩) HLT.out).trans (H.out.cell 0 _ rfl);have z1 := (hj.cell (p := ⟨g,1,none⟩) HLT.out).trans (H.out.cell 1 _ rfl);have z3 := (hj.cell (p := ⟨g,3,none⟩) HLT.out).trans (H.out.cell 3 _ rfl);go_simp;exact Rg.ok hK) ?_
 refine Rg.cye 12 5 8 false rfl rfl rfl rfl rfl (by intro ax wx hk Kx hK;have k13 := hk.e 10 13 rfl rfl rfl;clear hk;go_simp;exact Rg.ok hK) ?_
 refine Rg.cye 13 5 8 false rfl rfl rfl rfl rfl (by intro ax wx hk Kx hK;have k14 := hk.e 11 14 rfl rfl rfl;clear hk;go_simp;exact Rg.ok hK) ?_
 refine Rg.cye 14 5 8 false rfl rfl rfl rfl rfl (by intro ax wx hk Kx hK;have k15 := hk.e 12 15 rfl rfl rfl;have hj := hk.j;clear hk;have z0 := (hj.cell (p := ⟨g,0,none⟩) HLT.out).trans (H.out.cell 0 _ rfl);have z1 := (hj.cell (p := ⟨g,1,none⟩) HLT.out).trans (H.out.cell 1 _ rfl);have z3 := (hj.cell (p := ⟨g,3,none⟩) HLT.out).trans (H.out.cell 3 _ rfl);go_simp;exact Rg.ok hK) ?_
 refine Rg.cye 15 5 8 false rfl rfl rfl rfl rfl (by intro ax wx hk Kx hK;have k16 := hk.e 13 16 rfl rfl rfl;have hj := hk.j;clear hk;have z0 := (hj.cell (p := ⟨g,0,none⟩) HLT.out).trans (H.out.cell 0 _ rfl);have z1 := (hj.cell (p := ⟨g,1,none⟩) HLT.out).trans (H.out.cell 1 _ rfl);have z3 := (hj.cell (p := ⟨g,3,none⟩) HLT.out).trans (H.out.cell 3 _ rfl);go_simp;exact Rg.ok hK) ?_
 refine Rg.cy 16 (Rg.eq (.bool false)) 5 8 false rfl rfl rfl rfl rfl (by intro ax wx hk Kx hK;have k12 := hk.e 9 12 rfl rfl rfl;have k17 := hk.e 14 17 rfl rfl rfl;have hj := hk.j;clear hk;have z0 := (hj.cell (p := ⟨g,0,none⟩) HLT.out).trans (H.out.cell 0 _ rfl);have z1 := (hj.cell (p := ⟨g,1,none⟩) HLT.out).trans (H.out.cell 1 _ rfl);have z3 := (hj.cell (p := ⟨g,3,none⟩) HLT.out).trans (H.out.cell 3 _ rfl);(go_simp;refine hK _ _ ?_ (Below.refl _ _);simp [Rg.eq,hp2];try omega)) ?_
 refine Rg.cpe 17 rfl rfl (by intro ax wx hk Kx hK;have k8 := hk.e 5 8 rfl rfl rfl;have k18 := hk.e 15 18 rfl rfl rfl;clear hk;go_simp;exact Rg.ok hK) ?_
 refine Rg.build_end fun wx hj => ?_
 iterate 17 refine Rg.fin_eq rfl ?_
 refine Rg.fin_nil ?_
 simp only [List.set_cons_zero,List.set_cons_succ]
 have HJ := Lib.hid hj;clear hj
 go_upto_region 3 with (fail)
 obtain ⟨wy,rfl⟩ : ∃ wy : World,wy = wx := ⟨_,rfl⟩
 refine Rg.wp_region_each (by kernel_rfl) (fun w' => Below w.heap.size w w') (fun w1 w2 h hb => h.trans (hb.mono h.size)) (by kernel_rfl) (by kernel_rfl) (HJ.out) ?_
 show Rg.Build _ _ _ _ _ 0 [_,_,_,_,_,_,_,_,_,_,_] []
 refine Rg.cpe 1 rfl rfl (by intro ax wx hk Kx hK;have k0 := hk.base 0 _ rfl rfl;have hj := hk.j;clear hk;have z0 := (hj.cell (p := ⟨g,0,none⟩) HLT.out).trans (H.out.cell 0 _ rfl);have z1 := (hj.cell (p := ⟨g,1,none⟩) HLT.out).trans (H.out.cell 1 _ rfl);go_simp;exact Rg.ok hK) ?_
 refine Rg.cpe 2 rfl rfl (by intro ax wx hk Kx hK;have k20 := hk.e 0 20 rfl rfl rfl;clear hk;go_simp;exact Rg.ok hK) ?_
 refine Rg.cpe 3 rfl rfl (by intro ax wx hk Kx hK;have k21 := hk.e 1 21 rfl rfl rfl;clear hk;go_simp;exact Rg.ok hK) ?_
 refine Rg.cpe 4 rfl rfl (by intro ax wx hk Kx hK;have k22 := hk.e 2 22 rfl rfl rfl;have hj := hk.j;clear hk;have z0 := (hj.cell (p := ⟨g,0,none⟩) HLT.out).trans (H.out.cell 0 _ rfl);have z1 := (hj.cell (p := ⟨g,1,none⟩) HLT.out).trans (H.out.cell 1 _ rfl);go_simp;exact Rg.ok hK) ?_
 refine Rg.cpe 5 rfl rfl (by intro ax wx hk Kx hK;have k0 := hk.base 0 _ rfl rfl;have hj := hk.j;clear hk;have z0 := (hj.cell (p := ⟨g,0,none⟩) HLT.out).trans (H.out.cell 0 _ rfl);have z1 := (hj.cell (p := ⟨g,1,none⟩) HLT.out).trans (H.out.cell 1 _ rfl);go_simp;exact Rg.ok hK) ?_
 refine Rg.cpe 6 rfl rfl (by intro ax wx hk Kx hK;have k24 := hk.e 4 24 rfl rfl rfl;clear hk;go_simp;exact Rg.ok hK) ?_
 refine Rg.cpe 7 rfl rfl (by intro ax wx hk Kx hK;have k25 := hk.e 5 25 rfl rfl rfl;clear hk;go_simp;exact Rg.ok hK) ?_
 refine Rg.cpe 8 rfl rfl (by intro ax wx hk Kx hK;have k26 := hk.e 6 26 rfl rfl rfl;have hj := hk.j;clear hk;have z0 := (hj.cell (p := ⟨g,0,none⟩) HLT.out).trans (H.out.cell 0 _ rfl);have z1 := (hj.cell (p := ⟨g,1,none⟩) HLT.out).trans (H.out.cell 1 _ rfl);go_simp;exact Rg.ok hK) ?_
 refine Rg.cpe 9 rfl rfl (by intro ax wx hk Kx hK;have k23 := hk.e 3 23 rfl rfl rfl;have k27 := hk.e 7 27 rfl rfl rfl;have hj := hk.j;clear hk;have z0 := (hj.cell (p := ⟨g,0,none⟩) HLT.out).trans (H.out.cell 0 _ rfl);have z1 := (hj.cell (p := ⟨g,1,none⟩) HLT.out).trans (H.out.cell 1 _ rfl);go_simp;exact Rg.ok hK) ?_
 refine Rg.cpe 10 rfl rfl (by intro ax wx hk Kx hK;have k28 := hk.e 8 28 rfl rfl rfl;have hj := hk.j;clear hk;have z0 := (hj.cell (p := ⟨g,0,none⟩) HLT.out).trans (H.out.cell 0 _ rfl);have z1 := (hj.cell (p := ⟨g,1,none⟩) HLT.out).trans (H.out.cell 1 _ rfl);go_simp;exact Rg.ok hK) ?_
 refine Rg.cpe 11 rfl rfl (by intro ax wx hk Kx hK;have k29 := hk.e 9 29 rfl rfl rfl;have hj := hk.j;clear hk;have z0 := (hj.cell (p := ⟨g,0,none⟩) HLT.out).trans (H.out.cell 0 _ rfl);have z1 := (hj.cell (p := ⟨g,1,none⟩) HLT.out).trans (H.out.cell 1 _ rfl);go_simp;exact Rg.ok hK) ?_
 refine Rg.build_end fun wx hj => ?_
 iterate 11 refine Rg.fin_eq rfl ?_
 refine Rg.fin_nil ?_
 simp only [List.set_cons_zero,List.set_cons_succ]
 have HJ2 := Lib.hid hj;clear hj
 go_wp2_with fail
 go_returns
 have hw : IntKind.i64.wrap (s[p].toNat : Int) = (s[p].toNat : Int) := by
  have hb8 : s[p].toNat < 256 := s[p].toNat_lt
  generalize s[p].toNat = v at hb8
  rw [IntKind.wrap_i64];omega
 exact ⟨by simp [hw],HJ2.out⟩
end Go.Proofs.YtgjcibhhffkemaaGreatDoor
namespace Go.Proofs.YtgjcibhhffkemaaGreatDoor
open Go.RowKit
set_option maxRecDepth 100000 in
theorem next_in (g : Nat) (s : ByteArray) (p : Nat) (o x : Int) (w : World) (h : AtG w g 114 (rdr s p o 0 x)) (hp : p < s.size) (hm : s.size ≤ 140737488355328) :
  Calls Tryz.prog 97 #[.pointer (some ⟨g,0,none⟩)] w fun e w' => e = .returned (.int .i64 (s[p].toNat : Int)) ∧ AtG w' g 114 (rdr s ((p : Int) + 1) o 0 x) ∧ Only (fun k => k = g) w w' := by
 have H := Lib.hid h;have HP := Lib.hid hp
 have hb8 : ¬ (s[p].toNat : Int) < 0 := by omega
 have hpI : (p : Int) < 140737488355328 := by omega
 have hpk := peek_in g s p o x w h hp
 generalize s[p].toNat = v at hb8 hpk ⊢
 have hp0 : (0 : Int) ≤ p := by omega
 generalize (p : Int) = pp at H hpk h hpI hp0 ⊢
 have HPK := Lib.hid hpk
 clear h hp hm hpk HP
 go_enter Tryz.func97,Tryz.ntmps97
 go_wp2_with fail
 refine HPK.out.mono ?_
 rintro e9 w1 ⟨rfl,hb1⟩
 have H1 := Lib.hid (H.out.below hb1)
 have z1 := H1.out.cell 1 (.int .i64 pp) rfl
 have f1 := H1.out.frozen 1
 have HB1 := Lib.hid hb1
 clear hb1
 go_wp2_with fail
 go_returns
 exact ⟨rfl,H1.out.set 1 _,(Only.of_below HB1.out).trans (Only.set (S := fun k => k = g) _ _ _ _ rfl) (fun k hk => .inl hk)⟩
set_option maxRecDepth 100000 in
theorem next_bad (g : Nat) (s : ByteArray) (p o b x : Int) (w : World) (h : AtG w g 114 (rdr s p o b x)) (hb : b ≠ 0) :
  Calls Tryz.prog 97 #[.pointer (some ⟨g,0,none⟩)] w fun e w' => e = .returned (.int .i64 (-1)) ∧ Below w.heap.size w w' := by
 have H := Lib.hid h;have HB := Lib.hid hb
 have HPK := Lib.hid (peek_bad g s p o b x w h hb)
 clear h hb
 go_enter Tryz.func97,Tryz.ntmps97
 go_wp2_with fail
 refine HPK.out.mono ?_
 rintro e9 w1 ⟨rfl,hb1⟩
 have H1 := Lib.hid (H.out.below hb1)
 have z0 := H1.out.cell 0 (.string s) rfl
 have HB1 := Lib.hid hb1
 clear hb1
 go_wp2_with fail
 refine (fail_no g s p o b x _ 2 _ H1.out HB.out).mono ?_
 rintro e9 w2 ⟨rfl,hw⟩;subst hw
 go_wp2_with fail
 go_returns
 exact ⟨rfl,HB1.out⟩
set_option maxRecDepth 100000 in
theorem next_end (g : Nat) (s : ByteArray) (p o x : Int) (w : World) (h : AtG w g 114 (rdr s p o 0 x)) (hp : (s.size : Int) ≤ p) :
  Calls Tryz.prog 97 #[.pointer (some ⟨g,0,none⟩)] w fun e w' => e = .returned (.int .i64 (-1)) ∧ AtG w' g 114 (rdr s p o 2 s.size) ∧ Only (fun k => k = g) w w' := by
 have H := Lib.hid h
 have HPK := Lib.hid (peek_end g s p o x w h hp)
 clear h hp
 go_enter Tryz.func97,Tryz.ntmps97
 go_wp2_with fail
 refine HPK.out.mono ?_
 rintro e9 w1 ⟨rfl,hb1⟩
 have H1 := Lib.hid (H.out.below hb1)
 have z0 := H1.out.cell 0 (.string s) rfl
 have HB1 := Lib.hid hb1
 clear hb1
 go_wp2_with fail
 refine (fail_yes g s p o x _ 2 _ H1.out).mono ?_
 rintro e9 w2 ⟨rfl,hA,hw⟩
 have HA := Lib.hid hA
 have HW : Hid (Only (fun k => k = g) w1 w2) := Lib.hid (by rw [hw];exact (Only.set (S := fun k => k = g) _ _ _ _ rfl).trans (Only.set (S := fun k => k = g) _ _ _ _ rfl) (fun k hk => .inl hk))
 clear hA hw z0
 go_wp2_with fail
 go_returns
 exact ⟨rfl,HA.out,(Only.of_below HB1.out).trans HW.out (fun k hk => .inl hk)⟩
end Go.Proofs.YtgjcibhhffkemaaGreatDoor
namespace Go.Proofs.YtgjcibhhffkemaaGreatDoor
open Go.RowKit
def InT (c : Int) (s : ByteArray) : Prop := ∃ j,∃ h : j < s.size,(s[j].toNat : Int) = c
set_option maxRecDepth 100000 in
theorem in_any (c : Int) (s : ByteArray) (w : World) (hm : s.size ≤ 1000000) : Calls Tryz.prog 113 #[.int .i64 c,.string s] w fun e w' => ∃ b,e = .returned (.bool b) ∧ (b = true ↔ InT c s) ∧ w' = w := by
 have hmI : (s.size : Int) ≤ 1000000 := by omega
 go_enter Tryz.func113,Tryz.ntmps113
 go_wp2_with fail
 go_loopw [5] (fun i wr => ∃ k : Nat,k ≤ s.size ∧ i = .int .i64 k ∧ (∀ j,∀ h : j < s.size,j < k → (s[j].toNat : Int) ≠ c) ∧ wr = w) (fun i _ => s.size - (intOf i).toNat)
 case atStart => exact ⟨0,by omega,rfl,fun j h h0 => absurd h0 (Nat.not_lt_zero _),by first | rfl | trivial⟩
 case round =>
  obtain ⟨k,hk,rfl,hno,hwr⟩ := hrel
  subst hwr
  have HNO := Lib.hid hno;clear hno
  by_cases hkn : k < s.size
  ·have hw : wrap64 (s[k].toNat : Int) = (s[k].toNat : Int) := by
    have hb8 : s[k].toNat < 256 := s[k].toNat_lt
    generalize s[k].toNat = v at hb8
    unfold wrap64;omega
   by_cases hq : (s[k].toNat : Int) = c
   ·have e1 : ((s[k].toNat : Int) == c) = true := by rw [beq_iff_eq];exact hq
    have HQ := Lib.hid hq;clear hq
    go_wp2_with fail
    go_returns
    exact ⟨true,rfl,⟨fun _ => ⟨k,hkn,HQ.out⟩,fun _ => rfl⟩,rfl⟩
   ·have e1 : ((s[k].toNat : Int) == c) = false := by rw [beq_eq_false_iff_ne];exact hq
    have HQ := Lib.hid hq;clear hq
    go_wp2_with fail
    exact ⟨⟨k + 1,by omega,by go_num,fun j h hj => by
     rcases Nat.lt_succ_iff_lt_or_eq.1 hj with h1 | rfl
     ·exact HNO.out j h h1
     ·exact HQ.out,by first | rfl | trivial⟩,by simp [intOf];omega⟩
  ·go_wp2_with fail
   go_returns
   exact ⟨false,rfl,⟨(fun h => by cases h),fun ⟨j,h,h2⟩ => absurd h2 (HNO.out j h (by omega))⟩,rfl⟩
end Go.Proofs.YtgjcibhhffkemaaGreatDoor
namespace Go.Proofs.YtgjcibhhffkemaaGreatDoor
inductive Tree where
 | node (op : Int) (f : Nat → Bool) (mn mx : Int) (kids : List Tree)
inductive Re (α : Type) where
 | ok (a : α) (q : Nat)
 | no (c : Int) (x : Nat)
def ch (s : ByteArray) (p : Nat) : Int := if h : p < s.size then (s[p].toNat : Int) else -1
theorem ch_in {s : ByteArray} {p : Nat} (h : p < s.size) : ch s p = (s[p].toNat : Int) := by unfold ch;rw [dif_pos h]
theorem ch_end {s : ByteArray} {p : Nat} (h : s.size ≤ p) : ch s p = -1 := by unfold ch;rw [dif_neg (by omega)]
theorem ch_lt (s : ByteArray) (p : Nat) : -1 ≤ ch s p ∧ ch s p < 256 := by
 unfold ch;split
 ·have := s[p].toNat_lt;omega
 ·omega
theorem ch_ge {s : ByteArray} {p : Nat} (h : 0 ≤ ch s p) : p < s.size := by
 rcases Nat.lt_or_ge p s.size with h1 | h1
 ·exact h1
 ·rw [ch_end h1] at h;omega
theorem ch_pos {s : ByteArray} {p : Nat} (h : p < s.size) : 0 ≤ ch s p := by rw [ch_in h];omega
def bl (s : ByteArray) : List Int := s.data.toList.map (fun b => (b.toNat : Int))
def spanF (lo hi : Nat) (y : Nat) : Bool := decide (lo ≤ y) && decide (y < hi)
def digF : Nat → Bool := spanF 48 58
def wordF : Nat → Bool := fun y => (digF y || y == 95) || (spanF 97 123 y || spanF 65 91 y)
def wideF (c : Int) : Option (Nat → Bool) := if c = 100 then some digF else if c = 119 then some wordF else none
def spc : List Int := [92,46,91,93,40,41,123,125,124,63,42,43,94,36,45,47]
def brk : List Int := [93,41,125,123,124,63,94,36]
def escF (s : ByteArray) (p : Nat) : Re Nat :=
 if ch s p = 110 then .ok 10 (p + 1) else if ch s p = 116 then .ok 9 (p + 1) else if ch s p ∈ spc then .ok (ch s p).toNat (p + 1) else .no 2 p
def memberF (s : ByteArray) (p : Nat) : Re Nat :=
 if ch s p < 0 then .no 2 p else if ch s p = 93 then .no 2 p else if ch s p = 92 then escF s (p + 1) else .ok (ch s p).toNat (p + 1)
def itemE (s : ByteArray) : Re Nat → Re (Nat → Bool)
 | .no c x => .no c x
 | .ok lo q => if ch s q = 45 then (match memberF s (q + 1) with | .no c x => .no c x | .ok hi r => if hi < lo then .no 2 (r - 1) else .ok (spanF lo (hi + 1)) r) else .ok (spanF lo (lo + 1)) q
def itemF (s : ByteArray) (p : Nat) : Re (Nat → Bool) :=
 if ch s p = 92 ∧ p + 1 < s.size then (match wideF (ch s (p + 1)) with | some f => .ok f (p + 2) | none => itemE s (memberF s p)) else itemE s (memberF s p)
def clsF (s : ByteArray) : Nat → (Nat → Bool) → Nat → Re (Nat → Bool)
 | 0,_,p => .no 2 p
 | k + 1,f,p => if ch s p = 93 then .ok f (p + 1) else match itemF s p with | .ok g q => clsF s k (fun y => f y || g y) q | .no c x => .no c x
def Re.map {α β : Type} (h : α → β) : Re α → Re β
 | .ok a q => .ok (h a) q
 | .no c x => .no c x
def clsE (s : ByteArray) (neg : Bool) : Re (Nat → Bool) → Re (Nat → Bool)
 | .ok f q => (clsF s (s.size + 1) f q).map (fun g => if neg then (fun y => !g y) else g)
 | .no c x => .no c x
def classF (s : ByteArray) (p : Nat) : Re (Nat → Bool) := if ch s p = 94 then clsE s true (itemF s (p + 1)) else clsE s false (itemF s p)
def one (f : Nat → Bool) : Tree := .node 1 f 0 0 []
def emp : Nat → Bool := fun _ => false
def catT (l : List Tree) : Tree := .node 2 emp 0 0 l
def altT (l : List Tree) : Tree := .node 3 emp 0 0 l
def repT (mn mx : Int) (t : Tree) : Tree := .node 4 emp mn mx [t]
def numF (s : ByteArray) (p : Nat) : Re Int :=
 if ch s p < 48 ∨ 57 < ch s p then .no 2 p else if 48 ≤ ch s (p + 1) ∧ ch s (p + 1) ≤ 57 then .ok (10 * (ch s p - 48) + ch s (p + 1) - 48) (p + 2) else .ok (ch s p - 48) (p + 1)
def timesE (s : ByteArray) (low : Int) : Re Int → Re (Int × Int)
 | .no c x => .no c x
 | .ok high q => if ch s q ≠ 125 ∨ high < 1 ∨ 32 < high ∨ high < low then .no 2 q else .ok (low,high) (q + 1)
def timesF (s : ByteArray) (p : Nat) : Re (Int × Int) :=
 match numF s p with
 | .no c x => .no c x
 | .ok low q => timesE s low (if ch s q = 44 then numF s (q + 1) else .ok low q)
def atomF (s : ByteArray) (p : Nat) : Re Tree :=
 if ch s p < 0 then .no 2 p
 else if ch s p = 91 then (classF s (p + 1)).map one
 else if ch s p = 46 then .ok (one fun y => !(y == 10)) (p + 1)
 else if ch s p = 92 then (match wideF (ch s (p + 1)) with | some f => .ok (one f) (p + 2) | none => (escF s (p + 1)).map fun c => one (fun y => y == c))
 else if ch s p = 42 ∨ ch s p = 43 then .no 3 p
 else if ch s p ∈ brk then .no 2 p
 else .ok (one fun y => y == (ch s p).toNat) (p + 1)
def closeF (s : ByteArray) : Re Tree → Re Tree
 | .no c x => .no c x
 | .ok t q => if ch s q = 41 then .ok t (q + 1) else .no 2 q
def many (op : Int) : List Tree → Tree
 | [t] => t
 | l => .node op emp 0 0 l
def goes (s : ByteArray) (o p : Nat) : Prop := 0 ≤ ch s p ∧ ch s p ≠ 124 ∧ (ch s p ≠ 41 ∨ o = 0)
inductive Q where
 | atom | piece | pieceL (t : Tree) | part | partL (l : List Tree) | pat | patL (l : List Tree)
inductive P (s : ByteArray) : Q → Nat → Nat → Re Tree → Prop
 | plain {o p} : ch s p ≠ 40 → P s .atom o p (atomF s p)
 | deep {o p} : ch s p = 40 → o = 20 → P s .atom o p (.no 4 p)
 | sub {o p r} : ch s p = 40 → o ≠ 20 → P s .pat (o + 1) (p + 1) r → P s .atom o p (closeF s r)
 | pieceNo {o p c x} : P s .atom o p (.no c x) → P s .piece o p (.no c x)
 | pieceOk {o p t q r} : P s .atom o p (.ok t q) → P s (.pieceL t) o q r → P s .piece o p r
 | opt {o p t r} : ch s p = 63 → P s (.pieceL (repT 0 1 t)) o (p + 1) r → P s (.pieceL t) o p r
 | times {o p t m n q r} : ch s p = 123 → timesF s (p + 1) = .ok (m,n) q → P s (.pieceL (repT m n t)) o q r → P s (.pieceL t) o p r
 | timesNo {o p t c x} : ch s p = 123 → timesF s (p + 1) = .no c x → P s (.pieceL t) o p (.no c x)
 | pieceEnd {o p t} : ch s p ≠ 63 → ch s p ≠ 123 → P s (.pieceL t) o p (.ok t p)
 | partNo {o p c x} : P s .piece o p (.no c x) → P s .part o p (.no c x)
 | partOk {o p t q r} : P s .piece o p (.ok t q) → P s (.partL [t]) o q r → P s .part o p r
 | partMore {o p l t q r} : goes s o p → P s .piece o p (.ok t q) → P s (.partL (l ++ [t])) o q r → P s (.partL l) o p r
 | partBad {o p l c x} : goes s o p → P s .piece o p (.no c x) → P s (.partL l) o p (.no c x)
 | partEnd {o p l} : ¬ goes s o p → P s (.partL l) o p (.ok (many 2 l) p)
 | patNo {o p c x} : P s .part o p (.no c x) → P s .pat o p (.no c x)
 | patOk {o p t q r} : P s .part o p (.ok t q) → P s (.patL [t]) o q r → P s .pat o p r
 | patMore {o p l t q r} : ch s p = 124 → P s .part o (p + 1) (.ok t q) → P s (.patL (l ++ [t])) o q r → P s (.patL l) o p r
 | patBad {o p l c x} : ch s p = 124 → P s .part o (p + 1) (.no c x) → P s (.patL l) o p (.no c x)
 | patEnd {o p l} : ch s p ≠ 124 → P s (.patL l) o p (.ok (many 3 l) p)
def Re.in {α : Type} (r : Re α) (lo n : Nat) : Prop := match r with | .ok _ q => lo ≤ q ∧ q ≤ n | .no c x => (c = 2 ∨ c = 3 ∨ c = 4) ∧ x ≤ n
theorem escF_in (s : ByteArray) (p : Nat) (hp : p ≤ s.size) : (escF s p).in (p + 1) s.size ∧ ∀ a q,escF s p = .ok a q → a < 256 := by
 have hl := ch_lt s p
 unfold escF
 split
 ·rename_i h;have := ch_ge (s := s) (p := p) (by omega);exact ⟨⟨by omega,by omega⟩,fun a q h => by injection h;omega⟩
 split
 ·rename_i h;have := ch_ge (s := s) (p := p) (by omega);exact ⟨⟨by omega,by omega⟩,fun a q h => by injection h;omega⟩
 split
 ·rename_i h
  have h0 : 0 ≤ ch s p := by
   unfold spc at h;simp only [List.mem_cons,List.not_mem_nil,or_false] at h;omega
  have := ch_ge (s := s) (p := p) h0
  exact ⟨⟨by omega,by omega⟩,fun a q h => by injection h;omega⟩
 ·exact ⟨⟨.inl rfl,hp⟩,fun a q h => by cases h⟩
theorem memberF_in (s : ByteArray) (p : Nat) (hp : p ≤ s.size) : (memberF s p).in (p + 1) s.size ∧ ∀ a q,memberF s p = .ok a q → a < 256 := by
 have hl := ch_lt s p
 unfold memberF
 split
 ·exact ⟨⟨.inl rfl,hp⟩,fun a q h => by cases h⟩
 rename_i h0
 have hp1 := ch_ge (s := s) (p := p) (by omega)
 split
 ·exact ⟨⟨.inl rfl,hp⟩,fun a q h => by cases h⟩
 split
 ·obtain ⟨h1,h2⟩ := escF_in s (p + 1) hp1
  refine ⟨?_,h2⟩
  unfold Re.in at *
  split at h1 <;> simp_all
  omega
 ·exact ⟨⟨by omega,by omega⟩,fun a q h => by injection h;omega⟩
theorem itemE_in (s : ByteArray) (p : Nat) (r : Re Nat) (h : r.in (p + 1) s.size) : (itemE s r).in (p + 1) s.size := by
 cases r with
 | no c x => exact h
 | ok lo q =>
  obtain ⟨h1,h2⟩ := h
  rw [itemE]
  split
  ·rename_i hc
   have hq := ch_ge (s := s) (p := q) (by omega)
   obtain ⟨h3,_⟩ := memberF_in s (q + 1) hq
   cases hm : memberF s (q + 1) with
   | no c x => rw [hm] at h3;exact h3
   | ok hi r =>
    rw [hm] at h3
    obtain ⟨h4,h5⟩ := h3
    dsimp only
    split
    ·exact ⟨.inl rfl,by omega⟩
    ·exact ⟨by omega,by omega⟩
  ·exact ⟨h1,h2⟩
theorem itemF_in (s : ByteArray) (p : Nat) (hp : p ≤ s.size) : (itemF s p).in (p + 1) s.size := by
 have h1 := itemE_in s p _ (memberF_in s p hp).1
 unfold itemF
 split
 ·rename_i h
  split
  ·exact ⟨by omega,by omega⟩
  ·exact h1
 ·exact h1
theorem clsF_in (s : ByteArray) (k : Nat) : ∀ f p,p ≤ s.size → (clsF s k f p).in (p + 1) s.size := by
 induction k with
 | zero => intro f p hp;exact ⟨.inl rfl,hp⟩
 | succ k ih =>
  intro f p hp
  rw [clsF]
  split
  ·rename_i h;have := ch_ge (s := s) (p := p) (by omega);exact ⟨by omega,by omega⟩
  ·have h1 := itemF_in s p hp
   cases hm : itemF s p with
   | no c x => rw [hm] at h1;exact h1
   | ok g q =>
    rw [hm] at h1
    obtain ⟨h2,h3⟩ := h1
    have h4 := ih (fun y => f y || g y) q h3
    dsimp only
    generalize clsF s k (fun y => f y || g y) q = r at h4
    cases r with
    | no c x => exact h4
    | ok a b => exact ⟨by have := h4.1;omega,h4.2⟩
theorem Re.in_map {α β : Type} {h : α → β} {r : Re α} {a b : Nat} (hr : r.in a b) : (r.map h).in a b := by cases r <;> exact hr
theorem clsE_in (s : ByteArray) (neg : Bool) (p : Nat) (r : Re (Nat → Bool)) (h : r.in (p + 1) s.size) : (clsE s neg r).in (p + 1) s.size := by
 cases r with
 | no c x => exact h
 | ok f q =>
  rw [clsE]
  have h4 := clsF_in s (s.size + 1) f q h.2
  refine Re.in_map ?_
  generalize clsF s (s.size + 1) f q = r at h4
  cases r with
  | no c x => exact h4
  | ok a b => exact ⟨by have := h4.1;have := h.1;omega,h4.2⟩
theorem Re.in_le {α : Type} {r : Re α} {a a' b : Nat} (hr : r.in a b) (h : a' ≤ a) : r.in a' b := by
 cases r with
 | no c x => exact hr
 | ok x q => exact ⟨Nat.le_trans h hr.1,hr.2⟩
theorem classF_in (s : ByteArray) (p : Nat) (hp : p ≤ s.size) : (classF s p).in (p + 1) s.size := by
 unfold classF
 split
 ·rename_i h;have := ch_ge (s := s) (p := p) (by omega)
  exact Re.in_le (clsE_in s true (p + 1) _ (itemF_in s (p + 1) this)) (by omega)
 ·exact clsE_in s false p _ (itemF_in s p hp)
theorem numF_in (s : ByteArray) (p : Nat) (hp : p ≤ s.size) : (numF s p).in (p + 1) s.size ∧ ∀ a q,numF s p = .ok a q → 0 ≤ a ∧ a ≤ 99 := by
 unfold numF
 split
 ·exact ⟨⟨.inl rfl,hp⟩,fun a q h => by cases h⟩
 rename_i h0
 have := ch_ge (s := s) (p := p) (by omega)
 split
 ·rename_i h1
  have := ch_ge (s := s) (p := p + 1) (by omega)
  exact ⟨⟨by omega,by omega⟩,fun a q h => by injection h;omega⟩
 ·exact ⟨⟨by omega,by omega⟩,fun a q h => by injection h;omega⟩
theorem timesE_in (s : ByteArray) (low : Int) (p : Nat) (r : Re Int) (h : r.in p s.size) : (timesE s low r).in (p + 1) s.size ∧ ∀ m n q,timesE s low r = .ok (m,n) q → m = low ∧ 1 ≤ n ∧ n ≤ 32 ∧ m ≤ n := by
 cases r with
 | no c x => exact ⟨h,fun m n q h => by cases h⟩
 | ok high q =>
  obtain ⟨h1,h2⟩ := h
  rw [timesE]
  split
  ·exact ⟨⟨.inl rfl,h2⟩,fun m n q h => by cases h⟩
  ·rename_i hh
   have := ch_ge (s := s) (p := q) (by omega)
   exact ⟨⟨by omega,by omega⟩,fun m n q h => by injection h with h h';injection h with h h'';subst h;subst h'';omega⟩
theorem timesF_in (s : ByteArray) (p : Nat) (hp : p ≤ s.size) : (timesF s p).in (p + 1) s.size ∧ ∀ m n q,timesF s p = .ok (m,n) q → 0 ≤ m ∧ 1 ≤ n ∧ n ≤ 32 ∧ m ≤ n := by
 unfold timesF
 obtain ⟨h1,h2⟩ := numF_in s p hp
 cases hm : numF s p with
 | no c x => rw [hm] at h1;exact ⟨h1,fun m n q h => by cases h⟩
 | ok low q =>
  rw [hm] at h1 h2
  obtain ⟨h3,h4⟩ := h1
  have h5 := h2 low q rfl
  have h6 : (if ch s q = 44 then numF s (q + 1) else Re.ok low q).in q s.size := by
   split
   ·rename_i hc
    have := ch_ge (s := s) (p := q) (by omega)
    exact Re.in_le (numF_in s (q + 1) this).1 (by omega)
   ·exact ⟨Nat.le_refl _,h4⟩
  obtain ⟨h7,h8⟩ := timesE_in s low q _ h6
  exact ⟨Re.in_le h7 (by omega),fun m n q' h => by have := h8 m n q' h;omega⟩
theorem atomF_in (s : ByteArray) (p : Nat) (hp : p ≤ s.size) : (atomF s p).in (p + 1) s.size := by
 unfold atomF
 split
 ·exact ⟨.inl rfl,hp⟩
 rename_i h0
 have hp1 := ch_ge (s := s) (p := p) (by omega)
 split
 ·exact Re.in_map (Re.in_le (classF_in s (p + 1) hp1) (by omega))
 split
 ·exact ⟨by omega,by omega⟩
 split
 ·split
  ·rename_i f hf
   have h2 : 0 ≤ ch s (p + 1) := by 
    unfold wideF at hf
    split at hf
    ·omega
    ·split at hf
     ·omega
     ·cases hf
   have := ch_ge h2
   exact ⟨by omega,by omega⟩
  ·exact Re.in_map (Re.in_le (escF_in s (p + 1) hp1).1 (by omega))
 split
 ·exact ⟨.inr (.inl rfl),hp⟩
 split
 ·exact ⟨.inl rfl,hp⟩
 ·exact ⟨by omega,by omega⟩
theorem closeF_in (s : ByteArray) (p : Nat) (r : Re Tree) (h : r.in p s.size) : (closeF s r).in p s.size := by
 cases r with
 | no c x => exact h
 | ok t q =>
  rw [closeF]
  split
  ·rename_i hc
   have := ch_ge (s := s) (p := q) (by omega)
   exact ⟨by have := h.1;omega,by omega⟩
  ·exact ⟨.inl rfl,h.2⟩
def Q.far : Q → Nat
 | .atom => 1 | .piece => 1 | .pieceL _ => 0 | .part => 1 | .partL _ => 0 | .pat => 1 | .patL _ => 0
theorem P.in {s : ByteArray} {q : Q} {o p : Nat} {r : Re Tree} (h : P s q o p r) : p ≤ s.size → r.in (p + q.far) s.size := by
 induction h with
 | plain h => exact fun hp => atomF_in s _ hp
 | deep h => exact fun hp => ⟨.inr (.inr rfl),hp⟩
 | @sub o p r h h1 h2 ih =>
  intro hp
  have := ch_ge (s := s) (p := p) (by omega)
  exact closeF_in s _ _ (Re.in_le (ih this) (by simp [Q.far]))
 | pieceNo h ih => exact fun hp => ih hp
 | @pieceOk o p t q r h h1 ih ih1 => exact fun hp => Re.in_le (ih1 (ih hp).2) (by have := (ih hp).1;simp [Q.far] at *;omega)
 | @opt o p t r h h1 ih =>
  intro hp
  have := ch_ge (s := s) (p := p) (by omega)
  exact Re.in_le (ih this) (by simp [Q.far])
 | @times o p t m n q r h h1 h2 ih =>
  intro hp
  have := ch_ge (s := s) (p := p) (by omega)
  have h3 := (timesF_in s (p + 1) this).1
  rw [h1] at h3
  exact Re.in_le (ih h3.2) (by have := h3.1;simp [Q.far];omega)
 | @timesNo o p t c x h h1 =>
  intro hp
  have := ch_ge (s := s) (p := p) (by omega)
  have h3 := (timesF_in s (p + 1) this).1
  rw [h1] at h3
  exact h3
 | pieceEnd => exact fun hp => ⟨by simp [Q.far],hp⟩
 | partNo h ih => exact fun hp => ih hp
 | @partOk o p t q r h h1 ih ih1 => exact fun hp => Re.in_le (ih1 (ih hp).2) (by have := (ih hp).1;simp [Q.far] at *;omega)
 | @partMore o p l t q r h h1 h2 ih ih1 => exact fun hp => Re.in_le (ih1 (ih hp).2) (by have := (ih hp).1;simp [Q.far] at *;omega)
 | partBad h h1 ih => exact fun hp => ih hp
 | partEnd => exact fun hp => ⟨by simp [Q.far],hp⟩
 | patNo h ih => exact fun hp => ih hp
 | @patOk o p t q r h h1 ih ih1 => exact fun hp => Re.in_le (ih1 (ih hp).2) (by have := (ih hp).1;simp [Q.far] at *;omega)
 | @patMore o p l t q r h h1 h2 ih ih1 =>
  intro hp
  have := ch_ge (s := s) (p := p) (by omega)
  exact Re.in_le (ih1 (ih this).2) (by have := (ih this).1;simp [Q.far] at *;omega)
 | @patBad o p l c x h h1 ih =>
  intro hp
  have := ch_ge (s := s) (p := p) (by omega)
  exact ih this
 | patEnd => exact fun hp => ⟨by simp [Q.far],hp⟩
end Go.Proofs.YtgjcibhhffkemaaGreatDoor
namespace Go.Proofs.YtgjcibhhffkemaaGreatDoor
namespace Bt
def pk (f : Nat → Bool) : Nat → Nat
 | 0 => 0
 | n + 1 => pk f n + if f n then 2 ^ n else 0
theorem pk_lt (f : Nat → Bool) (n : Nat) : pk f n < 2 ^ n := by
 induction n with
 | zero => simp [pk]
 | succ n ih => simp only [pk];rw [Nat.pow_succ];split <;> omega
theorem pk_test (f : Nat → Bool) (n j : Nat) : (pk f n).testBit j = (decide (j < n) && f j) := by
 induction n with
 | zero => simp [pk]
 | succ n ih =>
  simp only [pk]
  have hl := pk_lt f n
  by_cases hf : f n
  ·rw [if_pos hf,Nat.add_comm]
   rcases Nat.lt_trichotomy j n with h | h | h
   ·rw [Nat.testBit_two_pow_add_gt h,ih];simp [h,Nat.lt_succ_of_lt h]
   ·subst h;rw [Nat.testBit_two_pow_add_eq,ih];simp [hf]
   ·rw [Nat.testBit_lt_two_pow]
    ·simp;omega
    ·calc 2 ^ n + pk f n < 2 ^ n + 2 ^ n := by omega
      _ = 2 ^ (n + 1) := by rw [Nat.pow_succ];omega
      _ ≤ 2 ^ j := Nat.pow_le_pow_right (by decide) h
  ·rw [if_neg hf,Nat.add_zero,ih]
   by_cases h : j = n
   ·subst h;simp [hf]
   ·have : decide (j < n + 1) = decide (j < n) := by simp;omega
    rw [this]
theorem pk_ext {f g : Nat → Bool} {n : Nat} (h : ∀ j,j < n → f j = g j) : pk f n = pk g n := by
 apply Nat.eq_of_testBit_eq
 intro j
 rw [pk_test,pk_test]
 by_cases hj : j < n
 ·rw [h j hj]
 ·simp [hj]
theorem pk_or (f g : Nat → Bool) (n : Nat) : pk f n ||| pk g n = pk (fun j => f j || g j) n := by
 apply Nat.eq_of_testBit_eq
 intro j
 rw [Nat.testBit_or,pk_test,pk_test,pk_test]
 cases decide (j < n) <;> simp
theorem pk_put (f : Nat → Bool) (n k : Nat) (hk : k < n) : pk f n ||| 2 ^ k = pk (fun j => f j || j == k) n := by
 apply Nat.eq_of_testBit_eq
 intro j
 rw [Nat.testBit_or,pk_test,pk_test,Nat.testBit_two_pow]
 by_cases hj : j < n
 ·by_cases e : k = j
  ·subst e;simp [hj]
  ·have : ¬ j = k := fun h => e h.symm
   simp [hj,e,this]
 ·have : ¬ k = j := by omega
  simp [hj,this]
theorem pk_add (f : Nat → Bool) (n k : Nat) (hk : k < n) (hf : f k = false) : pk f n + 2 ^ k = pk (fun j => f j || j == k) n := by
 induction n with
 | zero => omega
 | succ n ih =>
  simp only [pk]
  by_cases h : k = n
  ·subst h
   have : pk f k = pk (fun j => f j || j == k) k := pk_ext fun j hj => by
    have : ¬ j = k := by omega
    simp [this]
   rw [this];simp [hf]
  ·rw [← ih (by omega)]
   have : ¬ n = k := fun e => h e.symm
   simp [this];omega
def cnt (f : Nat → Bool) : Nat → Nat
 | 0 => 0
 | n + 1 => cnt f n + if f n then 1 else 0
theorem cnt_not (f : Nat → Bool) (n : Nat) : cnt f n + cnt (fun j => !f j) n = n := by
 induction n with
 | zero => simp [cnt]
 | succ n ih => simp only [cnt];by_cases h : f n = true <;> simp [h] <;> omega
theorem cnt_le (f : Nat → Bool) (n : Nat) : cnt f n ≤ n := by have := cnt_not f n;omega
def lst (f : Nat → Bool) (n : Nat) : List Int := ((List.range n).filter f).map (fun (x : Nat) => (x : Int))
theorem lst_succ (f : Nat → Bool) (n : Nat) : lst f (n + 1) = lst f n ++ if f n then [(n : Int)] else [] := by
 unfold lst;rw [List.range_succ,List.filter_append,List.map_append]
 cases h : f n <;> simp [h]
theorem lst_len (f : Nat → Bool) (n : Nat) : (lst f n).length = cnt f n := by
 induction n with
 | zero => simp [lst,cnt]
 | succ n ih => rw [lst_succ,List.length_append,ih];simp only [cnt];cases f n <;> simp
theorem lst_mem (f : Nat → Bool) (n x : Nat) : ((x : Int) ∈ lst f n) ↔ x < n ∧ f x = true := by
 unfold lst;simp only [List.mem_map,List.mem_filter,List.mem_range]
 constructor
 ·rintro ⟨y,h,e⟩;obtain rfl : y = x := by omega
  exact h
 ·intro h;exact ⟨x,h,rfl⟩
theorem lst_bd (f : Nat → Bool) (n : Nat) : ∀ x ∈ lst f n,0 ≤ x ∧ x < n := by
 intro x hx
 unfold lst at hx;simp only [List.mem_map,List.mem_filter,List.mem_range] at hx
 obtain ⟨y,h,rfl⟩ := hx;omega
def wd (f : Nat → Bool) (i : Nat) : Nat := pk (fun j => f (64 * i + j)) 64
theorem wd_lt (f : Nat → Bool) (i : Nat) : wd f i < 18446744073709551616 := pk_lt _ 64
theorem wd_ext {f g : Nat → Bool} (h : ∀ x,x < 256 → f x = g x) (i : Nat) (hi : i < 4) : wd f i = wd g i := pk_ext fun j hj => h _ (by omega)
theorem wd_test (f : Nat → Bool) (x : Nat) : (wd f (x / 64)).testBit (x % 64) = f x := by
 unfold wd;rw [pk_test,Nat.div_add_mod];simp;omega
theorem wd_or (f g : Nat → Bool) (i : Nat) : wd f i ||| wd g i = wd (fun x => f x || g x) i := pk_or _ _ _
theorem wd_put (f : Nat → Bool) (x : Nat) : wd f (x / 64) ||| 2 ^ (x % 64) = wd (fun y => f y || y == x) (x / 64) := by
 unfold wd;rw [pk_put _ _ _ (by omega)]
 apply pk_ext;intro j hj
 have : (j == x % 64) = (64 * (x / 64) + j == x) := by rw [Bool.eq_iff_iff];simp;omega
 simp only [this]
theorem wd_add (f : Nat → Bool) (x : Nat) (h : f x = false) : wd f (x / 64) + 2 ^ (x % 64) = wd (fun y => f y || y == x) (x / 64) := by
 unfold wd;rw [pk_add _ _ _ (by omega) (by rw [Nat.div_add_mod];exact h)]
 apply pk_ext;intro j hj
 have : (j == x % 64) = (64 * (x / 64) + j == x) := by rw [Bool.eq_iff_iff];simp;omega
 simp only [this]
theorem wd_put_eq (f : Nat → Bool) (x q : Nat) (hq : x / 64 = q) : wd f q ||| 2 ^ (x % 64) = wd (fun y => f y || y == x) q := by subst hq;exact wd_put f x
theorem wd_keep (f : Nat → Bool) (x i : Nat) (h : i ≠ x / 64) : wd (fun y => f y || y == x) i = wd f i := by
 unfold wd;apply pk_ext;intro j hj
 have : (64 * i + j == x) = false := by rw [beq_eq_false_iff_ne];omega
 simp [this]
theorem wd_none (i : Nat) : wd (fun _ => false) i = 0 := by
 unfold wd
 have : ∀ n,pk (fun _ => false) n = 0 := fun n => by induction n with | zero => rfl | succ n ih => simp [pk,ih]
 exact this 64
end Bt
end Go.Proofs.YtgjcibhhffkemaaGreatDoor
namespace Go.Proofs.YtgjcibhhffkemaaGreatDoor
namespace Luhn
def ldig (n c : Int) : Int := if n % 2 = 1 then (if 9 < (c - 48) * 2 then (c - 48) * 2 - 9 else (c - 48) * 2) else c - 48
def lstep (c : Int) (st : Int × Int) : Int × Int := if c < 48 ∨ 57 < c then st else (st.1 + 1,(st.2 + ldig st.1 c) % 10)
def luhn (w : List Int) : Int × Int := w.foldr lstep (0,0)
end Luhn
end Go.Proofs.YtgjcibhhffkemaaGreatDoor
namespace Go.Proofs.YtgjcibhhffkemaaGreatDoor
open Go.RowKit Luhn
def RdB (w : World) (v : Value) (xs : List Int) : Prop :=
 (xs = [] ∧ ∃ a c,v = .slice a 0 c) ∨ ∃ b off cap,v = .slice (some ⟨b,off,none⟩) xs.length cap ∧ xs.length ≤ cap ∧ xs.length ≤ 140737488355328 ∧
  (∀ j,j < xs.length → w.cell? ⟨b,off + j,none⟩ = some (.int .u8 (xs.getD j 0))) ∧ (∀ j,0 ≤ xs.getD j 0 ∧ xs.getD j 0 ≤ 255)
theorem rdB_cells {W : World} {g T c : Nat} {fr : Nat × Nat} (cs : List Int) (h : W.heap[g]? = some (.cells (cs.map (Value.int .u8)).toArray T fr)) (hc : cs.length ≤ c) (hm : cs.length ≤ 140737488355328) (hb : ∀ x ∈ cs,0 ≤ x ∧ x ≤ 255) :
  RdB W (.slice (some ⟨g,0,none⟩) cs.length c) cs := by
 refine .inr ⟨g,0,c,rfl,hc,hm,fun j hj => ?_,fun j => ?_⟩
 ·simp [World.cell?,h,List.getElem?_eq_getElem hj,List.getD_eq_getElem?_getD]
 ·by_cases hj : j < cs.length
  ·have := hb cs[j] (List.getElem_mem hj)
   simpa [List.getD_eq_getElem?_getD,List.getElem?_eq_getElem hj] using this
  ·simp [List.getD_eq_getElem?_getD,List.getElem?_eq_none (Nat.not_lt.1 hj)]
theorem rdB_below {W W1 : World} {v : Value} {xs : List Int} (h : RdB W v xs) (hb : Below W.heap.size W W1) : RdB W1 v xs := by
 rcases h with h | ⟨b,off,cap,rfl,hcap,hmax,hc,hbd⟩
 ·exact .inl h
 ·exact .inr ⟨b,off,cap,rfl,hcap,hmax,fun j hj => (hb.cell (World.block_lt_of_cell? W _ (hc j hj))).trans (hc j hj),hbd⟩
theorem take_snoc (xs : List Int) (k : Nat) (h : k < xs.length) : xs.take (k + 1) = xs.take k ++ [xs.getD k 0] := by
 rw [List.take_succ_eq_append_getElem h];simp [List.getD_eq_getElem?_getD,List.getElem?_eq_getElem h]
end Go.Proofs.YtgjcibhhffkemaaGreatDoor
namespace Go.Proofs.YtgjcibhhffkemaaGreatDoor
open Go.RowKit Bt
abbrev setV (a b c d : Int) : Value := .agg #[.int .u64 a,.int .u64 b,.int .u64 c,.int .u64 d]
abbrev setC (a b c d : Int) : Array Value := #[.int .u64 a,.int .u64 b,.int .u64 c,.int .u64 d]
def setOf (f : Nat → Bool) : Value := setV (wd f 0) (wd f 1) (wd f 2) (wd f 3)
def cellsOf (f : Nat → Bool) : Array Value := setC (wd f 0) (wd f 1) (wd f 2) (wd f 3)
theorem setOf_ext {f g : Nat → Bool} (h : ∀ x,x < 256 → f x = g x) : setOf f = setOf g := by
 unfold setOf;rw [wd_ext h 0 (by decide),wd_ext h 1 (by decide),wd_ext h 2 (by decide),wd_ext h 3 (by decide)]
theorem cellsOf_ext {f g : Nat → Bool} (h : ∀ x,x < 256 → f x = g x) : cellsOf f = cellsOf g := by
 unfold cellsOf;rw [wd_ext h 0 (by decide),wd_ext h 1 (by decide),wd_ext h 2 (by decide),wd_ext h 3 (by decide)]
theorem bit_and (n j : Nat) (hn : n < 18446744073709551616) : (bits BinOp.and IntKind.u64 ((n : Int) / 2 ^ j) 1 == 1) = n.testBit j := by
 have e : (n : Int) / 2 ^ j = ((n / 2 ^ j : Nat) : Int) := by simp
 have hl : n / 2 ^ j < 18446744073709551616 := Nat.lt_of_le_of_lt (Nat.div_le_self _ _) hn
 rw [e,show (1 : Int) = ((1 : Nat) : Int) from rfl,u64_and_nat _ _ hl (by decide),nat_mask1,Nat.testBit_eq_decide_div_mod_eq,Bool.eq_iff_iff]
 simp;omega
theorem bit_mod (n j : Nat) : (((n : Int) / 2 ^ j).tmod 2 == 1) = n.testBit j := by
 have e : (n : Int) / 2 ^ j = ((n / 2 ^ j : Nat) : Int) := by simp
 rw [e,Int.tmod_eq_emod_of_nonneg (Int.natCast_nonneg _),Nat.testBit_eq_decide_div_mod_eq,Bool.eq_iff_iff]
 simp;omega
set_option maxHeartbeats 800000 in
theorem has_q0 (a b c d x : Int) (w : World) (h0 : 0 ≤ x) (h1 : x ≤ 63) (hq : x / 64 = 0) (ha : 0 ≤ a) (hb : 0 ≤ b) (hc : 0 ≤ c) (hd : 0 ≤ d) :
  Calls Tryz.prog 18 #[setV a b c d,.int .u8 x] w fun e w' => e = .returned (.bool (bits BinOp.and IntKind.u64 (a / 2 ^ (x % 64).toNat) 1 == 1)) ∧ Below w.heap.size w w' := by
 go_enter Tryz.func18,Tryz.ntmps18
 go_wp2
 go_returns
 exact ⟨rfl,by go_grown⟩
set_option maxHeartbeats 800000 in
theorem has_q1 (a b c d x : Int) (w : World) (h0 : 64 ≤ x) (h1 : x ≤ 127) (hq : x / 64 = 1) (ha : 0 ≤ a) (hb : 0 ≤ b) (hc : 0 ≤ c) (hd : 0 ≤ d) :
  Calls Tryz.prog 18 #[setV a b c d,.int .u8 x] w fun e w' => e = .returned (.bool (bits BinOp.and IntKind.u64 (b / 2 ^ (x % 64).toNat) 1 == 1)) ∧ Below w.heap.size w w' := by
 go_enter Tryz.func18,Tryz.ntmps18
 go_wp2
 go_returns
 exact ⟨rfl,by go_grown⟩
set_option maxHeartbeats 800000 in
theorem has_q2 (a b c d x : Int) (w : World) (h0 : 128 ≤ x) (h1 : x ≤ 191) (hq : x / 64 = 2) (ha : 0 ≤ a) (hb : 0 ≤ b) (hc : 0 ≤ c) (hd : 0 ≤ d) :
  Calls Tryz.prog 18 #[setV a b c d,.int .u8 x] w fun e w' => e = .returned (.bool (bits BinOp.and IntKind.u64 (c / 2 ^ (x % 64).toNat) 1 == 1)) ∧ Below w.heap.size w w' := by
 go_enter Tryz.func18,Tryz.ntmps18
 go_wp2
 go_returns
 exact ⟨rfl,by go_grown⟩
set_option maxHeartbeats 800000 in
theorem has_q3 (a b c d x : Int) (w : World) (h0 : 192 ≤ x) (h1 : x ≤ 255) (hq : x / 64 = 3) (ha : 0 ≤ a) (hb : 0 ≤ b) (hc : 0 ≤ c) (hd : 0 ≤ d) :
  Calls Tryz.prog 18 #[setV a b c d,.int .u8 x] w fun e w' => e = .returned (.bool (bits BinOp.and IntKind.u64 (d / 2 ^ (x % 64).toNat) 1 == 1)) ∧ Below w.heap.size w w' := by
 go_enter Tryz.func18,Tryz.ntmps18
 go_wp2
 go_returns
 exact ⟨rfl,by go_grown⟩
theorem has_any (f : Nat → Bool) (x : Int) (w : World) (h0 : 0 ≤ x) (h1 : x ≤ 255) :
  Calls Tryz.prog 18 #[setOf f,.int .u8 x] w fun e w' => e = .returned (.bool (f x.toNat)) ∧ Below w.heap.size w w' := by
 obtain ⟨n,rfl⟩ := Int.eq_ofNat_of_zero_le h0
 have hm : ((n : Int) % 64).toNat = n % 64 := by omega
 have hw := wd_test f n
 rcases (by omega : n / 64 = 0 ∨ n / 64 = 1 ∨ n / 64 = 2 ∨ n / 64 = 3) with h | h | h | h
 ·rw [h] at hw
  refine (has_q0 _ _ _ _ (n : Int) w (by omega) (by omega) (by omega) (by omega) (by omega) (by omega) (by omega)).mono fun e w' ⟨he,hb⟩ => ⟨?_,hb⟩
  rw [he,hm,bit_and _ _ (wd_lt _ _),hw];rfl
 ·rw [h] at hw
  refine (has_q1 _ _ _ _ (n : Int) w (by omega) (by omega) (by omega) (by omega) (by omega) (by omega) (by omega)).mono fun e w' ⟨he,hb⟩ => ⟨?_,hb⟩
  rw [he,hm,bit_and _ _ (wd_lt _ _),hw];rfl
 ·rw [h] at hw
  refine (has_q2 _ _ _ _ (n : Int) w (by omega) (by omega) (by omega) (by omega) (by omega) (by omega) (by omega)).mono fun e w' ⟨he,hb⟩ => ⟨?_,hb⟩
  rw [he,hm,bit_and _ _ (wd_lt _ _),hw];rfl
 ·rw [h] at hw
  refine (has_q3 _ _ _ _ (n : Int) w (by omega) (by omega) (by omega) (by omega) (by omega) (by omega) (by omega)).mono fun e w' ⟨he,hb⟩ => ⟨?_,hb⟩
  rw [he,hm,bit_and _ _ (wd_lt _ _),hw];rfl
set_option maxHeartbeats 800000 in
theorem refHas_q0 (a b c d x : Int) (w : World) (h0 : 0 ≤ x) (h1 : x ≤ 63) (hq : x / 64 = 0) (ha : 0 ≤ a) (hb : 0 ≤ b) (hc : 0 ≤ c) (hd : 0 ≤ d) :
  Calls Tryz.prog 31 #[setV a b c d,.int .u8 x] w fun e w' => e = .returned (.bool ((a / 2 ^ (x % 64).toNat).tmod 2 == 1)) ∧ Below w.heap.size w w' := by
 go_enter Tryz.func31,Tryz.ntmps31
 go_wp2
 go_returns
 exact ⟨rfl,by go_grown⟩
set_option maxHeartbeats 800000 in
theorem refHas_q1 (a b c d x : Int) (w : World) (h0 : 64 ≤ x) (h1 : x ≤ 127) (hq : x / 64 = 1) (ha : 0 ≤ a) (hb : 0 ≤ b) (hc : 0 ≤ c) (hd : 0 ≤ d) :
  Calls Tryz.prog 31 #[setV a b c d,.int .u8 x] w fun e w' => e = .returned (.bool ((b / 2 ^ (x % 64).toNat).tmod 2 == 1)) ∧ Below w.heap.size w w' := by
 go_enter Tryz.func31,Tryz.ntmps31
 go_wp2
 go_returns
 exact ⟨rfl,by go_grown⟩
set_option maxHeartbeats 800000 in
theorem refHas_q2 (a b c d x : Int) (w : World) (h0 : 128 ≤ x) (h1 : x ≤ 191) (hq : x / 64 = 2) (ha : 0 ≤ a) (hb : 0 ≤ b) (hc : 0 ≤ c) (hd : 0 ≤ d) :
  Calls Tryz.prog 31 #[setV a b c d,.int .u8 x] w fun e w' => e = .returned (.bool ((c / 2 ^ (x % 64).toNat).tmod 2 == 1)) ∧ Below w.heap.size w w' := by
 go_enter Tryz.func31,Tryz.ntmps31
 go_wp2
 go_returns
 exact ⟨rfl,by go_grown⟩
set_option maxHeartbeats 800000 in
theorem refHas_q3 (a b c d x : Int) (w : World) (h0 : 192 ≤ x) (h1 : x ≤ 255) (hq : x / 64 = 3) (ha : 0 ≤ a) (hb : 0 ≤ b) (hc : 0 ≤ c) (hd : 0 ≤ d) :
  Calls Tryz.prog 31 #[setV a b c d,.int .u8 x] w fun e w' => e = .returned (.bool ((d / 2 ^ (x % 64).toNat).tmod 2 == 1)) ∧ Below w.heap.size w w' := by
 go_enter Tryz.func31,Tryz.ntmps31
 go_wp2
 go_returns
 exact ⟨rfl,by go_grown⟩
theorem refHas_any (f : Nat → Bool) (x : Int) (w : World) (h0 : 0 ≤ x) (h1 : x ≤ 255) :
  Calls Tryz.prog 31 #[setOf f,.int .u8 x] w fun e w' => e = .returned (.bool (f x.toNat)) ∧ Below w.heap.size w w' := by
 obtain ⟨n,rfl⟩ := Int.eq_ofNat_of_zero_le h0
 have hm : ((n : Int) % 64).toNat = n % 64 := by omega
 have hw := wd_test f n
 rcases (by omega : n / 64 = 0 ∨ n / 64 = 1 ∨ n / 64 = 2 ∨ n / 64 = 3) with h | h | h | h
 ·rw [h] at hw
  refine (refHas_q0 _ _ _ _ (n : Int) w (by omega) (by omega) (by omega) (by omega) (by omega) (by omega) (by omega)).mono fun e w' ⟨he,hb⟩ => ⟨?_,hb⟩
  rw [he,hm,bit_mod _ _,hw];rfl
 ·rw [h] at hw
  refine (refHas_q1 _ _ _ _ (n : Int) w (by omega) (by omega) (by omega) (by omega) (by omega) (by omega) (by omega)).mono fun e w' ⟨he,hb⟩ => ⟨?_,hb⟩
  rw [he,hm,bit_mod _ _,hw];rfl
 ·rw [h] at hw
  refine (refHas_q2 _ _ _ _ (n : Int) w (by omega) (by omega) (by omega) (by omega) (by omega) (by omega) (by omega)).mono fun e w' ⟨he,hb⟩ => ⟨?_,hb⟩
  rw [he,hm,bit_mod _ _,hw];rfl
 ·rw [h] at hw
  refine (refHas_q3 _ _ _ _ (n : Int) w (by omega) (by omega) (by omega) (by omega) (by omega) (by omega) (by omega)).mono fun e w' ⟨he,hb⟩ => ⟨?_,hb⟩
  rw [he,hm,bit_mod _ _,hw];rfl
def memF (xs : List Int) (y : Nat) : Bool := xs.contains (y : Int)
theorem memF_snoc (xs : List Int) (x : Int) (h : 0 ≤ x) : memF (xs ++ [x]) = fun y => memF xs y || y == x.toNat := by
 funext y;obtain ⟨n,rfl⟩ := Int.eq_ofNat_of_zero_le h
 simp only [memF,List.contains_append,List.contains_cons,List.contains_nil,Bool.or_false,Int.toNat_natCast]
 congr 1;rw [Bool.eq_iff_iff,beq_iff_eq,beq_iff_eq];omega
theorem memF_nil : memF [] = fun _ => false := by funext y;simp [memF]
theorem cells_none : cellsOf (fun _ => false) = setC 0 0 0 0 := by unfold cellsOf;simp [wd_none]
theorem cells_put (f : Nat → Bool) (x : Nat) (hx : x < 256) : cellsOf (fun y => f y || y == x) = (cellsOf f).set! (x / 64) (.int .u64 ((wd f (x / 64) ||| 2 ^ (x % 64) : Nat) : Int)) := by
 rw [wd_put]
 unfold cellsOf
 have hk := fun i (h : i ≠ x / 64) => wd_keep f x i h
 rcases (by omega : x / 64 = 0 ∨ x / 64 = 1 ∨ x / 64 = 2 ∨ x / 64 = 3) with h | h | h | h
 ·rw [hk 1 (by omega),hk 2 (by omega),hk 3 (by omega),h];rfl
 ·rw [hk 0 (by omega),hk 2 (by omega),hk 3 (by omega),h];rfl
 ·rw [hk 0 (by omega),hk 1 (by omega),hk 3 (by omega),h];rfl
 ·rw [hk 0 (by omega),hk 1 (by omega),hk 2 (by omega),h];rfl
theorem or_put (f : Nat → Bool) (c : Int) (q : Nat) (h0 : 0 ≤ c) (h1 : c ≤ 255) (hq : c / 64 = q) :
  (Value.int .u64 (bits BinOp.or IntKind.u64 ((wd f q : Nat) : Int) (IntKind.u64.wrap (2 ^ (c % 64).toNat))) = .int .u64 ((wd f q ||| 2 ^ (c.toNat % 64) : Nat) : Int)) ∧
  cellsOf (fun y => f y || y == c.toNat) = (cellsOf f).set! q (.int .u64 ((wd f q ||| 2 ^ (c.toNat % 64) : Nat) : Int)) := by
 obtain ⟨n,rfl⟩ := Int.eq_ofNat_of_zero_le h0
 have hn : n / 64 = q := by omega
 have hm : ((n : Int) % 64).toNat = n % 64 := by omega
 have hp : 2 ^ (n % 64) < 18446744073709551616 := by
  calc 2 ^ (n % 64) ≤ 2 ^ 63 := Nat.pow_le_pow_right (by decide) (by omega)
   _ < 18446744073709551616 := by decide
 constructor
 ·rw [hm,IntKind.wrap_u64,show ((2 : Int) ^ (n % 64)) % 18446744073709551616 = ((2 ^ (n % 64) : Nat) : Int) from by
   have e : ((2 : Int) ^ (n % 64)) = ((2 ^ (n % 64) : Nat) : Int) := by simp
   rw [e];generalize 2 ^ (n % 64) = p at hp ⊢;omega,u64_or_nat _ _ (wd_lt _ _) hp]
  rfl
 ·have := cells_put f n (by omega)
  rw [hn] at this
  exact this
set_option maxRecDepth 100000 in
set_option maxHeartbeats 1600000 in
theorem of_any (v : Value) (xs : List Int) (w : World) (h : RdB w v xs) :
  Calls Tryz.prog 122 #[v] w fun e w' => e = .returned (setOf (memF xs)) ∧ Below w.heap.size w w' := by
 rcases h with ⟨rfl,a,c,rfl⟩ | ⟨b,off,cap,rfl,hcap,hmax,hc,hb⟩
 ·go_enter Tryz.func122,Tryz.ntmps122
  go_wp2
  refine wp_loop_rounds 1 ?_;rw [rounds_succ]
  go_wp2
  go_returns
  exact ⟨by rw [memF_nil];unfold setOf;simp [wd_none],by go_grown⟩
 ·have HC := Lib.hid hc;have HB := Lib.hid hb;clear hc hb
  go_enter Tryz.func122,Tryz.ntmps122
  go_wp2
  go_loopw [8] (fun i wr => ∃ k : Nat,k ≤ xs.length ∧ i = .int .i64 k ∧ AtG wr (w.heap.size + 1) 38 (cellsOf (memF (xs.take k))) ∧ AtG wr w.heap.size 38 (setC 0 0 0 0) ∧ Below w.heap.size w wr) (fun i _ => xs.length - (intOf i).toNat)
  case atStart => exact ⟨0,Nat.zero_le _,rfl,by rw [List.take_zero,memF_nil,cells_none];have := AtG.new (w.alloc (.cells (setC 0 0 0 0) 38)) 38 (setC 0 0 0 0);simpa using this,(AtG.new w _ _).alloc _,by go_grown⟩
  case round =>
   obtain ⟨k,hk,rfl,hat,hres,hbl⟩ := hrel
   have hl0 := hat.lt
   by_cases hlt : k < xs.length
   ·have hck := HC.out k hlt
    obtain ⟨hb0,hb1⟩ := HB.out k
    have hlb : b < w.heap.size := World.block_lt_of_cell? w _ hck
    have hck' : wr.cell? ⟨b,off + k,none⟩ = some (.int .u8 (xs.getD k 0)) := (hbl.cell (p := ⟨b,off + k,none⟩) hlb).trans hck
    have hts := take_snoc xs k hlt
    clear hck
    have HT := Lib.hid hts;have HBL := Lib.hid hbl;have HAT := Lib.hid hat;have HRES := Lib.hid hres;clear hts hbl hat hres
    generalize xs.getD k 0 = c at *
    have hne : b ≠ w.heap.size + 1 := by omega
    have hsn := memF_snoc (xs.take k) c hb0
    rw [← HT.out] at hsn
    have HSN := Lib.hid hsn;clear hsn
    have hq4 : c / 64 = 0 ∨ c / 64 = 1 ∨ c / 64 = 2 ∨ c / 64 = 3 := by omega
    rcases hq4 with hq | hq | hq | hq
    ·as_aux_lemma =>
      have c0 : wr.cell? ⟨w.heap.size + 1,0,none⟩ = some (.int .u64 ((wd (memF (xs.take k)) 0 : Nat) : Int)) := HAT.out.cell 0 _ rfl
      have f0 := HAT.out.frozen 0
      have HE := Lib.hid (or_put (memF (xs.take k)) c 0 hb0 hb1 hq)
      generalize ((wd (memF (xs.take k)) 0 : Nat) : Int) = A at c0 HE
      go_wp2
      exact ⟨⟨k + 1,by omega,by go_num,by rw [HSN.out,HE.out.2,← HE.out.1];exact HAT.out.set 0 _,HRES.out.far (by simp) _,HBL.out.setCell (by simp) _⟩,by simp [intOf];omega⟩
    ·as_aux_lemma =>
      have c0 : wr.cell? ⟨w.heap.size + 1,1,none⟩ = some (.int .u64 ((wd (memF (xs.take k)) 1 : Nat) : Int)) := HAT.out.cell 1 _ rfl
      have f0 := HAT.out.frozen 1
      have HE := Lib.hid (or_put (memF (xs.take k)) c 1 hb0 hb1 hq)
      generalize ((wd (memF (xs.take k)) 1 : Nat) : Int) = A at c0 HE
      go_wp2
      exact ⟨⟨k + 1,by omega,by go_num,by rw [HSN.out,HE.out.2,← HE.out.1];exact HAT.out.set 1 _,HRES.out.far (by simp) _,HBL.out.setCell (by simp) _⟩,by simp [intOf];omega⟩
    ·as_aux_lemma =>
      have c0 : wr.cell? ⟨w.heap.size + 1,2,none⟩ = some (.int .u64 ((wd (memF (xs.take k)) 2 : Nat) : Int)) := HAT.out.cell 2 _ rfl
      have f0 := HAT.out.frozen 2
      have HE := Lib.hid (or_put (memF (xs.take k)) c 2 hb0 hb1 hq)
      generalize ((wd (memF (xs.take k)) 2 : Nat) : Int) = A at c0 HE
      go_wp2
      exact ⟨⟨k + 1,by omega,by go_num,by rw [HSN.out,HE.out.2,← HE.out.1];exact HAT.out.set 2 _,HRES.out.far (by simp) _,HBL.out.setCell (by simp) _⟩,by simp [intOf];omega⟩
    ·as_aux_lemma =>
      have c0 : wr.cell? ⟨w.heap.size + 1,3,none⟩ = some (.int .u64 ((wd (memF (xs.take k)) 3 : Nat) : Int)) := HAT.out.cell 3 _ rfl
      have f0 := HAT.out.frozen 3
      have HE := Lib.hid (or_put (memF (xs.take k)) c 3 hb0 hb1 hq)
      generalize ((wd (memF (xs.take k)) 3 : Nat) : Int) = A at c0 HE
      go_wp2
      exact ⟨⟨k + 1,by omega,by go_num,by rw [HSN.out,HE.out.2,← HE.out.1];exact HAT.out.set 3 _,HRES.out.far (by simp) _,HBL.out.setCell (by simp) _⟩,by simp [intOf];omega⟩
   ·obtain rfl : k = xs.length := by omega
    rw [List.take_length] at hat
    have c0 : wr.cell? ⟨w.heap.size + 1,0,none⟩ = some (.int .u64 ((wd (memF xs) 0 : Nat) : Int)) := hat.cell 0 _ rfl
    have c1 : wr.cell? ⟨w.heap.size + 1,1,none⟩ = some (.int .u64 ((wd (memF xs) 1 : Nat) : Int)) := hat.cell 1 _ rfl
    have c2 : wr.cell? ⟨w.heap.size + 1,2,none⟩ = some (.int .u64 ((wd (memF xs) 2 : Nat) : Int)) := hat.cell 2 _ rfl
    have c3 : wr.cell? ⟨w.heap.size + 1,3,none⟩ = some (.int .u64 ((wd (memF xs) 3 : Nat) : Int)) := hat.cell 3 _ rfl
    have d0 := hres.cell 0 _ rfl
    have d1 := hres.cell 1 _ rfl
    have d2 := hres.cell 2 _ rfl
    have d3 := hres.cell 3 _ rfl
    have f0 := hres.frozen 0
    have f1 := hres.frozen 1
    have f2 := hres.frozen 2
    have f3 := hres.frozen 3
    have HBL := Lib.hid hbl;clear hbl hat hres HC HB
    go_wp2
    refine bodyPost_ret (v := setOf (memF xs)) (by simp [results,Tryz.results122,go_sem,d0,d1,d2,d3];rfl) rfl ⟨rfl,?_⟩
    exact (((HBL.out.setCell (by simp) _).setCell (by simp) _).setCell (by simp) _).setCell (by simp) _
end Go.Proofs.YtgjcibhhffkemaaGreatDoor
namespace Go.Proofs.YtgjcibhhffkemaaGreatDoor
open Go.RowKit Bt
def rngF (lo c : Nat) (y : Nat) : Bool := decide (lo ≤ y) && decide (y < c)
theorem rngF_self (lo : Nat) : rngF lo lo = fun _ => false := by funext y;unfold rngF;rw [Bool.eq_iff_iff];simp
theorem rngF_succ (lo c : Nat) (h : lo ≤ c) : rngF lo (c + 1) = fun y => rngF lo c y || y == c := by
 funext y;unfold rngF;rw [Bool.eq_iff_iff];simp;omega
theorem or_putN (f : Nat → Bool) (k q : Nat) (h1 : k ≤ 255) (hq : (k : Int) / 64 = q) :
  (Value.int .u64 (bits BinOp.or IntKind.u64 ((wd f q : Nat) : Int) (IntKind.u64.wrap (2 ^ ((k : Int) % 64).toNat))) = .int .u64 ((wd f q ||| 2 ^ (k % 64) : Nat) : Int)) ∧
  (Value.int .u64 (bits BinOp.or IntKind.u64 ((wd f q : Nat) : Int) (IntKind.u64.wrap (2 ^ (k % 64)))) = .int .u64 ((wd f q ||| 2 ^ (k % 64) : Nat) : Int)) ∧
  cellsOf (fun y => f y || y == k) = (cellsOf f).set! q (.int .u64 ((wd f q ||| 2 ^ (k % 64) : Nat) : Int)) := by
 have h := or_put f (k : Int) q (by omega) (by omega) hq
 rw [Int.toNat_natCast] at h
 refine ⟨h.1,?_,h.2⟩
 rw [← h.1,show ((k : Int) % 64).toNat = k % 64 from by omega]
set_option maxRecDepth 100000 in
set_option maxHeartbeats 1600000 in
theorem range_any (lo hi : Int) (w : World) (h0 : 0 ≤ lo) (h1 : lo ≤ 255) (h2 : 0 ≤ hi) (h3 : hi ≤ 255) :
  Calls Tryz.prog 132 #[.int .u8 lo,.int .u8 hi] w fun e w' => e = .returned (setOf (rngF lo.toNat (hi.toNat + 1))) ∧ Below w.heap.size w w' := by
 obtain ⟨l,rfl⟩ := Int.eq_ofNat_of_zero_le h0
 obtain ⟨h,rfl⟩ := Int.eq_ofNat_of_zero_le h2
 rw [Int.toNat_natCast,Int.toNat_natCast]
 go_enter Tryz.func132,Tryz.ntmps132
 go_wp2
 go_loopw [6] (fun i wr => ∃ k : Nat,l ≤ k ∧ (k ≤ l ∨ k ≤ h + 1) ∧ i = .int .i64 k ∧ AtG wr (w.heap.size + 1) 38 (cellsOf (rngF l k)) ∧ AtG wr w.heap.size 38 (setC 0 0 0 0) ∧ Below w.heap.size w wr) (fun i _ => 300 - (intOf i).toNat)
 case atStart => exact ⟨l,Nat.le_refl _,.inl (Nat.le_refl _),rfl,by rw [rngF_self,cells_none];have := AtG.new (w.alloc (.cells (setC 0 0 0 0) 38)) 38 (setC 0 0 0 0);simpa using this,(AtG.new w _ _).alloc _,by go_grown⟩
 case round =>
  obtain ⟨k,hk,hk2,rfl,hat,hres,hbl⟩ := hrel
  have hl0 := hat.lt
  by_cases hlt : k ≤ h
  ·have HBL := Lib.hid hbl;have HAT := Lib.hid hat;have HRES := Lib.hid hres;have HSN := Lib.hid (rngF_succ l k hk);clear hbl hat hres hk2
   have hb0 : (0 : Int) ≤ (k : Int) := by omega
   have hb1 : (k : Int) ≤ 255 := by omega
   have hq4 : (k : Int) / 64 = 0 ∨ (k : Int) / 64 = 1 ∨ (k : Int) / 64 = 2 ∨ (k : Int) / 64 = 3 := by omega
   rcases hq4 with hq | hq | hq | hq
   ·as_aux_lemma =>
     have c0 : wr.cell? ⟨w.heap.size + 1,0,none⟩ = some (.int .u64 ((wd (rngF l k) 0 : Nat) : Int)) := HAT.out.cell 0 _ rfl
     have f0 := HAT.out.frozen 0
     have HE := Lib.hid (or_putN (rngF l k) k 0 (by omega) hq)
     generalize ((wd (rngF l k) 0 : Nat) : Int) = A at c0 HE
     go_wp2
     go_region
     go_wp2
     exact ⟨⟨k + 1,by omega,by omega,by go_num,by rw [HSN.out,HE.out.2.2];first | (rw [← HE.out.1];exact HAT.out.drew.set 0 _;done) | (rw [← HE.out.2.1];exact HAT.out.drew.set 0 _),HRES.out.drew.far (by simp) _,HBL.out.drew.setCell (by simp) _⟩,by simp [intOf];omega⟩
   ·as_aux_lemma =>
     have c0 : wr.cell? ⟨w.heap.size + 1,1,none⟩ = some (.int .u64 ((wd (rngF l k) 1 : Nat) : Int)) := HAT.out.cell 1 _ rfl
     have f0 := HAT.out.frozen 1
     have HE := Lib.hid (or_putN (rngF l k) k 1 (by omega) hq)
     generalize ((wd (rngF l k) 1 : Nat) : Int) = A at c0 HE
     go_wp2
     go_region
     go_wp2
     exact ⟨⟨k + 1,by omega,by omega,by go_num,by rw [HSN.out,HE.out.2.2];first | (rw [← HE.out.1];exact HAT.out.drew.set 1 _;done) | (rw [← HE.out.2.1];exact HAT.out.drew.set 1 _),HRES.out.drew.far (by simp) _,HBL.out.drew.setCell (by simp) _⟩,by simp [intOf];omega⟩
   ·as_aux_lemma =>
     have c0 : wr.cell? ⟨w.heap.size + 1,2,none⟩ = some (.int .u64 ((wd (rngF l k) 2 : Nat) : Int)) := HAT.out.cell 2 _ rfl
     have f0 := HAT.out.frozen 2
     have HE := Lib.hid (or_putN (rngF l k) k 2 (by omega) hq)
     generalize ((wd (rngF l k) 2 : Nat) : Int) = A at c0 HE
     go_wp2
     go_region
     go_wp2
     exact ⟨⟨k + 1,by omega,by omega,by go_num,by rw [HSN.out,HE.out.2.2];first | (rw [← HE.out.1];exact HAT.out.drew.set 2 _;done) | (rw [← HE.out.2.1];exact HAT.out.drew.set 2 _),HRES.out.drew.far (by simp) _,HBL.out.drew.setCell (by simp) _⟩,by simp [intOf];omega⟩
   ·as_aux_lemma =>
     have c0 : wr.cell? ⟨w.heap.size + 1,3,none⟩ = some (.int .u64 ((wd (rngF l k) 3 : Nat) : Int)) := HAT.out.cell 3 _ rfl
     have f0 := HAT.out.frozen 3
     have HE := Lib.hid (or_putN (rngF l k) k 3 (by omega) hq)
     generalize ((wd (rngF l k) 3 : Nat) : Int) = A at c0 HE
     go_wp2
     go_region
     go_wp2
     exact ⟨⟨k + 1,by omega,by omega,by go_num,by rw [HSN.out,HE.out.2.2];first | (rw [← HE.out.1];exact HAT.out.drew.set 3 _;done) | (rw [← HE.out.2.1];exact HAT.out.drew.set 3 _),HRES.out.drew.far (by simp) _,HBL.out.drew.setCell (by simp) _⟩,by simp [intOf];omega⟩
  ·have e : cellsOf (rngF l k) = cellsOf (rngF l (h + 1)) := cellsOf_ext fun x _ => by unfold rngF;rw [Bool.eq_iff_iff];simp;omega
   rw [e] at hat
   have c0 : wr.cell? ⟨w.heap.size + 1,0,none⟩ = some (.int .u64 ((wd (rngF l (h + 1)) 0 : Nat) : Int)) := hat.cell 0 _ rfl
   have c1 : wr.cell? ⟨w.heap.size + 1,1,none⟩ = some (.int .u64 ((wd (rngF l (h + 1)) 1 : Nat) : Int)) := hat.cell 1 _ rfl
   have c2 : wr.cell? ⟨w.heap.size + 1,2,none⟩ = some (.int .u64 ((wd (rngF l (h + 1)) 2 : Nat) : Int)) := hat.cell 2 _ rfl
   have c3 : wr.cell? ⟨w.heap.size + 1,3,none⟩ = some (.int .u64 ((wd (rngF l (h + 1)) 3 : Nat) : Int)) := hat.cell 3 _ rfl
   have d0 := hres.cell 0 _ rfl
   have f0 := hres.frozen 0
   have d1 := hres.cell 1 _ rfl
   have f1 := hres.frozen 1
   have d2 := hres.cell 2 _ rfl
   have f2 := hres.frozen 2
   have d3 := hres.cell 3 _ rfl
   have f3 := hres.frozen 3
   have HBL := Lib.hid hbl;clear hbl hat hres e hk2
   go_wp2
   refine bodyPost_ret (v := setOf (rngF l (h + 1))) (by simp [results,Tryz.results132,go_sem,d0,d1,d2,d3];rfl) rfl ⟨rfl,?_⟩
   exact (((HBL.out.setCell (by simp) _).setCell (by simp) _).setCell (by simp) _).setCell (by simp) _
theorem or_words (f g : Nat → Bool) (i : Nat) : bits BinOp.or IntKind.u64 ((wd f i : Nat) : Int) ((wd g i : Nat) : Int) = ((wd (fun x => f x || g x) i : Nat) : Int) := by
 rw [u64_or_nat _ _ (wd_lt _ _) (wd_lt _ _),wd_or]
set_option maxRecDepth 100000 in
set_option maxHeartbeats 3200000 in
theorem or_core (a b c d a' b' c' d' : Int) (w : World) :
  Calls Tryz.prog 35 #[setV a b c d,setV a' b' c' d'] w fun e w' => e = .returned (setV (bits BinOp.or IntKind.u64 a a') (bits BinOp.or IntKind.u64 b b') (bits BinOp.or IntKind.u64 c c') (bits BinOp.or IntKind.u64 d d')) ∧ Below w.heap.size w w' := by
 go_enter Tryz.func35,Tryz.ntmps35
 go_wp2
 refine wp_loop_rounds 5 ?_
 rw [rounds_succ]
 go_wp2
 go_region
 go_wp2
 rw [rounds_succ]
 go_wp2
 go_region
 go_wp2
 rw [rounds_succ]
 go_wp2
 go_region
 go_wp2
 rw [rounds_succ]
 go_wp2
 go_region
 go_wp2
 rw [rounds_succ]
 go_wp2
 go_returns
 exact ⟨rfl,by go_grown⟩
theorem or_any (f g : Nat → Bool) (w : World) :
  Calls Tryz.prog 35 #[setOf f,setOf g] w fun e w' => e = .returned (setOf (fun x => f x || g x)) ∧ Below w.heap.size w w' :=
 (or_core _ _ _ _ _ _ _ _ w).mono fun e w' ⟨he,hb⟩ => ⟨by rw [he];unfold setOf;rw [or_words,or_words,or_words,or_words],hb⟩
set_option maxRecDepth 100000 in
set_option maxHeartbeats 3200000 in
theorem not_core (a b c d : Int) (w : World) :
  Calls Tryz.prog 121 #[setV a b c d] w fun e w' => e = .returned (setV (bits BinOp.xor IntKind.u64 IntKind.u64.max a) (bits BinOp.xor IntKind.u64 IntKind.u64.max b) (bits BinOp.xor IntKind.u64 IntKind.u64.max c) (bits BinOp.xor IntKind.u64 IntKind.u64.max d)) ∧ Below w.heap.size w w' := by
 go_enter Tryz.func121,Tryz.ntmps121
 go_wp2
 refine wp_loop_rounds 5 ?_
 rw [rounds_succ]
 go_wp2
 rw [rounds_succ]
 go_wp2
 rw [rounds_succ]
 go_wp2
 rw [rounds_succ]
 go_wp2
 rw [rounds_succ]
 go_wp2
 go_returns
 exact ⟨rfl,by go_grown⟩
theorem not_words (f : Nat → Bool) (i : Nat) : bits BinOp.xor IntKind.u64 IntKind.u64.max ((wd f i : Nat) : Int) = ((wd (fun x => !f x) i : Nat) : Int) := by
 have e : IntKind.u64.max = ((18446744073709551615 : Nat) : Int) := by decide
 rw [e,u64_xor_nat _ _ (by decide) (wd_lt _ _)]
 congr 1
 have h : (18446744073709551615 : Nat) = 2 ^ 64 - 1 := by decide
 apply Nat.eq_of_testBit_eq
 intro j
 rw [Nat.testBit_xor,h,Nat.testBit_two_pow_sub_one]
 unfold wd
 rw [pk_test,pk_test]
 by_cases hj : j < 64 <;> simp [hj]
theorem not_any (f : Nat → Bool) (w : World) :
  Calls Tryz.prog 121 #[setOf f] w fun e w' => e = .returned (setOf (fun x => !f x)) ∧ Below w.heap.size w w' :=
 (not_core _ _ _ _ w).mono fun e w' ⟨he,hb⟩ => ⟨by rw [he];unfold setOf;rw [not_words,not_words,not_words,not_words],hb⟩
theorem infoU8 : (Tryz.prog.info? 5).map (fun i => (i.zero,i.size,i.bytes)) = some (some (.int .u8 0),1,1) := by kernel_rfl
def OwnB (w0 w : World) (v : Value) (xs : List Int) : Prop := w.ownsRow w0.heap.size 5 1 v xs.length (xs.map (Value.int .u8)) ∧ Below w0.heap.size w0 w
end Go.Proofs.YtgjcibhhffkemaaGreatDoor
namespace Go.Proofs.YtgjcibhhffkemaaGreatDoor
open Go.RowKit Bt
theorem add_put (f : Nat → Bool) (c : Int) (q : Nat) (h0 : 0 ≤ c) (h1 : c ≤ 255) (hq : c / 64 = q) (hf : f c.toNat = false) :
  (Value.int .u64 (IntKind.u64.wrap (((wd f q : Nat) : Int) + IntKind.u64.wrap (2 ^ (c % 64).toNat))) = .int .u64 ((wd f q + 2 ^ (c.toNat % 64) : Nat) : Int)) ∧
  cellsOf (fun y => f y || y == c.toNat) = (cellsOf f).set! q (.int .u64 ((wd f q + 2 ^ (c.toNat % 64) : Nat) : Int)) := by
 obtain ⟨n,rfl⟩ := Int.eq_ofNat_of_zero_le h0
 rw [Int.toNat_natCast] at hf
 have hn : n / 64 = q := by omega
 have hm : ((n : Int) % 64).toNat = n % 64 := by omega
 have ha := wd_add f n hf
 rw [hn] at ha
 have hp : 2 ^ (n % 64) < 18446744073709551616 := by
  calc 2 ^ (n % 64) ≤ 2 ^ 63 := Nat.pow_le_pow_right (by decide) (by omega)
   _ < 18446744073709551616 := by decide
 have hlt := wd_lt (fun y => f y || y == n) q
 rw [← ha] at hlt
 constructor
 ·rw [hm,IntKind.wrap_u64,IntKind.wrap_u64]
  have e : ((2 : Int) ^ (n % 64)) = ((2 ^ (n % 64) : Nat) : Int) := by simp
  rw [e,Int.toNat_natCast]
  generalize 2 ^ (n % 64) = p at hp hlt ⊢
  generalize wd f q = a at hlt ⊢
  congr 1;omega
 ·rw [Int.toNat_natCast,ha]
  have h2 := cells_put f n (by omega)
  rw [hn,wd_put_eq f n q hn] at h2
  exact h2
set_option maxRecDepth 100000 in
set_option maxHeartbeats 3200000 in
theorem refOf_any (v : Value) (xs : List Int) (w : World) (h : RdB w v xs) :
  Calls Tryz.prog 72 #[v] w fun e w' => e = .returned (setOf (memF xs)) ∧ Below w.heap.size w w' := by
 rcases h with ⟨rfl,a,c,rfl⟩ | ⟨b,off,cap,rfl,hcap,hmax,hc,hb⟩
 ·go_enter Tryz.func72,Tryz.ntmps72
  go_wp2
  refine wp_loop_rounds 1 ?_;rw [rounds_succ]
  go_wp2
  go_returns
  exact ⟨by rw [memF_nil];unfold setOf;simp [wd_none],by go_grown⟩
 ·have HC := Lib.hid hc;have HB := Lib.hid hb;clear hc hb
  go_enter Tryz.func72,Tryz.ntmps72
  go_wp2
  go_loopw [4] (fun i wr => ∃ k : Nat,k ≤ xs.length ∧ i = .int .i64 k ∧ AtG wr (w.heap.size + 1) 38 (cellsOf (memF (xs.take k))) ∧ AtG wr w.heap.size 38 (setC 0 0 0 0) ∧ Below w.heap.size w wr) (fun i _ => xs.length - (intOf i).toNat)
  case atStart => exact ⟨0,Nat.zero_le _,rfl,by rw [List.take_zero,memF_nil,cells_none];have := AtG.new (w.alloc (.cells (setC 0 0 0 0) 38)) 38 (setC 0 0 0 0);simpa using this,(AtG.new w _ _).alloc _,by go_grown⟩
  case round =>
   obtain ⟨k,hk,rfl,hat,hres,hbl⟩ := hrel
   have hl0 := hat.lt
   by_cases hlt : k < xs.length
   ·have hck := HC.out k hlt
    obtain ⟨hb0,hb1⟩ := HB.out k
    have hlb : b < w.heap.size := World.block_lt_of_cell? w _ hck
    have hck' : wr.cell? ⟨b,off + k,none⟩ = some (.int .u8 (xs.getD k 0)) := (hbl.cell (p := ⟨b,off + k,none⟩) hlb).trans hck
    have hts := take_snoc xs k hlt
    have HBL := Lib.hid hbl;have HAT := Lib.hid hat;have HRES := Lib.hid hres;clear hbl hat hres
    have hsn := memF_snoc (xs.take k) (xs.getD k 0) hb0
    rw [← hts] at hsn
    have HSN := Lib.hid hsn;clear hsn
    have HCB : Hid (w.cell? ⟨b,off + k,none⟩ = some (.int .u8 (xs.getD k 0))) := Lib.hid hck
    clear hts hck
    generalize xs.getD k 0 = c at *
    generalize memF (xs.take k) = f at *
    have hne : b ≠ w.heap.size + 1 := by omega
    have c0 : wr.cell? ⟨w.heap.size + 1,0,none⟩ = some (.int .u64 ((wd f 0 : Nat) : Int)) := HAT.out.cell 0 _ rfl
    have c1 : wr.cell? ⟨w.heap.size + 1,1,none⟩ = some (.int .u64 ((wd f 1 : Nat) : Int)) := HAT.out.cell 1 _ rfl
    have c2 : wr.cell? ⟨w.heap.size + 1,2,none⟩ = some (.int .u64 ((wd f 2 : Nat) : Int)) := HAT.out.cell 2 _ rfl
    have c3 : wr.cell? ⟨w.heap.size + 1,3,none⟩ = some (.int .u64 ((wd f 3 : Nat) : Int)) := HAT.out.cell 3 _ rfl
    go_wp2
    go_cut [5] (fun s wx => s = .bool (f c.toNat) ∧ Below wr.heap.size wr wx)
    case first =>
     go_region_with ((go_at_call 31;refine (refHas_any f c _ hb0 hb1).mono ?_;rintro e w1 ⟨rfl,hb1⟩;have HB1 := Lib.hid hb1;clear hb1))
     all_goals (go_wp2_with fail;go_meet;exact ⟨rfl,(Below.refl _ _).drew.trans HB1.out⟩)
    case rest =>
     obtain ⟨rfl,hbx⟩ := hcut
     have HBX := Lib.hid (HBL.out.trans (hbx.mono HBL.out.size));have HATX := Lib.hid (HAT.out.below hbx);have HRESX := Lib.hid (HRES.out.below hbx)
     have hcx : wc.cell? ⟨b,off + k,none⟩ = some (.int .u8 c) := (HBX.out.cell (p := ⟨b,off + k,none⟩) hlb).trans HCB.out
     clear hbx hck' c0 c1 c2 c3
     cases hf : f c.toNat
     ·have hq4 : c / 64 = 0 ∨ c / 64 = 1 ∨ c / 64 = 2 ∨ c / 64 = 3 := by omega
      have HF := Lib.hid hf;clear hf
      rcases hq4 with hq | hq | hq | hq
      ·as_aux_lemma =>
        have c0 : wc.cell? ⟨w.heap.size + 1,0,none⟩ = some (.int .u64 ((wd f 0 : Nat) : Int)) := HATX.out.cell 0 _ rfl
        have f0 := HATX.out.frozen 0
        have HE := Lib.hid (add_put f c 0 hb0 hb1 hq HF.out)
        generalize ((wd f 0 : Nat) : Int) = A at c0 HE
        go_wp2
        go_region
        go_wp2
        exact ⟨⟨k + 1,by omega,by go_num,by rw [HSN.out,HE.out.2,← HE.out.1];exact HATX.out.set 0 _,HRESX.out.far (by simp) _,(HBX.out.drew).setCell (by simp) _⟩,by simp [intOf];omega⟩
      ·as_aux_lemma =>
        have c0 : wc.cell? ⟨w.heap.size + 1,1,none⟩ = some (.int .u64 ((wd f 1 : Nat) : Int)) := HATX.out.cell 1 _ rfl
        have f0 := HATX.out.frozen 1
        have HE := Lib.hid (add_put f c 1 hb0 hb1 hq HF.out)
        generalize ((wd f 1 : Nat) : Int) = A at c0 HE
        go_wp2
        go_region
        go_wp2
        exact ⟨⟨k + 1,by omega,by go_num,by rw [HSN.out,HE.out.2,← HE.out.1];exact HATX.out.set 1 _,HRESX.out.far (by simp) _,(HBX.out.drew).setCell (by simp) _⟩,by simp [intOf];omega⟩
      ·as_aux_lemma =>
        have c0 : wc.cell? ⟨w.heap.size + 1,2,none⟩ = some (.int .u64 ((wd f 2 : Nat) : Int)) := HATX.out.cell 2 _ rfl
        have f0 := HATX.out.frozen 2
        have HE := Lib.hid (add_put f c 2 hb0 hb1 hq HF.out)
        generalize ((wd f 2 : Nat) : Int) = A at c0 HE
        go_wp2
        go_region
        go_wp2
        exact ⟨⟨k + 1,by omega,by go_num,by rw [HSN.out,HE.out.2,← HE.out.1];exact HATX.out.set 2 _,HRESX.out.far (by simp) _,(HBX.out.drew).setCell (by simp) _⟩,by simp [intOf];omega⟩
      ·as_aux_lemma =>
        have c0 : wc.cell? ⟨w.heap.size + 1,3,none⟩ = some (.int .u64 ((wd f 3 : Nat) : Int)) := HATX.out.cell 3 _ rfl
        have f0 := HATX.out.frozen 3
        have HE := Lib.hid (add_put f c 3 hb0 hb1 hq HF.out)
        generalize ((wd f 3 : Nat) : Int) = A at c0 HE
        go_wp2
        go_region
        go_wp2
        exact ⟨⟨k + 1,by omega,by go_num,by rw [HSN.out,HE.out.2,← HE.out.1];exact HATX.out.set 3 _,HRESX.out.far (by simp) _,(HBX.out.drew).setCell (by simp) _⟩,by simp [intOf];omega⟩
     ·have HF := Lib.hid hf;clear hf
      go_wp2
      exact ⟨⟨k + 1,by omega,by go_num,by rw [HSN.out,cellsOf_ext (g := f) (fun x _ => by rw [Bool.eq_iff_iff];simp;intro e;rw [e];exact HF.out)];exact HATX.out,HRESX.out,HBX.out⟩,by simp [intOf];omega⟩
   ·obtain rfl : k = xs.length := by omega
    rw [List.take_length] at hat
    have c0 : wr.cell? ⟨w.heap.size + 1,0,none⟩ = some (.int .u64 ((wd (memF xs) 0 : Nat) : Int)) := hat.cell 0 _ rfl
    have c1 : wr.cell? ⟨w.heap.size + 1,1,none⟩ = some (.int .u64 ((wd (memF xs) 1 : Nat) : Int)) := hat.cell 1 _ rfl
    have c2 : wr.cell? ⟨w.heap.size + 1,2,none⟩ = some (.int .u64 ((wd (memF xs) 2 : Nat) : Int)) := hat.cell 2 _ rfl
    have c3 : wr.cell? ⟨w.heap.size + 1,3,none⟩ = some (.int .u64 ((wd (memF xs) 3 : Nat) : Int)) := hat.cell 3 _ rfl
    have d0 := hres.cell 0 _ rfl
    have f0 := hres.frozen 0
    have d1 := hres.cell 1 _ rfl
    have f1 := hres.frozen 1
    have d2 := hres.cell 2 _ rfl
    have f2 := hres.frozen 2
    have d3 := hres.cell 3 _ rfl
    have f3 := hres.frozen 3
    have HBL := Lib.hid hbl;clear hbl hat hres HC HB
    go_wp2
    refine bodyPost_ret (v := setOf (memF xs)) (by simp [results,Tryz.results72,go_sem,d0,d1,d2,d3];rfl) rfl ⟨rfl,?_⟩
    exact (((HBL.out.setCell (by simp) _).setCell (by simp) _).setCell (by simp) _).setCell (by simp) _
theorem rdB_own {w : World} {base n : Nat} {e : TypeId} {v : Value} {xs : List Int} (h : w.ownsRow base e 1 v n (xs.map (Value.int .u8))) (hm : xs.length ≤ 140737488355328) (hb : ∀ x ∈ xs,0 ≤ x ∧ x ≤ 255) : RdB w v xs := by
 rcases own_cells h with ⟨rfl,h0⟩ | ⟨g,cap,rfl,hc,hcm,_,_,hcell⟩
 ·exact .inl ⟨by simpa using h0,_,_,rfl⟩
 ·rw [List.length_map] at hc
  refine .inr ⟨g,0,cap,by rw [List.length_map],hc,hm,fun j hj => ?_,fun j => ?_⟩
  ·rw [Nat.zero_add]
   exact hcell j _ (by simp [List.getElem?_eq_getElem hj,List.getD_eq_getElem?_getD])
  ·by_cases hj : j < xs.length
   ·have := hb xs[j] (List.getElem_mem hj)
    simpa [List.getD_eq_getElem?_getD,List.getElem?_eq_getElem hj] using this
   ·simp [List.getD_eq_getElem?_getD,List.getElem?_eq_none (Nat.not_lt.1 hj)]
theorem lst_bd255 (f : Nat → Bool) : ∀ x ∈ lst f 256,0 ≤ x ∧ x ≤ 255 := fun x hx => by have := lst_bd f 256 x hx;omega
theorem memF_lst (f : Nat → Bool) (n y : Nat) (hy : y < n) : memF (lst f n) y = f y := by
 unfold memF;rw [Bool.eq_iff_iff];simp only [List.contains_iff_mem]
 rw [lst_mem];simp [hy]
set_option maxRecDepth 100000 in
set_option maxHeartbeats 1600000 in
theorem refBytes_any (f : Nat → Bool) (w : World) :
  Calls Tryz.prog 73 #[setOf f] w fun e w' => ∃ v,e = .returned v ∧ OwnB w w' v (lst f 256) := by
 unfold setOf
 go_enter Tryz.func73,Tryz.ntmps73
 go_wp2
 go_loopw [3,4] (fun o i wr => ∃ k : Nat,k ≤ 256 ∧ i = .int .i64 k ∧ AtG wr w.heap.size 38 (cellsOf f) ∧ wr.ownsRow (w.heap.size + 1) 5 1 o (lst f k).length ((lst f k).map (Value.int .u8)) ∧ Below w.heap.size w wr) (fun _ i _ => 256 - (intOf i).toNat)
 case atStart => exact ⟨0,by omega,rfl,AtG.new w _ _,own_nil _ _ _ _,by go_grown⟩
 case round =>
  obtain ⟨k,hk,rfl,hat,hown,hbl⟩ := hrel
  have hsz := hbl.size
  by_cases hlt : k < 256
  ·have c0 : wr.cell? ⟨w.heap.size,0,none⟩ = some (.int .u64 ((wd f 0 : Nat) : Int)) := hat.cell 0 _ rfl
   have c1 : wr.cell? ⟨w.heap.size,1,none⟩ = some (.int .u64 ((wd f 1 : Nat) : Int)) := hat.cell 1 _ rfl
   have c2 : wr.cell? ⟨w.heap.size,2,none⟩ = some (.int .u64 ((wd f 2 : Nat) : Int)) := hat.cell 2 _ rfl
   have c3 : wr.cell? ⟨w.heap.size,3,none⟩ = some (.int .u64 ((wd f 3 : Nat) : Int)) := hat.cell 3 _ rfl
   have hk1 : (k : Int) ≤ 255 := by omega
   have HAT := Lib.hid hat;have HOW := Lib.hid hown;have HBL := Lib.hid hbl
   have hcl := lst_len f k
   have hcn := cnt_le f k
   have HLL : Hid ((lst f k).length ≤ 256) := Lib.hid (by omega)
   clear hat hown hbl hcl hcn
   go_wp2_with fail
   refine (refHas_any f k _ (by omega) hk1).mono ?_;rintro e w1 ⟨rfl,hb1⟩
   rw [Int.toNat_natCast]
   have HAT1 := Lib.hid (HAT.out.below hb1);have HOW1 := Lib.hid (own_below HOW.out hb1);have HBL1 := Lib.hid (HBL.out.trans (hb1.mono HBL.out.size))
   have hs1 := HBL1.out.size
   have hl1 : w.heap.size + 1 ≤ w1.heap.size := HAT1.out.lt
   clear hb1 c0 c1 c2 c3
   cases hf : f k
   ·have HS : Hid (lst f (k + 1) = lst f k) := Lib.hid (by rw [lst_succ,hf];simp)
    clear hf
    go_wp2
    exact ⟨⟨k + 1,by omega,by go_num,HAT1.out,by rw [HS.out];exact HOW1.out,HBL1.out⟩,by simp [intOf];omega⟩
   ·have HS : Hid (lst f (k + 1) = lst f k ++ [(k : Int)]) := Lib.hid (by rw [lst_succ,hf];simp)
    clear hf
    go_wp2_with (at_builtin;go_must (refine app1 (w0 := w) (w.heap.size + 1) w.heap.size (by omega) rfl _ _ 53 5 (.int .u8 0) 1 rfl Tryz.underlying53 infoU8 rfl (by decide) _ _ ((lst f k).map (Value.int .u8)) (.int .u8 k) HOW1.out rfl rfl rfl HBL1.out hl1 (by have := HLL.out;omega) ?_);intro v1 w2 hown2 hb2 hg2;have HAT2 := Lib.hid (HAT1.out.grown hg2 (fun e => by have := own_base HOW1.out _ e;omega));clear hg2)
    exact ⟨⟨k + 1,by omega,by go_num,HAT2.out,by rw [HS.out];simpa using hown2,hb2⟩,by simp [intOf];omega⟩
  ·obtain rfl : k = 256 := by omega
   have HOW := Lib.hid hown;have HBL := Lib.hid hbl
   clear hat hown hbl
   go_wp2
   go_returns
   exact ⟨_,rfl,own_lower HOW.out (by omega),HBL.out⟩
end Go.Proofs.YtgjcibhhffkemaaGreatDoor
namespace Go.Proofs.YtgjcibhhffkemaaGreatDoor
open Go.RowKit Bt
set_option maxRecDepth 100000 in
set_option maxHeartbeats 1600000 in
theorem refNot_any (f : Nat → Bool) (w : World) :
  Calls Tryz.prog 110 #[setOf f] w fun e w' => e = .returned (setOf (fun x => !f x)) ∧ Below w.heap.size w w' := by
 unfold setOf
 go_enter Tryz.func110,Tryz.ntmps110
 go_wp2
 go_loopw [3,4] (fun o i wr => ∃ k : Nat,k ≤ 256 ∧ i = .int .i64 k ∧ AtG wr w.heap.size 38 (cellsOf f) ∧ AtG wr (w.heap.size + 1) 38 (setC 0 0 0 0) ∧ wr.ownsRow (w.heap.size + 2) 5 1 o (lst (fun x => !f x) k).length ((lst (fun x => !f x) k).map (Value.int .u8)) ∧ Below w.heap.size w wr) (fun _ i _ => 256 - (intOf i).toNat)
 case atStart => exact ⟨0,by omega,rfl,(AtG.new w _ _).alloc _,by have h' := AtG.new (w.alloc (.cells (cellsOf f) 38)) 38 (setC 0 0 0 0);rwa [show (w.alloc (.cells (cellsOf f) 38)).heap.size = w.heap.size + 1 from by simp] at h',own_nil _ _ _ _,by go_grown⟩
 case round =>
  obtain ⟨k,hk,rfl,hat,hres,hown,hbl⟩ := hrel
  have hsz := hbl.size
  by_cases hlt : k < 256
  ·have c0 : wr.cell? ⟨w.heap.size,0,none⟩ = some (.int .u64 ((wd f 0 : Nat) : Int)) := hat.cell 0 _ rfl
   have c1 : wr.cell? ⟨w.heap.size,1,none⟩ = some (.int .u64 ((wd f 1 : Nat) : Int)) := hat.cell 1 _ rfl
   have c2 : wr.cell? ⟨w.heap.size,2,none⟩ = some (.int .u64 ((wd f 2 : Nat) : Int)) := hat.cell 2 _ rfl
   have c3 : wr.cell? ⟨w.heap.size,3,none⟩ = some (.int .u64 ((wd f 3 : Nat) : Int)) := hat.cell 3 _ rfl
   have hk1 : (k : Int) ≤ 255 := by omega
   have HAT := Lib.hid hat;have HRS := Lib.hid hres;have HOW := Lib.hid hown;have HBL := Lib.hid hbl
   have hcl := lst_len (fun x => !f x) k
   have hcn := cnt_le (fun x => !f x) k
   have HLL : Hid ((lst (fun x => !f x) k).length ≤ 256) := Lib.hid (by omega)
   clear hat hres hown hbl hcl hcn
   go_wp2_with fail
   refine (refHas_any f k _ (by omega) hk1).mono ?_;rintro e w1 ⟨rfl,hb1⟩
   rw [Int.toNat_natCast]
   have HAT1 := Lib.hid (HAT.out.below hb1);have HRS1 := Lib.hid (HRS.out.below hb1);have HOW1 := Lib.hid (own_below HOW.out hb1);have HBL1 := Lib.hid (HBL.out.trans (hb1.mono HBL.out.size))
   have hs1 := HBL1.out.size
   have hl1 : w.heap.size + 2 ≤ w1.heap.size := HRS1.out.lt
   clear hb1 c0 c1 c2 c3
   cases hf : f k
   rotate_left
   ·have HS : Hid (lst (fun x => !f x) (k + 1) = lst (fun x => !f x) k) := Lib.hid (by rw [lst_succ];simp [hf])
    clear hf
    go_wp2
    exact ⟨⟨k + 1,by omega,by go_num,HAT1.out,HRS1.out,by rw [HS.out];exact HOW1.out,HBL1.out⟩,by simp [intOf];omega⟩
   ·have HS : Hid (lst (fun x => !f x) (k + 1) = lst (fun x => !f x) k ++ [(k : Int)]) := Lib.hid (by rw [lst_succ];simp [hf])
    clear hf
    go_wp2_with (at_builtin;go_must (refine app1 (w0 := w) (w.heap.size + 2) w.heap.size (by omega) rfl _ _ 53 5 (.int .u8 0) 1 rfl Tryz.underlying53 infoU8 rfl (by decide) _ _ ((lst (fun x => !f x) k).map (Value.int .u8)) (.int .u8 k) HOW1.out rfl rfl rfl HBL1.out hl1 (by have := HLL.out;omega) ?_);intro v1 w2 hown2 hb2 hg2;have HAT2 := Lib.hid (HAT1.out.grown hg2 (fun e => by have := own_base HOW1.out _ e;omega));have HRS2 := Lib.hid (HRS1.out.grown hg2 (fun e => by have := own_base HOW1.out _ e;omega));clear hg2)
    exact ⟨⟨k + 1,by omega,by go_num,HAT2.out,HRS2.out,by rw [HS.out];simpa using hown2,hb2⟩,by simp [intOf];omega⟩
  ·obtain rfl : k = 256 := by omega
   have HBL := Lib.hid hbl
   have hr := rdB_own hown (by rw [lst_len];have := cnt_le (fun x => !f x) 256;omega) (lst_bd255 _)
   have HR := Lib.hid hr;have HRS := Lib.hid hres
   clear hat hown hbl hr hres
   go_wp2_with fail
   refine (refOf_any _ _ _ HR.out).mono ?_;rintro e w1 ⟨rfl,hb1⟩
   have hrs := HRS.out.below hb1
   have d0 := hrs.cell 0 _ rfl
   have d1 := hrs.cell 1 _ rfl
   have d2 := hrs.cell 2 _ rfl
   have d3 := hrs.cell 3 _ rfl
   have f0 := hrs.frozen 0
   have f1 := hrs.frozen 1
   have f2 := hrs.frozen 2
   have f3 := hrs.frozen 3
   have HB1 := Lib.hid (HBL.out.trans (hb1.mono HBL.out.size))
   rw [setOf_ext (g := fun x => !f x) (fun x hx => memF_lst _ 256 x hx)]
   clear hb1 hrs
   unfold setOf
   go_wp2
   refine bodyPost_ret (v := setOf (fun x => !f x)) (by simp [results,Tryz.results110,go_sem,d0,d1,d2,d3];rfl) rfl ⟨rfl,?_⟩
   exact (((HB1.out.setCell (by simp) _).setCell (by simp) _).setCell (by simp) _).setCell (by simp) _
def fromF (lo : Nat) (y : Nat) : Bool := decide (lo ≤ y)
theorem lst_from (lo : Nat) : lst (fromF lo) lo = [] := by
 unfold lst
 have : (List.range lo).filter (fromF lo) = [] := by
  rw [List.filter_eq_nil_iff];intro x hx;unfold fromF;simp at hx;simp;omega
 rw [this];rfl
set_option maxRecDepth 100000 in
set_option maxHeartbeats 1600000 in
theorem refRange_any (lo hi : Int) (w : World) (h0 : 0 ≤ lo) (h1 : lo ≤ 255) (h2 : 0 ≤ hi) (h3 : hi ≤ 255) :
  Calls Tryz.prog 135 #[.int .u8 lo,.int .u8 hi] w fun e w' => e = .returned (setOf (rngF lo.toNat (hi.toNat + 1))) ∧ Below w.heap.size w w' := by
 obtain ⟨l,rfl⟩ := Int.eq_ofNat_of_zero_le h0
 obtain ⟨h,rfl⟩ := Int.eq_ofNat_of_zero_le h2
 rw [Int.toNat_natCast,Int.toNat_natCast]
 go_enter Tryz.func135,Tryz.ntmps135
 go_wp2
 go_loopw [5,6] (fun o i wr => ∃ k : Nat,l ≤ k ∧ (k ≤ l ∨ k ≤ h + 1) ∧ i = .int .i64 k ∧ AtG wr w.heap.size 38 (setC 0 0 0 0) ∧ wr.ownsRow (w.heap.size + 1) 5 1 o (lst (fromF l) k).length ((lst (fromF l) k).map (Value.int .u8)) ∧ Below w.heap.size w wr) (fun _ i _ => 300 - (intOf i).toNat)
 case atStart => exact ⟨l,Nat.le_refl _,.inl (Nat.le_refl _),rfl,AtG.new w _ _,by rw [lst_from];exact own_nil _ _ _ _,by go_grown⟩
 case round =>
  obtain ⟨k,hk,hk2,rfl,hat,hown,hbl⟩ := hrel
  have hl0 := hat.lt
  have hcl := lst_len (fromF l) k
  have hcn := cnt_le (fromF l) k
  by_cases hlt : k ≤ h
  ·have HLL : Hid ((lst (fromF l) k).length ≤ 256) := Lib.hid (by omega)
   have HAT := Lib.hid hat;have HOW := Lib.hid hown;have HBL := Lib.hid hbl
   have hf : fromF l k = true := by unfold fromF;simp [hk]
   have HS : Hid (lst (fromF l) (k + 1) = lst (fromF l) k ++ [(k : Int)]) := Lib.hid (by rw [lst_succ,hf];simp)
   have hb1 : (k : Int) ≤ 255 := by omega
   have hl1 : w.heap.size + 1 ≤ wr.heap.size := hl0
   clear hat hown hbl hcl hcn hf hk2
   go_wp2_with (at_builtin;go_must (refine app1 (w0 := w) (w.heap.size + 1) w.heap.size (by omega) rfl _ _ 53 5 (.int .u8 0) 1 rfl Tryz.underlying53 infoU8 rfl (by decide) _ _ ((lst (fromF l) k).map (Value.int .u8)) (.int .u8 k) HOW.out rfl rfl rfl HBL.out hl1 (by have := HLL.out;omega) ?_);intro v1 w2 hown2 hb2 hg2;have HAT2 := Lib.hid (HAT.out.grown hg2 (fun e => by have := own_base HOW.out _ e;omega));clear hg2)
   exact ⟨⟨k + 1,by omega,by omega,by go_num,HAT2.out,by rw [HS.out];simpa using hown2,hb2⟩,by simp [intOf];omega⟩
  ·have HBL := Lib.hid hbl
   have hr := rdB_own hown (by omega) (fun x hx => by have := lst_bd _ _ x hx;omega)
   have HR := Lib.hid hr;have HRS := Lib.hid hat
   have HEX : Hid (setOf (memF (lst (fromF l) k)) = setOf (rngF l (h + 1))) := Lib.hid (setOf_ext fun x hx => by
    by_cases hxk : x < k
    ·rw [memF_lst _ _ _ hxk];unfold fromF rngF;rw [Bool.eq_iff_iff];simp;omega
    ·have : memF (lst (fromF l) k) x = false := by
      unfold memF;rw [Bool.eq_false_iff];simp only [ne_eq,List.contains_iff_mem,lst_mem];omega
     rw [this];unfold rngF;symm;rw [Bool.eq_false_iff];simp;omega)
   clear hat hown hbl hr hk2 hcl hcn
   go_wp2_with fail
   refine (refOf_any _ _ _ HR.out).mono ?_;rintro e w1 ⟨rfl,hb1⟩
   have hrs := HRS.out.below hb1
   have d0 := hrs.cell 0 _ rfl
   have d1 := hrs.cell 1 _ rfl
   have d2 := hrs.cell 2 _ rfl
   have d3 := hrs.cell 3 _ rfl
   have f0 := hrs.frozen 0
   have f1 := hrs.frozen 1
   have f2 := hrs.frozen 2
   have f3 := hrs.frozen 3
   have HB1 := Lib.hid (HBL.out.trans (hb1.mono HBL.out.size))
   rw [HEX.out]
   clear hb1 hrs
   unfold setOf
   go_wp2
   refine bodyPost_ret (v := setOf (rngF l (h + 1))) (by simp [results,Tryz.results135,go_sem,d0,d1,d2,d3];rfl) rfl ⟨rfl,?_⟩
   exact (((HB1.out.setCell (by simp) _).setCell (by simp) _).setCell (by simp) _).setCell (by simp) _
end Go.Proofs.YtgjcibhhffkemaaGreatDoor
namespace Go.Proofs.YtgjcibhhffkemaaGreatDoor
open Go.RowKit Bt
theorem memF_app (f g : Nat → Bool) (x : Nat) (hx : x < 256) : memF (lst f 256 ++ lst g 256) x = (f x || g x) := by
 have h1 := memF_lst f 256 x hx
 have h2 := memF_lst g 256 x hx
 unfold memF at *
 rw [List.contains_append,h1,h2]
theorem of_own (w : World) {base : Nat} (v : Value) (f g : Nat → Bool) (n : Nat) (h : w.ownsRow base 5 1 v n ((lst f 256).map (Value.int .u8) ++ (lst g 256).map (Value.int .u8))) :
  Calls Tryz.prog 72 #[v] w fun e w' => e = .returned (setOf (fun x => f x || g x)) ∧ Below w.heap.size w w' := by
 rw [← List.map_append] at h
 have hr := rdB_own h (by rw [List.length_append,lst_len,lst_len];have := cnt_le f 256;have := cnt_le g 256;omega) (fun x hx => by
  rcases List.mem_append.1 hx with hx | hx
  ·exact lst_bd255 f x hx
  ·exact lst_bd255 g x hx)
 refine (refOf_any _ _ _ hr).mono fun e w' ⟨he,hb⟩ => ⟨?_,hb⟩
 rw [he,setOf_ext (g := fun x => f x || g x) (fun x hx => memF_app f g x hx)]
theorem keep8 {f g : Nat → Bool} {b : Nat} {W w1 : World} (h : W.cell? ⟨b,0,none⟩ = some (.int .u64 ((wd f 0 : Nat) : Int)) ∧ W.cell? ⟨b,1,none⟩ = some (.int .u64 ((wd f 1 : Nat) : Int)) ∧ W.cell? ⟨b,2,none⟩ = some (.int .u64 ((wd f 2 : Nat) : Int)) ∧ W.cell? ⟨b,3,none⟩ = some (.int .u64 ((wd f 3 : Nat) : Int)) ∧ W.cell? ⟨b + 1,0,none⟩ = some (.int .u64 ((wd g 0 : Nat) : Int)) ∧ W.cell? ⟨b + 1,1,none⟩ = some (.int .u64 ((wd g 1 : Nat) : Int)) ∧ W.cell? ⟨b + 1,2,none⟩ = some (.int .u64 ((wd g 2 : Nat) : Int)) ∧ W.cell? ⟨b + 1,3,none⟩ = some (.int .u64 ((wd g 3 : Nat) : Int))) (hb : Below W.heap.size W w1) : w1.cell? ⟨b,0,none⟩ = some (.int .u64 ((wd f 0 : Nat) : Int)) ∧ w1.cell? ⟨b,1,none⟩ = some (.int .u64 ((wd f 1 : Nat) : Int)) ∧ w1.cell? ⟨b,2,none⟩ = some (.int .u64 ((wd f 2 : Nat) : Int)) ∧ w1.cell? ⟨b,3,none⟩ = some (.int .u64 ((wd f 3 : Nat) : Int)) ∧ w1.cell? ⟨b + 1,0,none⟩ = some (.int .u64 ((wd g 0 : Nat) : Int)) ∧ w1.cell? ⟨b + 1,1,none⟩ = some (.int .u64 ((wd g 1 : Nat) : Int)) ∧ w1.cell? ⟨b + 1,2,none⟩ = some (.int .u64 ((wd g 2 : Nat) : Int)) ∧ w1.cell? ⟨b + 1,3,none⟩ = some (.int .u64 ((wd g 3 : Nat) : Int)) := by
 have k : ∀ (p : Addr) (v : Value),W.cell? p = some v → w1.cell? p = some v := fun p v hp => (hb.cell (World.block_lt_of_cell? W _ hp)).trans hp
 obtain ⟨h0,h1,h2,h3,h4,h5,h6,h7⟩ := h
 exact ⟨k _ _ h0,k _ _ h1,k _ _ h2,k _ _ h3,k _ _ h4,k _ _ h5,k _ _ h6,k _ _ h7⟩
theorem keep8g {f g : Nat → Bool} {b : Nat} {W w1 : World} {r : Option Nat} (h : W.cell? ⟨b,0,none⟩ = some (.int .u64 ((wd f 0 : Nat) : Int)) ∧ W.cell? ⟨b,1,none⟩ = some (.int .u64 ((wd f 1 : Nat) : Int)) ∧ W.cell? ⟨b,2,none⟩ = some (.int .u64 ((wd f 2 : Nat) : Int)) ∧ W.cell? ⟨b,3,none⟩ = some (.int .u64 ((wd f 3 : Nat) : Int)) ∧ W.cell? ⟨b + 1,0,none⟩ = some (.int .u64 ((wd g 0 : Nat) : Int)) ∧ W.cell? ⟨b + 1,1,none⟩ = some (.int .u64 ((wd g 1 : Nat) : Int)) ∧ W.cell? ⟨b + 1,2,none⟩ = some (.int .u64 ((wd g 2 : Nat) : Int)) ∧ W.cell? ⟨b + 1,3,none⟩ = some (.int .u64 ((wd g 3 : Nat) : Int))) (hg : W.grownBy w1 r) (hr : ∀ k,r = some k → b + 2 ≤ k) : w1.cell? ⟨b,0,none⟩ = some (.int .u64 ((wd f 0 : Nat) : Int)) ∧ w1.cell? ⟨b,1,none⟩ = some (.int .u64 ((wd f 1 : Nat) : Int)) ∧ w1.cell? ⟨b,2,none⟩ = some (.int .u64 ((wd f 2 : Nat) : Int)) ∧ w1.cell? ⟨b,3,none⟩ = some (.int .u64 ((wd f 3 : Nat) : Int)) ∧ w1.cell? ⟨b + 1,0,none⟩ = some (.int .u64 ((wd g 0 : Nat) : Int)) ∧ w1.cell? ⟨b + 1,1,none⟩ = some (.int .u64 ((wd g 1 : Nat) : Int)) ∧ w1.cell? ⟨b + 1,2,none⟩ = some (.int .u64 ((wd g 2 : Nat) : Int)) ∧ w1.cell? ⟨b + 1,3,none⟩ = some (.int .u64 ((wd g 3 : Nat) : Int)) := by
 have k : ∀ (p : Addr) (v : Value),p.block < b + 2 → W.cell? p = some v → w1.cell? p = some v := fun p v hl hp => (World.cell?_of_block (w := W) (hg.block p.block (World.block_lt_of_cell? W _ hp) (fun e => by have := hr _ e.symm;omega))).trans hp
 obtain ⟨h0,h1,h2,h3,h4,h5,h6,h7⟩ := h
 exact ⟨k _ _ (by simp) h0,k _ _ (by simp) h1,k _ _ (by simp) h2,k _ _ (by simp) h3,k _ _ (by simp) h4,k _ _ (by simp) h5,k _ _ (by simp) h6,k _ _ (by simp) h7⟩
set_option maxRecDepth 100000 in
set_option maxHeartbeats 4000000 in
theorem refOr_any (f g : Nat → Bool) (w : World) :
  Calls Tryz.prog 51 #[setOf f,setOf g] w fun e w' => e = .returned (setOf (fun x => f x || g x)) ∧ Below w.heap.size w w' := by
 have hsh : ∀ W0 : World,W0 = ((w.alloc (.cells (cellsOf f) 38)).alloc (.cells (cellsOf g) 38)).alloc (.cells (setC 0 0 0 0) 38) →
   AtG W0 w.heap.size 38 (cellsOf f) ∧ AtG W0 (w.heap.size + 1) 38 (cellsOf g) ∧ AtG W0 (w.heap.size + 1 + 1) 38 (setC 0 0 0 0) ∧ Below w.heap.size w W0 ∧ W0.heap.size = w.heap.size + 3 := by
  rintro W0 rfl
  have h1 := AtG.new (w.alloc (.cells (cellsOf f) 38)) 38 (cellsOf g)
  have h2 := AtG.new ((w.alloc (.cells (cellsOf f) 38)).alloc (.cells (cellsOf g) 38)) 38 (setC 0 0 0 0)
  rw [show (w.alloc (.cells (cellsOf f) 38)).heap.size = w.heap.size + 1 from by simp] at h1
  rw [show ((w.alloc (.cells (cellsOf f) 38)).alloc (.cells (cellsOf g) 38)).heap.size = w.heap.size + 1 + 1 from by simp] at h2
  exact ⟨((AtG.new w _ _).alloc _).alloc _,h1.alloc _,h2,by go_grown,by simp⟩
 unfold setOf
 go_enter Tryz.func51,Tryz.ntmps51
 go_wp2
 generalize hW : ((w.alloc (.cells #[.int .u64 ((wd f 0 : Nat) : Int),.int .u64 ((wd f 1 : Nat) : Int),.int .u64 ((wd f 2 : Nat) : Int),.int .u64 ((wd f 3 : Nat) : Int)] 38)).alloc (.cells #[.int .u64 ((wd g 0 : Nat) : Int),.int .u64 ((wd g 1 : Nat) : Int),.int .u64 ((wd g 2 : Nat) : Int),.int .u64 ((wd g 3 : Nat) : Int)] 38)).alloc (.cells #[.int .u64 0,.int .u64 0,.int .u64 0,.int .u64 0] 38) = W0
 obtain ⟨A0,A1,A2,hB0,hs0⟩ := hsh W0 hW.symm
 clear hW hsh
 have a0 : W0.cell? ⟨w.heap.size,0,none⟩ = some (.int .u64 ((wd f 0 : Nat) : Int)) := A0.cell 0 _ rfl
 have a1 : W0.cell? ⟨w.heap.size,1,none⟩ = some (.int .u64 ((wd f 1 : Nat) : Int)) := A0.cell 1 _ rfl
 have a2 : W0.cell? ⟨w.heap.size,2,none⟩ = some (.int .u64 ((wd f 2 : Nat) : Int)) := A0.cell 2 _ rfl
 have a3 : W0.cell? ⟨w.heap.size,3,none⟩ = some (.int .u64 ((wd f 3 : Nat) : Int)) := A0.cell 3 _ rfl
 have b0 : W0.cell? ⟨w.heap.size + 1,0,none⟩ = some (.int .u64 ((wd g 0 : Nat) : Int)) := A1.cell 0 _ rfl
 have b1 : W0.cell? ⟨w.heap.size + 1,1,none⟩ = some (.int .u64 ((wd g 1 : Nat) : Int)) := A1.cell 1 _ rfl
 have b2 : W0.cell? ⟨w.heap.size + 1,2,none⟩ = some (.int .u64 ((wd g 2 : Nat) : Int)) := A1.cell 2 _ rfl
 have b3 : W0.cell? ⟨w.heap.size + 1,3,none⟩ = some (.int .u64 ((wd g 3 : Nat) : Int)) := A1.cell 3 _ rfl
 have HA1 := Lib.hid A1;have HA2 := Lib.hid A2;have HB0 := Lib.hid hB0
 have hs0' : w.heap.size + 3 ≤ W0.heap.size := by omega
 clear A0 A1 A2 hB0 hs0
 have hne : ¬ (w.heap.size + 1 + 1 = w.heap.size) := by omega
 have hne' : ¬ (w.heap.size = w.heap.size + 1 + 1) := by omega
 go_region_held3 (fun w' => w'.cell? ⟨w.heap.size,0,none⟩ = some (.int .u64 ((wd f 0 : Nat) : Int)) ∧ w'.cell? ⟨w.heap.size,1,none⟩ = some (.int .u64 ((wd f 1 : Nat) : Int)) ∧ w'.cell? ⟨w.heap.size,2,none⟩ = some (.int .u64 ((wd f 2 : Nat) : Int)) ∧ w'.cell? ⟨w.heap.size,3,none⟩ = some (.int .u64 ((wd f 3 : Nat) : Int)) ∧ w'.cell? ⟨w.heap.size + 1,0,none⟩ = some (.int .u64 ((wd g 0 : Nat) : Int)) ∧ w'.cell? ⟨w.heap.size + 1,1,none⟩ = some (.int .u64 ((wd g 1 : Nat) : Int)) ∧ w'.cell? ⟨w.heap.size + 1,2,none⟩ = some (.int .u64 ((wd g 2 : Nat) : Int)) ∧ w'.cell? ⟨w.heap.size + 1,3,none⟩ = some (.int .u64 ((wd g 3 : Nat) : Int))) (go_keep) (first
  | (go_at_call_of 73 (Value.int .u64 ((wd f 0 : Nat) : Int));refine (refBytes_any f _).mono ?_;rintro e w1 ⟨v1,rfl,hO1,hb1⟩;have HO1 := Lib.hid hO1;have hb1' : Below W0.heap.size W0 w1 := (Below.refl _ _).drew.trans hb1;have K := keep8 ⟨a0,a1,a2,a3,b0,b1,b2,b3⟩ hb1';have HK1 := Lib.hid K;obtain ⟨p0,p1,p2,p3,p4,p5,p6,p7⟩ := K;have HB1 := Lib.hid hb1';clear hb1' hO1)
  | (go_at_call_of 73 (Value.int .u64 ((wd g 0 : Nat) : Int));refine (refBytes_any g _).mono ?_;rintro e w2 ⟨v2,rfl,hO2,hb2⟩;have HO2 := Lib.hid hO2;have HB2 := Lib.hid hb2;have K := keep8 HK1.out hb2;have HK2 := Lib.hid K;obtain ⟨q0,q1,q2,q3,q4,q5,q6,q7⟩ := K;clear hO2)
  | (go_at_call 72;refine (of_own _ _ f g _ HO3.out).mono ?_;rintro e w4 ⟨rfl,hb4⟩;have hA4 := ((HA2.out.below HB1.out).below HB2.out |>.grown HG3.out (fun e => by have := own_base HO1.out _ e;simp at this;omega)).below hb4;have r0 := hA4.cell 0 _ rfl;have r1 := hA4.cell 1 _ rfl;have r2 := hA4.cell 2 _ rfl;have r3 := hA4.cell 3 _ rfl;have f0 := hA4.frozen 0;have f1 := hA4.frozen 1;have f2 := hA4.frozen 2;have f3 := hA4.frozen 3;have HB4 := Lib.hid hb4;have K := keep8 HK3.out hb4;obtain ⟨t0,t1,t2,t3,t4,t5,t6,t7⟩ := K;clear hA4;unfold setOf)
  | (refine step_appRow rfl (.tmp 6) (.tmp 8) 53 rfl W0.heap.size 5 (.int .u8 0) 1 1 Tryz.underlying53 infoU8 rfl (by decide) v1 v2 _ _ _ _ (own_below HO1.out HB2.out) (src_own HO2.out) rfl rfl (by simp) (fun y hy => by simp only [List.mem_map] at hy;obtain ⟨x,_,rfl⟩ := hy;rfl) (by rw [lst_len,lst_len];have := cnt_le f 256;have := cnt_le g 256;omega) (by decide) (Nat.le_trans HB1.out.size HB2.out.size) ?_;intro v3 w3 hO3 hg3;have HO3 := Lib.hid hO3;have HG3 := Lib.hid hg3;have K := keep8g HK2.out hg3 (fun k hk => by have := own_base HO1.out k hk;simp at this;omega);have HK3 := Lib.hid K;obtain ⟨s0,s1,s2,s3,s4,s5,s6,s7⟩ := K;clear hO3))
 go_wp2
 refine bodyPost_ret (v := setOf (fun x => f x || g x)) (by simp [results,Tryz.results51,go_sem,r0,r1,r2,r3];rfl) rfl ⟨rfl,?_⟩
 have B1 := HB0.out.trans (HB1.out.mono (by omega))
 have B2 := B1.trans (HB2.out.mono B1.size)
 have B3 := B2.grown HG3.out B2.size (fun k hk => by have := own_base HO1.out k hk;simp at this;omega)
 have B4 := B3.trans (HB4.out.mono B3.size)
 exact (((B4.setCell (by simp;omega) _).setCell (by simp;omega) _).setCell (by simp;omega) _).setCell (by simp;omega) _
end Go.Proofs.YtgjcibhhffkemaaGreatDoor
namespace Go.Proofs.YtgjcibhhffkemaaGreatDoor
open Go.RowKit
namespace RgX
open Rg (isDst dstsOk edgesOk waitsFar reach dst_lt isDst_of dst_ne edge_lt unl unl_set all_of_ready ready_of_unl closed_set waitsFar_spec reach_spec)
structure Rl where
 R : Value → Value → World → Prop
 exp : Option Nat
 /-- the number whose value is R's second one -/
 see : Option Nat
def eq (X : Value) : Rl := ⟨fun v _ _ => v = X,none,none⟩
theorem mk {X u : Value} {w : World} : (eq X).R X u w := rfl
def rl (R : Value → World → Prop) (exp : Option Nat) : Rl := ⟨fun v _ w => R v w,exp,none⟩
def Sees (l : List Oper) (tm : Array Value) : Option Nat → Value → Prop
 | none,u => u = undef
 | some j,u => ∃ t,(l[j]?).bind (·.dst) = some t ∧ tm[t]? = some u
structure Fc where
 F : World → Prop
 exp : Option Nat
def alive (listed : Array Bool) : Option Nat → Prop
 | none => True
 | some x => listed.getD x false = false
def holds (l : List Oper) (n i : Nat) : Option Nat → Bool
 | none => true
 | some x => x == i || reach l n x i
def Off (l : List Oper) (i : Nat) (x : Option Nat) : Prop := ∃ y m,x = some y ∧ reach l m i y = true
def Past (l : List Oper) (k i : Nat) : Prop := ∃ m,reach l m k i = true
def lateB (l : List Oper) (m i t : Nat) : Bool := (List.range l.length).all fun j => ((l[j]?).bind (·.dst) != some t) || j == i || reach l m j i
def look : List (Nat × Rl) → Nat → Option Rl
 | [],_ => none
 | (k,r) :: l,j => if k == j then some r else look l j
section
variable (P : Program) (ops : Array Oper) (Q : Exit → Act → World → Prop) (E : Nat → World → World → Prop) (Fs : List Fc) (b : Act)
structure Known (Rs : List (Nat × Rl)) (i : Nat) (o : Oper) (a : Act) (w : World) : Prop where
 fact : ∀ (k n : Nat) f,Fs[k]? = some f → holds ops.toList n i f.exp = true → f.F w
 base : ∀ t x,isDst ops.toList t = false → b.tmps.toList[t]? = some x → a.tmps[t]? = some x
 late : ∀ t x m,lateB ops.toList m i t = true → b.tmps.toList[t]? = some x → a.tmps[t]? = some x
 dep : ∀ n j t r,waitsFar ops.toList n o j = true → (ops.toList[j]?).bind (·.dst) = some t → look Rs j = some r → ∃ v,a.tmps[t]? = some v ∧ (∀ m u,holds ops.toList m i r.exp = true → Sees ops.toList a.tmps r.see u → r.R v u w)
 depN : ∀ n j p r,waitsFar ops.toList n o j = true → ops.toList[j]? = some p → p.dst = none → look Rs j = some r → ∀ m u,holds ops.toList m i r.exp = true → Sees ops.toList a.tmps r.see u → r.R undef u w
def One (Rs : List (Nat × Rl)) (i : Nat) (o : Oper) (r : Rl) : Prop :=
 ∀ a w,Known ops Fs b Rs i o a w →
  if Region.wanted o (yielded ops a.tmps) = true then ∀ K : Act → World → Prop,(∀ v w',(o.dst = none → v = undef) → (∀ u,Sees ops.toList a.tmps r.see u → r.R v u w') → E i w w' → K (a.put o.dst v) w') → o.wp P a w K Q else ∀ u,Sees ops.toList a.tmps r.see u → r.R undef u w
def Keep (i : Nat) (F : World → Prop) : Prop := ∀ w w',F w → E i w w' → F w'
def Fin (D : List Deferred) : List Oper → List Rl → List Value → World → Prop
 | [],[],base,w => Q .normal ⟨base.toArray,D⟩ w
 | o :: os,r :: rs,base,w => match o.dst with
  | some d => ∀ v,(r.exp = none → ∀ u,Sees ops.toList base.toArray r.see u → r.R v u w) → Fin D os rs (base.set d v) w
  | none => (r.exp = none → ∀ u,Sees ops.toList base.toArray r.see u → r.R undef u w) → Fin D os rs base w
 | _,_,_,_ => False
def Build : Nat → List Oper → List (Nat × Rl) → Prop
 | _,[],Rs => ∀ w,(∀ f ∈ Fs,f.exp = none → f.F w) → Fin ops Q b.defers ops.toList (Rs.reverse.map (·.2)) b.tmps.toList w
 | n,o :: l,Rs => ∃ r : Rl,One P ops Q E Fs b Rs n o r ∧ (∀ i,i < ops.size → i ≠ n → r.exp ≠ some i → ¬ Off ops.toList i r.exp → ¬ Past ops.toList n i → ∀ v u,Keep E i (r.R v u)) ∧ (∀ j,r.see = some j → ∃ m,waitsFar ops.toList m o j = true) ∧ Build (n + 1) l ((n,r) :: Rs)
end
section
variable {P : Program} {ops : Array Oper} {Q : Exit → Act → World → Prop} {E : Nat → World → World → Prop} {Fs : List Fc} {b : Act}
structure Inv (ops : Array Oper) (Fs : List Fc) (b : Act) (Rs : List Rl) (listed : Array Bool) (a : Act) (w : World) : Prop where
 fact : ∀ f ∈ Fs,alive listed f.exp → f.F w
 defers : a.defers = b.defers
 size : a.tmps.size = b.tmps.size
 base : ∀ t,isDst ops.toList t = false → a.tmps[t]? = b.tmps[t]?
 late : ∀ t,(∀ (j : Nat) (o : Oper),ops[j]? = some o → o.dst = some t → listed.getD j false = false) → a.tmps[t]? = b.tmps[t]?
 closed : ∀ (i : Nat) (o : Oper) (e : Edge),ops.toList[i]? = some o → listed.getD i false = true → e ∈ o.after → Region.binds .any e = true → listed.getD e.on false = true
 dep : ∀ (i : Nat) (o : Oper) (t : Nat) (r : Rl),ops[i]? = some o → o.dst = some t → listed.getD i false = true → Rs[i]? = some r → ∃ v,a.tmps[t]? = some v ∧ (alive listed r.exp → ∀ u,Sees ops.toList a.tmps r.see u → r.R v u w)
 depN : ∀ (i : Nat) (o : Oper) (r : Rl),ops[i]? = some o → o.dst = none → listed.getD i false = true → Rs[i]? = some r → alive listed r.exp → ∀ u,Sees ops.toList a.tmps r.see u → r.R undef u w
theorem alive_of_set {listed : Array Bool} {i : Nat} {x : Option Nat} (hi : i < listed.size) (h : alive (listed.setIfInBounds i true) x) : alive listed x ∧ x ≠ some i := by
 cases x with
 | none => exact ⟨trivial,by simp⟩
 | some x =>
  simp only [alive] at h ⊢
  by_cases hx : i = x
  ·subst hx;simp [Array.getElem?_setIfInBounds_self_of_lt hi] at h
  ·have : (listed.setIfInBounds i true).getD x false = listed.getD x false := by simp [Array.getElem?_setIfInBounds_ne hx]
   rw [this] at h
   exact ⟨h,fun e => hx (Option.some.inj e).symm⟩
theorem getD_other {listed : Array Bool} {i k : Nat} (h : i ≠ k) : (listed.setIfInBounds i true).getD k false = listed.getD k false := by simp [Array.getElem?_setIfInBounds_ne h]
theorem Inv.put {Rs : List Rl} {listed : Array Bool} {a : Act} {w w' : World} {i : Nat} {o : Oper} {r : Rl} {v : Value} (hd : dstsOk b.tmps.size ops.toList = true)
  (stF : ∀ f ∈ Fs,∀ i,i < ops.size → f.exp ≠ some i → ¬ Off ops.toList i f.exp → Keep E i f.F) (stR : ∀ (k : Nat) (q : Rl),Rs[k]? = some q → ∀ i,i < ops.size → i ≠ k → q.exp ≠ some i → ¬ Off ops.toList i q.exp → ¬ Past ops.toList k i → ∀ v u,Keep E i (q.R v u))
  (see : ∀ (k : Nat) (p : Oper) (q : Rl) (j : Nat),ops[k]? = some p → Rs[k]? = some q → q.see = some j → ∃ m,waitsFar ops.toList m p j = true) (hil' : listed.getD i false = false)
  (h : Inv ops Fs b Rs listed a w) (ho : ops[i]? = some o) (hr : Rs[i]? = some r) (hv : ∀ u,Sees ops.toList a.tmps r.see u → r.R v u w') (hvn : o.dst = none → v = undef) (hb : E i w w' ∨ w' = w) (hs : listed.size = ops.size) (hdep : ∀ e ∈ o.after,Region.binds .any e = true → listed.getD e.on false = true) :
  Inv ops Fs b Rs (listed.setIfInBounds i true) (a.put o.dst v) w' := by
 have ho' : ops.toList[i]? = some o := by simpa using ho
 have hio : i < ops.size := (Array.getElem?_eq_some_iff.1 ho).1
 have hil : i < listed.size := by omega
 have notPast : ∀ k,listed.getD k false = true → ¬ Past ops.toList k i := by
  rintro k hk ⟨m,hm⟩
  have := reach_spec h.closed m k i hm hk
  rw [hil'] at this;cases this
 have notOff : ∀ x : Option Nat,alive listed x → ¬ Off ops.toList i x := by
  rintro x ha ⟨y,m,rfl,hm⟩
  simp only [alive] at ha
  cases m with
  | zero => simp [reach] at hm
  | succ m =>
   unfold reach at hm
   rw [ho'] at hm
   have := waitsFar_spec h.closed (n := m) (o := o) (j := y) hm hdep
   rw [this] at ha;cases ha
 have move : ∀ F : World → Prop,(E i w w' → Keep E i F) → F w → F w' := fun F hk hF => by
  rcases hb with hb | rfl
  ·exact hk hb _ _ hF hb
  ·exact hF
 have back : ∀ (k : Nat) (p : Oper) (q : Rl) (u : Value),ops[k]? = some p → Rs[k]? = some q → (listed.getD k false = true ∨ k = i) → Sees ops.toList (a.put o.dst v).tmps q.see u → Sees ops.toList a.tmps q.see u := by
  intro k p q u hp hq hk hs
  cases hsee : q.see with
  | none => rw [hsee] at hs;exact hs
  | some j =>
   rw [hsee] at hs
   obtain ⟨m,hm⟩ := see k p q j hp hq hsee
   have hjl : listed.getD j false = true := by
    refine waitsFar_spec h.closed hm ?_
    rcases hk with hk | rfl
    ·exact fun e he hb => h.closed k p e (by simpa using hp) hk he hb
    ·obtain rfl : o = p := by rw [ho] at hp;exact Option.some.inj hp
     exact hdep
   have hji : j ≠ i := fun e => by subst e;rw [hil'] at hjl;cases hjl
   obtain ⟨t,ht,hu⟩ := hs
   refine ⟨t,ht,?_⟩
   obtain ⟨pj,hpj,hpt⟩ := Option.bind_eq_some_iff.1 ht
   cases hod : o.dst with
   | none => simpa [Act.put,hod] using hu
   | some d =>
    have hne : d ≠ t := fun e => hji (by subst e;exact dst_ne hd j i pj o d hpj ho' hpt hod)
    simpa [Act.put,hod,Array.getElem?_setIfInBounds_ne hne] using hu
 refine ⟨fun f hf ha => ?_,?_,?_,?_,?_,closed_set h.closed ho' hdep,?_,?_⟩
 ·obtain ⟨ha1,ha2⟩ := alive_of_set hil ha
  exact move _ (fun _ => stF f hf i hio ha2 (notOff _ ha1)) (h.fact f hf ha1)
 ·cases hd : o.dst <;> simp [Act.put,h.defers]
 ·cases hd : o.dst <;> simp [Act.put,h.size]
 ·intro t ht
  cases hod : o.dst with
  | none => simpa [Act.put] using h.base t ht
  | some d =>
   have hne : d ≠ t := fun e => by subst e;rw [isDst_of ho' hod] at ht;cases ht
   simpa [Act.put,Array.getElem?_setIfInBounds_ne hne] using h.base t ht
 ·intro t ht
  have hold := h.late t (fun j p hp hpd => by
   have h1 := ht j p hp hpd
   by_cases hji : i = j
   ·subst hji;exact hil'
   ·rw [getD_other hji] at h1;exact h1)
  cases hod : o.dst with
  | none => simpa [Act.put] using hold
  | some d =>
   have hne : d ≠ t := fun e => by
    subst e
    have h1 := ht i o ho hod
    simp [Array.getElem?_setIfInBounds_self_of_lt hil] at h1
   simpa [Act.put,hod,Array.getElem?_setIfInBounds_ne hne] using hold
 ·intro k p t q hp hpd hl hs'
  by_cases hki : k = i
  ·subst hki
   obtain rfl : o = p := by rw [ho] at hp;exact Option.some.inj hp
   obtain rfl : r = q := by rw [hr] at hs';exact Option.some.inj hs'
   have hlt : t < a.tmps.size := by rw [h.size];exact dst_lt hd k o t ho' hpd
   exact ⟨v,by simp [Act.put,hpd,Array.getElem?_setIfInBounds_self_of_lt hlt],fun _ u hs => hv u (back k o r u ho hr (.inr rfl) hs)⟩
  ·rw [getD_other (Ne.symm hki)] at hl
   obtain ⟨u,hu,hru⟩ := h.dep k p t q hp hpd hl hs'
   refine ⟨u,?_,fun ha u2 hs2 => ?_⟩
   ·cases hod : o.dst with
    | none => simpa [Act.put] using hu
    | some d =>
     have hne : d ≠ t := fun e => hki (by subst e;exact (dst_ne hd i k o p d ho' (by simpa using hp) hod hpd).symm)
     simpa [Act.put,Array.getElem?_setIfInBounds_ne hne] using hu
   ·obtain ⟨ha1,ha2⟩ := alive_of_set hil ha
    exact move _ (fun _ => stR k q hs' i hio (Ne.symm hki) ha2 (notOff _ ha1) (notPast k hl) u u2) (hru ha1 u2 (back k p q u2 hp hs' (.inl hl) hs2))
 ·intro k p q hp hpd hl hs' ha u hsu
  obtain ⟨ha1,ha2⟩ := alive_of_set hil ha
  by_cases hki : k = i
  ·subst hki
   obtain rfl : o = p := by rw [ho] at hp;exact Option.some.inj hp
   obtain rfl : r = q := by rw [hr] at hs';exact Option.some.inj hs'
   have := hv u (back k o r u ho hr (.inr rfl) hsu)
   rw [hvn hpd] at this;exact this
  ·rw [getD_other (Ne.symm hki)] at hl
   exact move _ (fun _ => stR k q hs' i hio (Ne.symm hki) ha2 (notOff _ ha1) (notPast k hl) undef u) (h.depN k p q hp hpd hl hs' ha1 u (back k p q u hp hs' (.inl hl) hsu))
theorem holds_alive {l : List Oper} {listed : Array Bool} (hc : ∀ (i : Nat) (o : Oper) (e : Edge),l[i]? = some o → listed.getD i false = true → e ∈ o.after → Region.binds .any e = true → listed.getD e.on false = true)
  {n i : Nat} (hi : listed.getD i false = false) {x : Option Nat} (h : holds l n i x = true) : alive listed x := by
 cases x with
 | none => trivial
 | some x =>
  simp only [holds,Bool.or_eq_true,beq_iff_eq] at h
  simp only [alive]
  cases hx : listed.getD x false with
  | false => rfl
  | true =>
   rcases h with rfl | h
   ·rw [hi] at hx;cases hx
   ·have := reach_spec hc n x i h hx
    rw [hi] at this;cases this
theorem run {Rs : List Rl} (hd : dstsOk b.tmps.size ops.toList = true) (he : edgesOk 0 ops.toList = true)
  (stF : ∀ f ∈ Fs,∀ i,i < ops.size → f.exp ≠ some i → ¬ Off ops.toList i f.exp → Keep E i f.F) (stR : ∀ (k : Nat) (q : Rl),Rs[k]? = some q → ∀ i,i < ops.size → i ≠ k → q.exp ≠ some i → ¬ Off ops.toList i q.exp → ¬ Past ops.toList k i → ∀ v u,Keep E i (q.R v u)) (see : ∀ (k : Nat) (p : Oper) (q : Rl) (j : Nat),ops[k]? = some p → Rs[k]? = some q → q.see = some j → ∃ m,waitsFar ops.toList m p j = true) (hlen : Rs.length = ops.size)
  (one : ∀ (i : Nat) (o : Oper) (r : Rl),ops[i]? = some o → Rs[i]? = some r → ∃ Ls : List (Nat × Rl),(∀ j q,look Ls j = some q → Rs[j]? = some q) ∧ One P ops Q E Fs b Ls i o r)
  (fin : ∀ a w listed,Inv ops Fs b Rs listed a w → (∀ i,i < ops.size → listed.getD i false = true) → Q .normal a w) :
  ∀ fuel listed a w,listed.size = ops.size → unl ops.size listed = fuel → Inv ops Fs b Rs listed a w → wpAny P .any ops Q fuel listed a w
 | 0,listed,a,w,hs,hu,h => ⟨ready_of_unl hu,fin a w listed h (all_of_ready he (ready_of_unl hu) hs)⟩
 | fuel + 1,listed,a,w,hs,hu,h => by
  refine ⟨fun hr => fin a w listed h (all_of_ready he hr hs),fun i hi => ?_⟩
  obtain ⟨h1,o,ho,hdep⟩ := mem_ready.1 hi
  have hlt : i < ops.size := (Array.getElem?_eq_some_iff.1 ho).1
  obtain ⟨r,hr⟩ : ∃ r,Rs[i]? = some r := ⟨_,List.getElem?_eq_getElem (hlen ▸ hlt)⟩
  have hu' := unl_set (i := i) hs h1
  have h1f : listed.getD i false = false := by
   have hl : i < listed.size := hs ▸ hlt
   simp [hl] at h1 ⊢;exact h1
  obtain ⟨Ls,hLs,hone⟩ := one i o r ho hr
  have hk : Known ops Fs b Ls i o a w := by
   refine ⟨fun k n f hf hh => h.fact f (List.mem_of_getElem? hf) (holds_alive h.closed h1f hh),fun t x ht hx => by rw [h.base t ht];simpa using hx,fun t x m ht hx => ?_,fun n j t q hj ht hrs => ?_,fun n j p q hj hp hpd hrs m u hm hsu => ?_⟩
   ·rw [h.late t (fun j p hp hpd => ?_)]
    ·simpa using hx
    ·unfold lateB at ht
     have h1 := List.all_eq_true.1 ht j (List.mem_range.2 (by simpa using (Array.getElem?_eq_some_iff.1 hp).1))
     have h2 : (ops.toList[j]?).bind (·.dst) = some t := by
      have : ops.toList[j]? = some p := by simpa using hp
      rw [this];exact hpd
     rw [h2] at h1
     simp only [bne_self_eq_false,Bool.false_or,Bool.or_eq_true,beq_iff_eq] at h1
     rcases h1 with rfl | h1
     ·exact h1f
     ·cases hx2 : listed.getD j false with
      | false => rfl
      | true =>
       have := reach_spec h.closed m j i h1 hx2
       rw [h1f] at this;cases this
   ·obtain ⟨p,hp,hpt⟩ := Option.bind_eq_some_iff.1 ht
    obtain ⟨v,hv,hR⟩ := h.dep j p t q (by simpa using hp) hpt (waitsFar_spec h.closed hj hdep) (hLs _ _ hrs)
    exact ⟨v,hv,fun m u hm hs => hR (holds_alive h.closed h1f hm) u hs⟩
   ·exact h.depN j p q (by simpa using hp) hpd (waitsFar_spec h.closed hj hdep) (hLs _ _ hrs) (holds_alive h.closed h1f hm) u hsu
  have hon := hone a w hk
  unfold wpOp
  simp only [ho]
  split
  ·rename_i hw
   rw [if_pos hw] at hon
   exact .inl (hon _ fun v w' hvn hv hb => run hd he stF stR see hlen one fin fuel _ _ _ (by simpa using hs) (by omega) (h.put hd stF stR see h1f ho hr hv hvn (.inl hb) hs hdep))
  ·rename_i hw
   rw [if_neg hw] at hon
   exact run hd he stF stR see hlen one fin fuel _ _ _ (by simpa using hs) (by omega) (h.put hd stF stR see h1f ho hr hon (fun _ => rfl) (.inr rfl) hs hdep)
theorem fin_of {D : List Deferred} {w : World} {a : Act} (hD : a.defers = D) : ∀ (os : List Oper) (rs : List Rl) (base : List Value),
  dstsOk base.length os = true → os.length = rs.length → a.tmps.size = base.length →
  (∀ t,isDst os t = false → a.tmps[t]? = base[t]?) →
  (∀ (i : Nat) (o : Oper) (t : Nat) (r : Rl),os[i]? = some o → o.dst = some t → rs[i]? = some r → ∃ v,a.tmps[t]? = some v ∧ (r.exp = none → ∀ u,Sees ops.toList a.tmps r.see u → r.R v u w)) →
  (∀ (i : Nat) (o : Oper) (r : Rl),os[i]? = some o → o.dst = none → rs[i]? = some r → r.exp = none → ∀ u,Sees ops.toList a.tmps r.see u → r.R undef u w) →
  (∀ (i : Nat) (r : Rl) (j t : Nat),rs[i]? = some r → r.see = some j → (ops.toList[j]?).bind (·.dst) = some t → isDst (os.drop i) t = false) →
  Fin ops Q D os rs base w → Q .normal a w
 | [],[],base,_,_,hs,hb,_,_,_,h => by
  have : a.tmps = base.toArray := by
   apply Array.ext_getElem?
   intro t;rw [hb t rfl];simp
  obtain ⟨tm,df⟩ := a
  simp only at this hD
  subst this;subst hD
  exact h
 | o :: os,r :: rs,base,hd,hl,hs,hb,hr,hn,hse,h => by
  simp only [dstsOk,Bool.and_eq_true] at hd
  simp only [Fin] at h
  have fwd : ∀ u,Sees ops.toList base.toArray r.see u → Sees ops.toList a.tmps r.see u := by
   intro u hu
   cases hsee : r.see with
   | none => rw [hsee] at hu;exact hu
   | some j =>
    rw [hsee] at hu
    obtain ⟨t,ht,hv⟩ := hu
    refine ⟨t,ht,?_⟩
    rw [hb t (by simpa using hse 0 r j t rfl hsee ht)];simpa using hv
  have hse' : ∀ (i : Nat) (r : Rl) (j t : Nat),rs[i]? = some r → r.see = some j → (ops.toList[j]?).bind (·.dst) = some t → isDst (os.drop i) t = false := fun i q j t hq hj ht => by
   simpa using hse (i + 1) q j t (by simpa using hq) hj ht
  cases hod : o.dst with
  | none =>
   rw [hod] at h
   refine fin_of hD os rs base hd.2 (by simpa using hl) hs (fun t ht => hb t ?_) (fun i p t s hp hpd hs' => hr (i + 1) p t s (by simpa using hp) hpd (by simpa using hs')) (fun i p s hp hpd hs' => hn (i + 1) p s (by simpa using hp) hpd (by simpa using hs')) hse' (h fun hx u hu => hn 0 o r rfl hod rfl hx u (fwd u hu))
   unfold isDst at ht ⊢;rw [List.any_cons,ht];simp [hod]
  | some d =>
   rw [hod] at h
   have hd1 := hd.1;rw [hod] at hd1;simp at hd1
   obtain ⟨v,hv,hrv⟩ := hr 0 o d r rfl hod rfl
   refine fin_of hD os rs (base.set d v) (by simpa using hd.2) (by simpa using hl) (by simpa using hs) (fun t ht => ?_) (fun i p t s hp hpd hs' => hr (i + 1) p t s (by simpa using hp) hpd (by simpa using hs')) (fun i p s hp hpd hs' => hn (i + 1) p s (by simpa using hp) hpd (by simpa using hs')) hse' (h v fun hx u hu => hrv hx u (fwd u hu))
   by_cases htd : d = t
   ·subst htd;rw [hv,List.getElem?_set_self hd1.1]
   ·rw [List.getElem?_set_ne htd]
    refine hb t ?_
    unfold isDst at ht ⊢;rw [List.any_cons,ht];simp [hod,htd]
 | [],_ :: _,_,_,h,_,_,_,_,_,_ => by simp at h
 | _ :: _,[],_,_,h,_,_,_,_,_,_ => by simp at h
def Num : List (Nat × Rl) → Prop
 | [] => True
 | (k,_) :: l => k = l.length ∧ Num l
theorem look_spec : ∀ {l : List (Nat × Rl)},Num l → ∀ j r,look l j = some r → (l.reverse.map (·.2))[j]? = some r
 | [],_,j,r,h => by simp [look] at h
 | (k,s) :: l,⟨hk,hn⟩,j,r,h => by
  simp only [look] at h
  rw [List.reverse_cons,List.map_append]
  split at h
  ·rename_i hkj
   have : k = j := by simpa using hkj
   subst this;cases h
   rw [List.getElem?_append_right (by simp [hk])];simp [hk]
  ·have := look_spec hn j r h
   rw [List.getElem?_append_left (List.getElem?_eq_some_iff.1 this).1];exact this
theorem build_spec : ∀ (l : List Oper) (n : Nat) (Rs : List (Nat × Rl)),Num Rs → Rs.length = n →
  (∀ (k : Nat) (q : Rl),(Rs.reverse.map (·.2))[k]? = some q → ∀ i,i < ops.size → i ≠ k → q.exp ≠ some i → ¬ Off ops.toList i q.exp → ¬ Past ops.toList k i → ∀ v u,Keep E i (q.R v u)) → Build P ops Q E Fs b n l Rs →
  ∃ rs : List Rl,rs.length = l.length ∧ (∀ (k : Nat) (q : Rl),(Rs.reverse.map (·.2) ++ rs)[k]? = some q → ∀ i,i < ops.size → i ≠ k → q.exp ≠ some i → ¬ Off ops.toList i q.exp → ¬ Past ops.toList k i → ∀ v u,Keep E i (q.R v u)) ∧
   (∀ (i : Nat) (o : Oper) (r : Rl) (j : Nat),l[i]? = some o → rs[i]? = some r → r.see = some j → ∃ m,waitsFar ops.toList m o j = true) ∧
   (∀ (i : Nat) (o : Oper) (r : Rl),l[i]? = some o → rs[i]? = some r → ∃ Ls : List (Nat × Rl),(∀ j q,look Ls j = some q → (Rs.reverse.map (·.2) ++ rs)[j]? = some q) ∧ One P ops Q E Fs b Ls (n + i) o r) ∧
   (∀ w,(∀ f ∈ Fs,f.exp = none → f.F w) → Fin ops Q b.defers ops.toList (Rs.reverse.map (·.2) ++ rs) b.tmps.toList w)
 | [],n,Rs,_,_,hst,h => ⟨[],rfl,by simpa using hst,by simp,by simp,by simpa [Build] using h⟩
 | o :: l,n,Rs,hn,hl,hst,⟨r,h1,hq,hsr,h2⟩ => by
  have hst' : ∀ (k : Nat) (q : Rl),(((n,r) :: Rs).reverse.map (·.2))[k]? = some q → ∀ i,i < ops.size → i ≠ k → q.exp ≠ some i → ¬ Off ops.toList i q.exp → ¬ Past ops.toList k i → ∀ v u,Keep E i (q.R v u) := by
   intro k q hk
   rw [List.reverse_cons,List.map_append] at hk
   by_cases hkl : k < Rs.length
   ·rw [List.getElem?_append_left (by simpa using hkl)] at hk;exact hst k q hk
   ·rw [List.getElem?_append_right (by simpa using hkl)] at hk
    have hk0 : k = n := by
     have := (List.getElem?_eq_some_iff.1 hk).1
     simp at this;omega
    subst hk0
    simp [hl] at hk
    subst hk
    exact hq
  obtain ⟨rs,hlen,hsts,hsee,ho,hf⟩ := build_spec l (n + 1) ((n,r) :: Rs) ⟨hl.symm,hn⟩ (by simp [hl]) hst' h2
  have e : ((n,r) :: Rs).reverse.map (·.2) ++ rs = Rs.reverse.map (·.2) ++ (r :: rs) := by simp
  rw [e] at ho hf hsts
  refine ⟨r :: rs,by simp [hlen],hsts,fun i p q j hp hs hj => ?_,?_,hf⟩
  ·cases i with
   | zero =>
    obtain rfl : o = p := by simpa using hp
    obtain rfl : r = q := by simpa using hs
    exact hsr j hj
   | succ i => exact hsee i p q j (by simpa using hp) (by simpa using hs) hj
  intro i p q hp hs
  cases i with
  | zero =>
   obtain rfl : o = p := by simpa using hp
   obtain rfl : r = q := by simpa using hs
   refine ⟨Rs,fun j q hj => ?_,h1⟩
   have := look_spec hn j q hj
   rw [List.getElem?_append_left (List.getElem?_eq_some_iff.1 this).1];exact this
  | succ i =>
   have := ho i p q (by simpa using hp) (by simpa using hs)
   rw [show n + 1 + i = n + (i + 1) from by omega] at this
   exact this
theorem reach_lt {l : List Oper} (he : edgesOk 0 l = true) : ∀ n i j,reach l n i j = true → j < i
 | 0,i,j,h => by simp [reach] at h
 | n + 1,i,j,h => by
  unfold reach at h
  split at h
  ·cases h
  ·rename_i o ho
   rw [List.any_eq_true] at h
   obtain ⟨e,hem,hj⟩ := h
   simp only [Bool.and_eq_true,Bool.or_eq_true,beq_iff_eq] at hj
   have h1 := edge_lt he i o e ho (by simpa using hem) hj.1
   rcases hj.2 with rfl | h2
   ·omega
   ·have := reach_lt he n e.on j h2;omega
theorem waitsFar_lt {l : List Oper} (he : edgesOk 0 l = true) {n i j : Nat} {o : Oper} (ho : l[i]? = some o) (h : waitsFar l n o j = true) : j < i := by
 unfold waitsFar at h
 rw [List.any_eq_true] at h
 obtain ⟨e,hem,hj⟩ := h
 simp only [Bool.and_eq_true,Bool.or_eq_true,beq_iff_eq] at hj
 have h1 := edge_lt he i o e ho (by simpa using hem) hj.1
 rcases hj.2 with rfl | h2
 ·omega
 ·have := reach_lt he n e.on j h2;omega
theorem wp_region_each {id : Nat} {w : World} (hm : P.follows .mixedOrders = true) (E : Nat → World → World → Prop) (Fs : List Fc)
  (stF : ∀ f ∈ Fs,∀ i,i < ops.size → f.exp ≠ some i → ¬ Off ops.toList i f.exp → Keep E i f.F)
  (hd : dstsOk b.tmps.toList.length ops.toList = true) (he : edgesOk 0 ops.toList = true) (hF : ∀ f ∈ Fs,f.F w.drew) (h : Build P ops Q E Fs b 0 ops.toList []) : (Code.region id ops true).wp P Q b w := by
 obtain ⟨rs,hl,hst,hsee,ho,hf⟩ := build_spec _ 0 [] trivial rfl (by simp) h
 simp only [List.reverse_nil,List.map_nil,List.nil_append,Nat.zero_add] at ho hf hst
 refine wp_region_any hm ?_
 have hd' : dstsOk b.tmps.size ops.toList = true := by simpa using hd
 have hl' : rs.length = ops.size := by simpa using hl
 refine run (Rs := rs) hd' he stF hst (fun k p q j hp hq hj => hsee k p q j (by simpa using hp) hq hj) hl' (fun i o r hio hr => ho i o r (by simpa using hio) hr) (fun a w' listed hi hall => ?_) ops.size _ b w.drew (by simp) ?_ ?_
 ·have alv : ∀ x : Option Nat,x = none → alive listed x := fun x hx => by subst hx;trivial
  refine fin_of (D := b.defers) hi.defers ops.toList rs b.tmps.toList hd (by simpa using hl.symm) (by simpa using hi.size) (fun t ht => by rw [hi.base t ht];simp) (fun i o t r hio hot hr => ?_) (fun i o r hio hot hr hx u hu => ?_) (fun i r j t hr hj ht => ?_) (hf w' fun f hf' hx => hi.fact f hf' (alv _ hx))
  ·have hio' : ops[i]? = some o := by simpa using hio
   obtain ⟨v,hv,hR⟩ := hi.dep i o t r hio' hot (hall i (Array.getElem?_eq_some_iff.1 hio').1) hr
   exact ⟨v,hv,fun hx u hu => hR (alv _ hx) u hu⟩
  ·have hio' : ops[i]? = some o := by simpa using hio
   exact hi.depN i o r hio' hot (hall i (Array.getElem?_eq_some_iff.1 hio').1) hr (alv _ hx) u hu
  ·have hil : i < ops.toList.length := by rw [← hl];exact (List.getElem?_eq_some_iff.1 hr).1
   obtain ⟨m,hm⟩ := hsee i ops.toList[i] r j (List.getElem?_eq_getElem hil) hr hj
   have hji : j < i := waitsFar_lt he (List.getElem?_eq_getElem hil) hm
   cases hd2 : isDst (ops.toList.drop i) t with
   | false => rfl
   | true =>
    exfalso
    unfold isDst at hd2;rw [List.any_eq_true] at hd2
    obtain ⟨p,hp,hpt⟩ := hd2
    obtain ⟨k,hk⟩ := List.getElem?_of_mem hp
    rw [List.getElem?_drop] at hk
    obtain ⟨q,hq,hqt⟩ := Option.bind_eq_some_iff.1 ht
    have := dst_ne hd' j (i + k) q p t hq hk hqt (by simpa using hpt)
    omega
 ·unfold unl
  rw [List.countP_eq_length.2]
  ·simp
  ·intro i hi;rw [List.mem_range] at hi;simp [hi]
 ·refine ⟨fun f hf _ => hF f hf,rfl,rfl,fun _ _ => rfl,fun _ _ => rfl,fun i o e hio hl _ _ => ?_,fun i o t r hio _ hl _ => ?_,fun i o r hio _ hl _ _ => ?_⟩
  ·have hlt : i < ops.size := by simpa using (List.getElem?_eq_some_iff.1 hio).1
   simp [hlt] at hl
  ·have hlt : i < ops.size := (Array.getElem?_eq_some_iff.1 hio).1
   simp [hlt] at hl
  ·have hlt : i < ops.size := (Array.getElem?_eq_some_iff.1 hio).1
   simp [hlt] at hl
def spE : List (Nat × (World → World → Prop)) → Nat → World → World → Prop
 | [],_ => fun w w' => Below w.heap.size w w'
 | (k,e) :: l,i => if k == i then e else spE l i
def PastO (os : List Oper) : Option Nat → Nat → Prop
 | none,_ => False
 | some n,i => Past os n i
def KeepL (os : List Oper) (n : Option Nat) (x : Option Nat) (F : World → Prop) : List (Nat × (World → World → Prop)) → Prop
 | [] => True
 | (k,e) :: l => (n ≠ some k → x ≠ some k → ¬ Off os k x → ¬ PastO os n k → ∀ w w',F w → e w w' → F w') ∧ KeepL os n x F l
theorem keep_sp {os : List Oper} {L : List (Nat × (World → World → Prop))} {n : Option Nat} {x : Option Nat} {F : World → Prop} (h0 : ∀ w w',F w → Below w.heap.size w w' → F w') (h : KeepL os n x F L) : ∀ i,n ≠ some i → x ≠ some i → ¬ Off os i x → ¬ PastO os n i → Keep (spE L) i F := by
 intro i hn hx hoff hp w w' hF hE
 induction L with
 | nil => exact h0 _ _ hF hE
 | cons p l ih =>
  obtain ⟨k,e⟩ := p
  simp only [spE] at hE
  split at hE
  ·rename_i hk
   have : k = i := by simpa using hk
   subst this
   exact h.1 hn hx hoff hp _ _ hF hE
  ·exact ih h.2 hE
theorem keep_eq {os : List Oper} {E : Nat → World → World → Prop} {X : Value} {m n : Nat} : ∀ i,i < m → i ≠ n → (eq X).exp ≠ some i → ¬ Off os i (eq X).exp → ¬ Past os n i → ∀ v u,Keep E i ((eq X).R v u) := fun _ _ _ _ _ _ _ _ _ _ h _ => h
theorem keep_r {os : List Oper} {L : List (Nat × (World → World → Prop))} {r : Rl} {m n : Nat} (h0 : ∀ v u w w',r.R v u w → Below w.heap.size w w' → r.R v u w') (h : ∀ v u,KeepL os (some n) r.exp (r.R v u) L) : ∀ i,i < m → i ≠ n → r.exp ≠ some i → ¬ Off os i r.exp → ¬ Past os n i → ∀ v u,Keep (spE L) i (r.R v u) :=
 fun i _ hn hx ho hp v u => keep_sp (h0 v u) (h v u) i (fun e => hn (Option.some.inj e).symm) hx ho hp
def KeepF (os : List Oper) (L : List (Nat × (World → World → Prop))) : List Fc → Prop
 | [] => True
 | f :: l => ((∀ w w',f.F w → Below w.heap.size w w' → f.F w') ∧ KeepL os none f.exp f.F L) ∧ KeepF os L l
theorem keep_f {os : List Oper} {L : List (Nat × (World → World → Prop))} {m : Nat} : ∀ {Fs : List Fc},KeepF os L Fs → ∀ f ∈ Fs,∀ i,i < m → f.exp ≠ some i → ¬ Off os i f.exp → Keep (spE L) i f.F
 | [],_,f,hf,_,_,_,_ => by cases hf
 | g :: l,h,f,hf,i,hi,hx,ho => by
  rcases List.mem_cons.1 hf with rfl | hf
  ·exact keep_sp h.1.1 h.1.2 i (fun e => by cases e) hx ho (fun h => h)
  ·exact keep_f h.2 f hf i hi hx ho
def AllF (w : World) : List Fc → Prop
 | [] => True
 | f :: l => f.F w ∧ AllF w l
theorem all_f {w : World} : ∀ {Fs : List Fc},AllF w Fs → ∀ f ∈ Fs,f.F w
 | [],_,f,hf => by cases hf
 | g :: l,h,f,hf => by
  rcases List.mem_cons.1 hf with rfl | hf
  ·exact h.1
  ·exact all_f h.2 f hf
theorem start {id : Nat} {w : World} (hm : P.follows .mixedOrders = true) (L : List (Nat × (World → World → Prop))) (Fs : List Fc) (kf : KeepF ops.toList L Fs)
  (hd : dstsOk b.tmps.toList.length ops.toList = true) (he : edgesOk 0 ops.toList = true) (hF : AllF w.drew Fs) (h : Build P ops Q (spE L) Fs b 0 ops.toList []) : (Code.region id ops true).wp P Q b w :=
 wp_region_each hm (spE L) Fs (fun f hf i hi hx ho => keep_f kf f hf i hi hx ho) hd he (all_f hF) h
theorem build_cons {n m : Nat} {o : Oper} {l : List Oper} {Rs : List (Nat × Rl)} {r : Rl} (h : One P ops Q E Fs b Rs n o r) (h2 : Build P ops Q E Fs b m l ((n,r) :: Rs)) (hm : m = n + 1) (hq : ∀ i,i < ops.size → i ≠ n → r.exp ≠ some i → ¬ Off ops.toList i r.exp → ¬ Past ops.toList n i → ∀ v u,Keep E i (r.R v u)) (hs : ∀ j,r.see = some j → ∃ m,waitsFar ops.toList m o j = true) : Build P ops Q E Fs b n (o :: l) Rs := by subst hm;exact ⟨r,h,hq,hs,h2⟩
theorem build_end {n : Nat} {Rs : List (Nat × Rl)} (h : ∀ w,(∀ (k : Nat) f,Fs[k]? = some f → f.exp = none → f.F w) → Fin ops Q b.defers ops.toList (Rs.reverse.map (·.2)) b.tmps.toList w) : Build P ops Q E Fs b n [] Rs :=
 fun w hf => h w fun k f hk hx => hf f (List.mem_of_getElem? hk) hx
theorem fin_none {D : List Deferred} {o : Oper} {os : List Oper} {r : Rl} {rs : List Rl} {base : List Value} {w : World} (hd : o.dst = none) (h : (r.exp = none → ∀ u,Sees ops.toList base.toArray r.see u → r.R undef u w) → Fin ops Q D os rs base w) : Fin ops Q D (o :: os) (r :: rs) base w := by
 simp only [Fin,hd];exact h
theorem fin_eq {D : List Deferred} {o : Oper} {os : List Oper} {X : Value} {rs : List Rl} {base : List Value} {w : World} {d : Nat} (hd : o.dst = some d) (h : Fin ops Q D os rs (base.set d X) w) : Fin ops Q D (o :: os) (eq X :: rs) base w := by
 simp only [Fin,hd];intro v hv;obtain rfl : v = X := hv rfl undef rfl;exact h
theorem fin_any {D : List Deferred} {o : Oper} {os : List Oper} {r : Rl} {rs : List Rl} {base : List Value} {w : World} {d : Nat} (hd : o.dst = some d) (h : ∀ v,(r.exp = none → ∀ u,Sees ops.toList base.toArray r.see u → r.R v u w) → Fin ops Q D os rs (base.set d v) w) : Fin ops Q D (o :: os) (r :: rs) base w := by
 simp only [Fin,hd];exact h
theorem fin_nil {D : List Deferred} {base : List Value} {w : World} (h : Q .normal ⟨base.toArray,D⟩ w) : Fin ops Q D [] [] base w := h
theorem one_plain {Rs : List (Nat × Rl)} {i : Nat} {o : Oper} {r : Rl} (hg : o.guard = none)
  (h : ∀ a w,Known ops Fs b Rs i o a w → ∀ K : Act → World → Prop,(∀ v w',(o.dst = none → v = undef) → (∀ u,Sees ops.toList a.tmps r.see u → r.R v u w') → E i w w' → K (a.put o.dst v) w') → o.wp P a w K Q) : One P ops Q E Fs b Rs i o r :=
 fun a w hk => by rw [if_pos (by simp [Region.wanted,hg])];exact h a w hk
theorem yielded_of {Rs : List (Nat × Rl)} {i : Nat} {o : Oper} {a : Act} {w : World} (hk : Known ops Fs b Rs i o a w) {j t n : Nat} {g : Bool} (hw : waitsFar ops.toList n o j = true) (ht : (ops.toList[j]?).bind (·.dst) = some t) (hr : look Rs j = some (eq (.bool g))) : yielded ops a.tmps j = some g := by
 obtain ⟨v,hv,hR⟩ := hk.dep n j t _ hw ht hr
 obtain rfl : v = .bool g := hR 0 undef rfl rfl
 have ht' : (ops[j]?).bind (·.dst) = some t := by simpa using ht
 unfold yielded;rw [ht'];simp [hv]
theorem one_yes {Rs : List (Nat × Rl)} {i : Nat} {o : Oper} {r : Rl} (j t : Nat) (g : Bool) (hg : o.guard = some (j,g)) (hw : waitsFar ops.toList 0 o j = true) (ht : (ops.toList[j]?).bind (·.dst) = some t) (hr : look Rs j = some (eq (.bool g)))
  (h : ∀ a w,Known ops Fs b Rs i o a w → ∀ K : Act → World → Prop,(∀ v w',(o.dst = none → v = undef) → (∀ u,Sees ops.toList a.tmps r.see u → r.R v u w') → E i w w' → K (a.put o.dst v) w') → o.wp P a w K Q) : One P ops Q E Fs b Rs i o r :=
 fun a w hk => by rw [if_pos (by simp [Region.wanted,hg,yielded_of hk hw ht hr])];exact h a w hk
theorem one_no {Rs : List (Nat × Rl)} {i : Nat} {o : Oper} (j t : Nat) (g : Bool) (hg : o.guard = some (j,g)) (hw : waitsFar ops.toList 0 o j = true) (ht : (ops.toList[j]?).bind (·.dst) = some t) (hr : look Rs j = some (eq (.bool !g))) : One P ops Q E Fs b Rs i o (eq undef) :=
 fun a w hk => by
  have := yielded_of hk hw ht hr
  rw [if_neg (by simp [Region.wanted,hg,this])];exact fun _ _ => rfl
theorem Known.e {Rs : List (Nat × Rl)} {i : Nat} {o : Oper} {a : Act} {w : World} (hk : Known ops Fs b Rs i o a w) (n j t : Nat) {X : Value} (hw : waitsFar ops.toList n o j = true) (ht : (ops.toList[j]?).bind (·.dst) = some t) (hr : look Rs j = some (eq X)) : a.tmps[t]? = some X := by
 obtain ⟨v,h,hR⟩ := hk.dep n j t _ hw ht hr;obtain rfl : v = X := hR 0 undef rfl rfl;exact h
abbrev Does (P : Program) (ops : Array Oper) (Q : Exit → Act → World → Prop) (E : Nat → World → World → Prop) (Fs : List Fc) (b : Act) (Rs : List (Nat × Rl)) (i : Nat) (o : Oper) (r : Rl) : Prop :=
 ∀ a w,Known ops Fs b Rs i o a w → ∀ K : Act → World → Prop,(∀ v w',(o.dst = none → v = undef) → (∀ u,Sees ops.toList a.tmps r.see u → r.R v u w') → E i w w' → K (a.put o.dst v) w') → o.wp P a w K Q
theorem ok {L : List (Nat × (World → World → Prop))} {i : Nat} {K : Act → World → Prop} {a : Act} {d : Nat} {X : Value} {w : World} {S : Option Nat → Value → Prop} (hK : ∀ v w',(some d = none → v = undef) → (∀ u,S (eq X).see u → (eq X).R v u w') → spE L i w w' → K (a.put (some d) v) w') (hE : spE L i w w) : K (a.put (some d) X) w := hK _ _ (fun h => by cases h) (fun _ _ => rfl) hE
theorem cp (m : Nat) {n : Nat} {o : Oper} {l : List Oper} {Rs : List (Nat × Rl)} {X : Value} (hg : o.guard = none) (hm : m = n + 1) (h : Does P ops Q E Fs b Rs n o (eq X)) (h2 : Build P ops Q E Fs b m l ((n,eq X) :: Rs)) : Build P ops Q E Fs b n (o :: l) Rs := build_cons (one_plain hg h) h2 hm keep_eq (fun _ h => by cases h)
theorem cy (m : Nat) {n : Nat} {o : Oper} {l : List Oper} {Rs : List (Nat × Rl)} {X : Value} (j t : Nat) (g : Bool) (hg : o.guard = some (j,g)) (hw : waitsFar ops.toList 0 o j = true) (ht : (ops.toList[j]?).bind (·.dst) = some t) (hr : look Rs j = some (eq (.bool g))) (hm : m = n + 1) (h : Does P ops Q E Fs b Rs n o (eq X)) (h2 : Build P ops Q E Fs b m l ((n,eq X) :: Rs)) : Build P ops Q E Fs b n (o :: l) Rs := build_cons (one_yes j t g hg hw ht hr h) h2 hm keep_eq (fun _ h => by cases h)
theorem cn (m : Nat) {n : Nat} {o : Oper} {l : List Oper} {Rs : List (Nat × Rl)} (j t : Nat) (g : Bool) (hg : o.guard = some (j,g)) (hw : waitsFar ops.toList 0 o j = true) (ht : (ops.toList[j]?).bind (·.dst) = some t) (hr : look Rs j = some (eq (.bool !g))) (hm : m = n + 1) (h2 : Build P ops Q E Fs b m l ((n,eq undef) :: Rs)) : Build P ops Q E Fs b n (o :: l) Rs := build_cons (one_no j t g hg hw ht hr) h2 hm keep_eq (fun _ h => by cases h)
end
end RgX
end Go.Proofs.YtgjcibhhffkemaaGreatDoor
namespace Go.Proofs.YtgjcibhhffkemaaGreatDoor
open Go.RowKit Bt
def StR {α : Type} (s : ByteArray) (g : Nat) (o x : Int) (r : Re α) (w : World) : Prop :=
 match r with | .ok _ q => AtG w g 114 (rdr s (q : Int) o 0 x) | .no c y => ∃ p,AtG w g 114 (rdr s p o c (y : Int))
theorem peek_any (g : Nat) (s : ByteArray) (p : Nat) (o x : Int) (w : World) (h : AtG w g 114 (rdr s p o 0 x)) :
  Calls Tryz.prog 69 #[.pointer (some ⟨g,0,none⟩)] w fun e w' => e = .returned (.int .i64 (ch s p)) ∧ Below w.heap.size w w' := by
 rcases Nat.lt_or_ge p s.size with h1 | h1
 ·rw [ch_in h1];exact peek_in g s p o x w h h1
 ·rw [ch_end h1];exact peek_end g s p o x w h (by omega)
theorem next_ch (g : Nat) (s : ByteArray) (p : Nat) (o x : Int) (w : World) (h : AtG w g 114 (rdr s p o 0 x)) (hc : 0 ≤ ch s p) (hm : s.size ≤ 140737488355328) :
  Calls Tryz.prog 97 #[.pointer (some ⟨g,0,none⟩)] w fun e w' => e = .returned (.int .i64 (ch s p)) ∧ AtG w' g 114 (rdr s ((p + 1 : Nat) : Int) o 0 x) ∧ Only (fun k => k = g) w w' := by
 have h1 := ch_ge hc
 rw [ch_in h1]
 have := next_in g s p o x w h h1 hm
 rw [show ((p : Int) + 1) = ((p + 1 : Nat) : Int) from by omega] at this
 exact this
theorem next_no (g : Nat) (s : ByteArray) (p : Nat) (o x : Int) (w : World) (h : AtG w g 114 (rdr s p o 0 x)) (hp : p ≤ s.size) (hc : ch s p < 0) :
  Calls Tryz.prog 97 #[.pointer (some ⟨g,0,none⟩)] w fun e w' => e = .returned (.int .i64 (-1)) ∧ AtG w' g 114 (rdr s p o 2 (p : Int)) ∧ Only (fun k => k = g) w w' := by
 have h1 : s.size ≤ p := by
  rcases Nat.lt_or_ge p s.size with h1 | h1
  ·have := ch_pos h1;omega
  ·exact h1
 obtain rfl : p = s.size := by omega
 exact next_end g s s.size o x w h (by omega)
theorem below_set4 {B : Nat} {w w1 : World} (h : Below B w w1) (g : Nat) (hg : B ≤ g) (a b c d : Value) : Below B w ((((w1.setCell ⟨g,0,none⟩ a).setCell ⟨g,1,none⟩ b).setCell ⟨g,2,none⟩ c).setCell ⟨g,3,none⟩ d) :=
 (((h.setCell hg _).setCell hg _).setCell hg _).setCell hg _
theorem digits_any (w : World) : Calls Tryz.prog 129 #[] w fun e w' => e = .returned (setOf digF) ∧ Below w.heap.size w w' := by
 have hr := fun w => refRange_any 48 57 w (by omega) (by omega) (by omega) (by omega)
 have hd : setOf (rngF (48 : Int).toNat ((57 : Int).toNat + 1)) = setOf digF := rfl
 rw [hd] at hr
 have HR := Lib.hid hr;clear hr hd
 have HA := Lib.hid (AtG.new w 38 (setC 0 0 0 0))
 have HB := Lib.hid ((Below.refl w.heap.size w).alloc (Nat.le_refl _) (.cells (setC 0 0 0 0) 38))
 go_enter Tryz.func129,Tryz.ntmps129
 go_wp2_with fail
 refine (HR.out _).mono ?_
 rintro e9 w9 ⟨rfl,hw9⟩
 have HA9 := Lib.hid (HA.out.below hw9)
 have d0 := (HA9.out).cell 0 _ rfl;have d1 := (HA9.out).cell 1 _ rfl;have d2 := (HA9.out).cell 2 _ rfl;have d3 := (HA9.out).cell 3 _ rfl
 have f0 := (HA9.out).frozen 0;have f1 := (HA9.out).frozen 1;have f2 := (HA9.out).frozen 2;have f3 := (HA9.out).frozen 3
 have HB9 := Lib.hid (HB.out.trans (hw9.mono HB.out.size))
 clear hw9
 unfold setOf
 go_wp2_with fail
 refine bodyPost_ret (v := setOf digF) (by simp [results,Tryz.results129,go_sem,d0,d1,d2,d3];try rfl) rfl ⟨rfl,?_⟩
 exact below_set4 HB9.out _ (Nat.le_refl _) _ _ _ _
def putS (w : World) (g : Nat) (f : Nat → Bool) : World := (((w.setCell ⟨g,0,none⟩ (.int .u64 ((wd f 0 : Nat) : Int))).setCell ⟨g,1,none⟩ (.int .u64 ((wd f 1 : Nat) : Int))).setCell ⟨g,2,none⟩ (.int .u64 ((wd f 2 : Nat) : Int))).setCell ⟨g,3,none⟩ (.int .u64 ((wd f 3 : Nat) : Int))
theorem putS_at {w : World} {g T : Nat} {a b c d : Value} (h : AtG w g T #[a,b,c,d]) (f : Nat → Bool) : AtG (putS w g f) g T (cellsOf f) := (((h.set 0 _).set 1 _).set 2 _).set 3 _
theorem putS_far {w : World} {g g' T : Nat} {cs : Array Value} (h : AtG w g' T cs) (hg : g' ≠ g) (f : Nat → Bool) : AtG (putS w g f) g' T cs := (((h.far hg _).far hg _).far hg _).far hg _
theorem putS_below {B : Nat} {w w1 : World} (h : Below B w w1) {g : Nat} (hg : B ≤ g) (f : Nat → Bool) : Below B w (putS w1 g f) := below_set4 h g hg _ _ _ _
theorem refOf_one (w : World) (g : Nat) (c : Nat) (hc : c < 256) (h : AtG w g 5 #[.int .u8 (c : Int)]) :
  Calls Tryz.prog 72 #[.slice (some ⟨g,0,none⟩) 1 1] w fun e w' => e = .returned (setOf fun y => y == c) ∧ Below w.heap.size w w' := by
 have hr : RdB w (.slice (some ⟨g,0,none⟩) 1 1) [(c : Int)] := rdB_cells [(c : Int)] h (Nat.le_refl _) (by simp) (by intro x hx;simp at hx;subst hx;omega)
 have := refOf_any _ _ w hr
 rw [show setOf (memF [(c : Int)]) = setOf (fun y => y == c) from setOf_ext fun x hx => by
  unfold memF;rw [Bool.eq_iff_iff];simp;omega] at this
 exact this
set_option maxRecDepth 100000 in
theorem words_any (w : World) : Calls Tryz.prog 130 #[] w fun e w' => e = .returned (setOf wordF) ∧ Below w.heap.size w w' := by
 have HD := Lib.hid digits_any
 have HF1 := Lib.hid (fun w => refRange_any 97 122 w (by omega) (by omega) (by omega) (by omega))
 have HF2 := Lib.hid (fun w => refRange_any 65 90 w (by omega) (by omega) (by omega) (by omega))
 have HA := Lib.hid (AtG.new w 38 (setC 0 0 0 0))
 have HB := Lib.hid ((Below.refl w.heap.size w).alloc (Nat.le_refl _) (.cells (setC 0 0 0 0) 38))
 go_enter Tryz.func130,Tryz.ntmps130
 go_wp2_with fail
 refine (HD.out _).mono ?_
 rintro e9 w1 ⟨rfl,hw⟩
 have HA1 := Lib.hid (HA.out.below hw)
 have HB1 := Lib.hid (HB.out.trans (hw.mono HB.out.size))
 clear hw HA HB
 go_wp2_with fail
 refine (refOf_one _ w1.heap.size 95 (by decide) (AtG.new w1 _ _)).mono ?_
 rintro e9 w2 ⟨rfl,hw⟩
 have HA2 := Lib.hid ((HA1.out.alloc _).below hw)
 have HB2 := Lib.hid ((HB1.out.alloc HB1.out.size (.cells #[.int .u8 95] 5)).trans (hw.mono (by have := HB1.out.size;simp;omega)))
 clear hw HA1 HB1
 go_wp2_with fail
 refine (refOr_any _ _ _).mono ?_
 rintro e9 w3 ⟨rfl,hw⟩
 have HA3 := Lib.hid (HA2.out.below hw)
 have HB3 := Lib.hid (HB2.out.trans (hw.mono HB2.out.size))
 clear hw HA2 HB2
 unfold setOf
 go_upto_region 2 with (fail)
 have HA4 := Lib.hid (HA3.out.alloc (.cells (cellsOf fun x => digF x || x == 95) 38))
 have HG4 : Hid (AtG (w3.alloc (.cells (cellsOf fun x => digF x || x == 95) 38)) w3.heap.size 38 (cellsOf fun x => digF x || x == 95)) := Lib.hid (AtG.new w3 _ _)
 have HB4 := Lib.hid (HB3.out.alloc HB3.out.size (.cells (cellsOf fun x => digF x || x == 95) 38))
 have hne : w3.heap.size ≠ w.heap.size := by have := HA3.out.lt;omega
 refine RgX.start (by kernel_rfl) [(5,fun w5 w6 => ∃ f,w6 = putS w5 w.heap.size f)] [⟨fun w5 => AtG w5 w3.heap.size 38 (cellsOf fun x => digF x || x == 95) ∧ Below w.heap.size w w5,none⟩,⟨fun w5 => AtG w5 w.heap.size 38 (setC 0 0 0 0),some 5⟩] ⟨⟨fun _ _ h hb => ⟨h.1.below hb,h.2.trans (hb.mono h.2.size)⟩,⟨fun _ _ _ _ => (fun w5 w6 h he => by obtain ⟨f,rfl⟩ := he;exact ⟨putS_far h.1 hne _,putS_below h.2 (Nat.le_refl _) _⟩),trivial⟩⟩,⟨fun _ _ h hb => h.below hb,⟨fun _ h _ _ => absurd rfl h,trivial⟩⟩,trivial⟩ (by kernel_rfl) (by kernel_rfl) ⟨⟨HG4.out.drew,HB4.out.drew⟩,HA4.out.drew,trivial⟩ ?_
 show RgX.Build _ _ _ _ _ _ 0 [_,_,_,_,_,_] []
 refine RgX.cp 1 rfl rfl (by intro ax wx hk Kx hK;have k1 := hk.base 1 _ rfl rfl;have hg := hk.fact 0 0 _ rfl rfl;(try dsimp only at hg);have ha := hk.fact 1 1 _ rfl rfl;(try dsimp only at ha);clear hk;have z0 := hg.1.cell 0 _ rfl;have z1 := hg.1.cell 1 _ rfl;have z2 := hg.1.cell 2 _ rfl;have z3 := hg.1.cell 3 _ rfl;go_simp;exact hK _ _ (fun h => by cases h) (fun _ _ => rfl) (Below.refl _ _)) ?_
 refine RgX.cp 2 rfl rfl (by intro ax wx hk Kx hK;have hg := hk.fact 0 0 _ rfl rfl;(try dsimp only at hg);have ha := hk.fact 1 1 _ rfl rfl;(try dsimp only at ha);clear hk;go_simp;refine (HF1.out _).mono ?_;rintro e w' ⟨rfl,hb⟩;refine hK _ _ (fun h => by cases h) (fun _ _ => ?_) hb;apply RgX.mk) ?_
 refine RgX.cp 3 rfl rfl (by intro ax wx hk Kx hK;have hg := hk.fact 0 0 _ rfl rfl;(try dsimp only at hg);have ha := hk.fact 1 1 _ rfl rfl;(try dsimp only at ha);clear hk;go_simp;refine (HF2.out _).mono ?_;rintro e w' ⟨rfl,hb⟩;refine hK _ _ (fun h => by cases h) (fun _ _ => ?_) hb;apply RgX.mk) ?_
 refine RgX.cp 4 rfl rfl (by intro ax wx hk Kx hK;have k7 := hk.e 0 1 7 rfl rfl rfl;have k8 := hk.e 0 2 8 rfl rfl rfl;have hg := hk.fact 0 0 _ rfl rfl;(try dsimp only at hg);have ha := hk.fact 1 1 _ rfl rfl;(try dsimp only at ha);clear hk;go_simp;refine (refOr_any _ _ _).mono ?_;rintro e w' ⟨rfl,hb⟩;refine hK _ _ (fun h => by cases h) (fun _ _ => ?_) hb;apply RgX.mk) ?_
 refine RgX.cp 5 rfl rfl (by intro ax wx hk Kx hK;have k6 := hk.e 0 0 6 rfl rfl rfl;have k9 := hk.e 0 3 9 rfl rfl rfl;have hg := hk.fact 0 0 _ rfl rfl;(try dsimp only at hg);have ha := hk.fact 1 1 _ rfl rfl;(try dsimp only at ha);clear hk;go_simp;refine (refOr_any (fun x => digF x || x == 95) _ _).mono ?_;rintro e w' ⟨rfl,hb⟩;refine hK _ _ (fun h => by cases h) (fun _ _ => ?_) hb;apply RgX.mk) ?_
 refine RgX.build_cons (m := 6) (r := (⟨fun _ _ w5 => AtG w5 w.heap.size 38 (cellsOf wordF),none,none⟩ : RgX.Rl)) (RgX.one_plain rfl (by intro ax wx hk Kx hK;have k0 := hk.base 0 _ rfl rfl;have k10 := hk.e 0 4 10 rfl rfl rfl;have hg := hk.fact 0 0 _ rfl rfl;(try dsimp only at hg);have ha := hk.fact 1 0 _ rfl rfl;(try dsimp only at ha);clear hk;(have d0 := ha.cell 0 _ rfl;have d1 := ha.cell 1 _ rfl;have d2 := ha.cell 2 _ rfl;have d3 := ha.cell 3 _ rfl;have f0 := ha.frozen 0;have f1 := ha.frozen 1;have f2 := ha.frozen 2;have f3 := ha.frozen 3;unfold setOf at k10;go_simp;exact hK undef _ (fun _ => rfl) (fun u hu => putS_at ha wordF) ⟨wordF,rfl⟩))) ?_ rfl (RgX.keep_r (fun _ _ _ _ h hb => h.below hb) (fun _ _ => ⟨fun h _ _ _ => absurd rfl h,trivial⟩)) (fun _ h => by cases h)
 refine RgX.build_end fun wx hj => ?_
 have hg := hj 0 _ rfl rfl
 clear hj
 iterate 5 refine RgX.fin_eq rfl ?_
 refine RgX.fin_none rfl fun s5 => ?_
 refine RgX.fin_nil ?_
 simp only [List.set_cons_zero,List.set_cons_succ]
 have hA := s5 rfl undef rfl
 have hB := hg.2
 have d0 := (hA).cell 0 _ rfl;have d1 := (hA).cell 1 _ rfl;have d2 := (hA).cell 2 _ rfl;have d3 := (hA).cell 3 _ rfl
 have f0 := (hA).frozen 0;have f1 := (hA).frozen 1;have f2 := (hA).frozen 2;have f3 := (hA).frozen 3
 clear s5 hg
 go_wp2_with fail
 refine bodyPost_ret (v := setOf wordF) (by simp [results,Tryz.results130,go_sem,d0,d1,d2,d3];try rfl) rfl ⟨rfl,?_⟩
 exact hB
end Go.Proofs.YtgjcibhhffkemaaGreatDoor
namespace Go.Proofs.YtgjcibhhffkemaaGreatDoor
open Go.RowKit Bt
theorem setOf_emp : setOf emp = setV 0 0 0 0 := by unfold setOf emp;simp [wd_none]
theorem inT_bl (c : Int) (s : ByteArray) : InT c s ↔ c ∈ bl s := by
 unfold InT bl
 simp only [List.mem_map]
 constructor
 ·rintro ⟨j,h,rfl⟩
  exact ⟨s[j],by rw [Array.mem_toList_iff];exact Array.getElem_mem (xs := s.data) h,rfl⟩
 ·rintro ⟨b,hb,rfl⟩
  rw [Array.mem_toList_iff] at hb
  obtain ⟨j,hj,e⟩ := Array.getElem_of_mem hb
  exact ⟨j,hj,by rw [← e];rfl⟩
def wideV (c : Int) : Value := match wideF c with | some f => .tuple #[setOf f,.bool true] | none => .tuple #[setOf emp,.bool false]
set_option maxRecDepth 100000 in
theorem wide_any (c : Int) (w : World) : Calls Tryz.prog 111 #[.int .i64 c] w fun e w' => e = .returned (wideV c) ∧ Below w.heap.size w w' := by
 have HD := Lib.hid digits_any
 have HW := Lib.hid words_any
 have HA := Lib.hid (AtG.new w 38 (setC 0 0 0 0))
 have HB := Lib.hid ((Below.refl w.heap.size w).alloc (Nat.le_refl _) (.cells (setC 0 0 0 0) 38))
 by_cases h1 : c = 100
 ·subst h1
  go_enter Tryz.func111,Tryz.ntmps111
  go_wp2_with fail
  refine (HD.out _).mono ?_
  rintro e9 w1 ⟨rfl,hw⟩
  have HA1 := Lib.hid (HA.out.below hw)
  have HB1 := Lib.hid (HB.out.trans (hw.mono HB.out.size))
  clear hw
  have d0 := (HA1.out).cell 0 _ rfl;have d1 := (HA1.out).cell 1 _ rfl;have d2 := (HA1.out).cell 2 _ rfl;have d3 := (HA1.out).cell 3 _ rfl
  have f0 := (HA1.out).frozen 0;have f1 := (HA1.out).frozen 1;have f2 := (HA1.out).frozen 2;have f3 := (HA1.out).frozen 3
  unfold setOf
  go_wp2_with fail
  refine bodyPost_ret (v := wideV 100) (by simp [results,Tryz.results111,go_sem,d0,d1,d2,d3];try rfl) rfl ⟨rfl,?_⟩
  exact below_set4 HB1.out _ (Nat.le_refl _) _ _ _ _
 by_cases h2 : c = 119
 ·subst h2
  go_enter Tryz.func111,Tryz.ntmps111
  go_wp2_with fail
  refine (HW.out _).mono ?_
  rintro e9 w1 ⟨rfl,hw⟩
  have HA1 := Lib.hid (HA.out.below hw)
  have HB1 := Lib.hid (HB.out.trans (hw.mono HB.out.size))
  clear hw
  have d0 := (HA1.out).cell 0 _ rfl;have d1 := (HA1.out).cell 1 _ rfl;have d2 := (HA1.out).cell 2 _ rfl;have d3 := (HA1.out).cell 3 _ rfl
  have f0 := (HA1.out).frozen 0;have f1 := (HA1.out).frozen 1;have f2 := (HA1.out).frozen 2;have f3 := (HA1.out).frozen 3
  unfold setOf
  go_wp2_with fail
  refine bodyPost_ret (v := wideV 119) (by simp [results,Tryz.results111,go_sem,d0,d1,d2,d3];try rfl) rfl ⟨rfl,?_⟩
  exact below_set4 HB1.out _ (Nat.le_refl _) _ _ _ _
 ·have e1 : (c == 100) = false := by rw [beq_eq_false_iff_ne];exact h1
  have e2 : (c == 119) = false := by rw [beq_eq_false_iff_ne];exact h2
  have hv : wideV c = .tuple #[setV 0 0 0 0,.bool false] := by
   have : wideF c = none := by unfold wideF;rw [if_neg h1,if_neg h2]
   unfold wideV;rw [this];simp only [setOf_emp]
  rw [hv]
  clear h1 h2 hv
  go_enter Tryz.func111,Tryz.ntmps111
  go_wp2_with fail
  go_returns
  exact ⟨rfl,by go_grown⟩
def spcS : ByteArray := ⟨#[92,46,91,93,40,41,123,125,124,63,42,43,94,36,45,47]⟩
theorem spcS_bl : bl spcS = spc := by decide
def brkS : ByteArray := ⟨#[93,41,125,123,124,63,94,36]⟩
theorem brkS_bl : bl brkS = brk := by decide
set_option maxRecDepth 100000 in
theorem escaped_any (g : Nat) (s : ByteArray) (p : Nat) (o x : Int) (w : World) (h : AtG w g 114 (rdr s p o 0 x)) (hp : p ≤ s.size) (hm : s.size ≤ 1000) :
  Calls Tryz.prog 112 #[.pointer (some ⟨g,0,none⟩)] w fun e w' => Only (fun k => k = g) w w' ∧ StR s g o x (escF s p) w' ∧ ∃ v : Nat,v < 256 ∧ e = .returned (.int .u8 v) ∧ ∀ a q,escF s p = .ok a q → v = a := by
 by_cases hc : ch s p < 0
 ·have HN := Lib.hid (next_no g s p o x w h hp hc)
  have he : escF s p = .no 2 p := by
   unfold escF
   rw [if_neg (by omega),if_neg (by omega),if_neg (by unfold spc;simp only [List.mem_cons,List.not_mem_nil,or_false];omega)]
  rw [he]
  clear he h hc hp
  go_enter Tryz.func112,Tryz.ntmps112
  go_wp2_with fail
  refine (HN.out).mono ?_
  rintro e9 w1 ⟨rfl,hA,hO⟩
  have HA := Lib.hid hA;have HO := Lib.hid hO;clear hA hO
  have z1 : w1.cell? ⟨g,1,none⟩ = some (.int .i64 (p : Int)) := HA.out.cell 1 _ rfl
  go_wp2_with fail
  refine (in_any (-1) spcS _ (by decide)).mono ?_
  rintro e9 w9 ⟨b,rfl,hb,rfl⟩
  obtain rfl : b = false := by
   rw [← Bool.not_eq_true,hb,inT_bl,spcS_bl];decide
  clear hb
  go_wp2_with fail
  refine (fail_no g s _ o 2 _ _ 2 _ HA.out (by decide)).mono ?_
  rintro e9 w9 ⟨rfl,rfl⟩
  go_wp2_with fail
  go_returns
  exact ⟨HO.out,⟨_,HA.out⟩,0,by decide,rfl,fun a q h => by cases h⟩
 ·have HN := Lib.hid (next_ch g s p o x w h (by omega) (by omega))
  have hp1 := ch_ge (s := s) (p := p) (by omega)
  have hl := ch_lt s p
  have he : ∀ c,ch s p = c → escF s p = if c = 110 then .ok 10 (p + 1) else if c = 116 then .ok 9 (p + 1) else if c ∈ spc then .ok c.toNat (p + 1) else .no 2 p := fun c hc => by unfold escF;rw [hc]
  generalize ch s p = c at *
  have he := he c rfl
  rw [he]
  obtain ⟨pi,hpi⟩ : ∃ pi : Int,pi = ((p + 1 : Nat) : Int) := ⟨_,rfl⟩
  rw [← hpi] at HN
  have hpi2 : pi - 1 = (p : Int) := by omega
  have hpi3 : 0 ≤ pi - 1 := by omega
  have hpi4 : pi < 10000 := by omega
  have hw8 : IntKind.u8.wrap c = c := by rw [IntKind.wrap_u8];omega
  have hn8 : ((c.toNat : Nat) : Int) = c := by omega
  clear he h
  by_cases h1 : c = 110
  ·subst h1
   rw [if_pos rfl]
   go_enter Tryz.func112,Tryz.ntmps112
   go_wp2_with fail
   refine (HN.out).mono ?_
   rintro e9 w1 ⟨rfl,hA,hO⟩
   have HA := Lib.hid hA;have HO := Lib.hid hO;clear hA hO
   go_wp2_with fail
   go_returns
   exact ⟨HO.out,by show AtG _ g _ (rdr s ((p + 1 : Nat) : Int) o 0 x);rw [← hpi];exact HA.out,10,by decide,rfl,fun a q h => by injection h⟩
  rw [if_neg h1]
  have e1 : (c == 110) = false := by rw [beq_eq_false_iff_ne];exact h1
  clear h1
  by_cases h2 : c = 116
  ·subst h2
   rw [if_pos rfl]
   go_enter Tryz.func112,Tryz.ntmps112
   go_wp2_with fail
   refine (HN.out).mono ?_
   rintro e9 w1 ⟨rfl,hA,hO⟩
   have HA := Lib.hid hA;have HO := Lib.hid hO;clear hA hO
   go_wp2_with fail
   go_returns
   exact ⟨HO.out,by show AtG _ g _ (rdr s ((p + 1 : Nat) : Int) o 0 x);rw [← hpi];exact HA.out,9,by decide,rfl,fun a q h => by injection h⟩
  rw [if_neg h2]
  have e2 : (c == 116) = false := by rw [beq_eq_false_iff_ne];exact h2
  clear h2
  have HI := Lib.hid (fun w => in_any c spcS w (by decide))
  by_cases h3 : c ∈ spc
  ·rw [if_pos h3]
   have HI : Hid (∀ w,Calls Tryz.prog 113 #[.int .i64 c,.string spcS] w fun e w' => e = .returned (.bool true) ∧ w' = w) := Lib.hid (fun w => (HI.out w).mono (by
    rintro e w' ⟨b,rfl,hb,rfl⟩
    obtain rfl : b = true := by rw [hb,inT_bl,spcS_bl];exact h3
    exact ⟨rfl,rfl⟩))
   clear h3
   go_enter Tryz.func112,Tryz.ntmps112
   go_wp2_with fail
   refine (HN.out).mono ?_
   rintro e9 w1 ⟨rfl,hA,hO⟩
   have HA := Lib.hid hA;have HO := Lib.hid hO;clear hA hO
   go_wp2_with fail
   refine (HI.out _).mono ?_
   rintro e9 w9 ⟨rfl,hw9⟩;subst hw9
   go_wp2_with fail
   go_returns
   exact ⟨HO.out,by show AtG _ g _ (rdr s ((p + 1 : Nat) : Int) o 0 x);rw [← hpi];exact HA.out,c.toNat,by omega,by simp [hw8,hn8],fun a q h => by injection h⟩
  ·rw [if_neg h3]
   have HI : Hid (∀ w,Calls Tryz.prog 113 #[.int .i64 c,.string spcS] w fun e w' => e = .returned (.bool false) ∧ w' = w) := Lib.hid (fun w => (HI.out w).mono (by
    rintro e w' ⟨b,rfl,hb,rfl⟩
    obtain rfl : b = false := by rw [← Bool.not_eq_true,hb,inT_bl,spcS_bl];exact h3
    exact ⟨rfl,rfl⟩))
   clear h3
   go_enter Tryz.func112,Tryz.ntmps112
   go_wp2_with fail
   refine (HN.out).mono ?_
   rintro e9 w1 ⟨rfl,hA,hO⟩
   have HA := Lib.hid hA;have HO := Lib.hid hO;clear hA hO
   have z1 : w1.cell? ⟨g,1,none⟩ = some (.int .i64 pi) := HA.out.cell 1 _ rfl
   go_wp2_with fail
   refine (HI.out _).mono ?_
   rintro e9 w9 ⟨rfl,hw9⟩;subst hw9
   go_wp2_with fail
   refine (fail_yes g s _ o x _ 2 _ HA.out).mono ?_
   rintro e9 w2 ⟨rfl,hA2,hw⟩
   have HA2 := Lib.hid hA2
   have HO2 : Hid (Only (fun k => k = g) w w2) := Lib.hid (HO.out.trans (by rw [hw];exact (Only.set (S := fun k => k = g) _ _ _ _ rfl).trans (Only.set (S := fun k => k = g) _ _ _ _ rfl) (fun k hk => .inl hk)) (fun k hk => .inl hk))
   clear hA2 hw
   go_wp2_with fail
   go_returns
   exact ⟨HO2.out,⟨_,HA2.out⟩,0,by decide,rfl,fun a q h => by cases h⟩
set_option maxRecDepth 100000 in
theorem member_any (g : Nat) (s : ByteArray) (p : Nat) (o x : Int) (w : World) (h : AtG w g 114 (rdr s p o 0 x)) (hp : p ≤ s.size) (hm : s.size ≤ 1000) :
  Calls Tryz.prog 134 #[.pointer (some ⟨g,0,none⟩)] w fun e w' => Only (fun k => k = g) w w' ∧ StR s g o x (memberF s p) w' ∧ ∃ v : Nat,v < 256 ∧ e = .returned (.int .u8 v) ∧ ∀ a q,memberF s p = .ok a q → v = a := by
 by_cases hc : ch s p < 0
 ·have HN := Lib.hid (next_no g s p o x w h hp hc)
  have he : memberF s p = .no 2 p := by unfold memberF;rw [if_pos hc]
  rw [he]
  clear he h hc hp
  go_enter Tryz.func134,Tryz.ntmps134
  go_wp2_with fail
  refine (HN.out).mono ?_
  rintro e9 w1 ⟨rfl,hA,hO⟩
  have HA := Lib.hid hA;have HO := Lib.hid hO;clear hA hO
  go_wp2_with fail
  go_returns
  exact ⟨HO.out,⟨_,HA.out⟩,0,by decide,rfl,fun a q h => by cases h⟩
 ·have HN := Lib.hid (next_ch g s p o x w h (by omega) (by omega))
  have hp1 := ch_ge (s := s) (p := p) (by omega)
  have hl := ch_lt s p
  have he : ∀ c,ch s p = c → memberF s p = if c < 0 then .no 2 p else if c = 93 then .no 2 p else if c = 92 then escF s (p + 1) else .ok c.toNat (p + 1) := fun c hc => by unfold memberF;rw [hc]
  generalize ch s p = c at *
  have he := he c rfl
  rw [he,if_neg hc]
  have HE := fun w h => Lib.hid (escaped_any g s (p + 1) o x w h hp1 hm)
  obtain ⟨pi,hpi⟩ : ∃ pi : Int,pi = ((p + 1 : Nat) : Int) := ⟨_,rfl⟩
  rw [← hpi] at HN HE
  have hpi2 : pi - 1 = (p : Int) := by omega
  have hpi3 : 0 ≤ pi - 1 := by omega
  have hpi4 : pi < 10000 := by omega
  have hw8 : IntKind.u8.wrap c = c := by rw [IntKind.wrap_u8];omega
  have hn8 : ((c.toNat : Nat) : Int) = c := by omega
  clear he h
  by_cases h1 : c = 93
  ·subst h1
   rw [if_pos rfl]
   go_enter Tryz.func134,Tryz.ntmps134
   go_wp2_with fail
   refine (HN.out).mono ?_
   rintro e9 w1 ⟨rfl,hA,hO⟩
   have HA := Lib.hid hA;have HO := Lib.hid hO;clear hA hO
   have z1 : w1.cell? ⟨g,1,none⟩ = some (.int .i64 pi) := HA.out.cell 1 _ rfl
   go_wp2_with fail
   refine (fail_yes g s _ o x _ 2 _ HA.out).mono ?_
   rintro e9 w2 ⟨rfl,hA2,hw⟩
   have HA2 := Lib.hid hA2
   have HO2 : Hid (Only (fun k => k = g) w w2) := Lib.hid (HO.out.trans (by rw [hw];exact (Only.set (S := fun k => k = g) _ _ _ _ rfl).trans (Only.set (S := fun k => k = g) _ _ _ _ rfl) (fun k hk => .inl hk)) (fun k hk => .inl hk))
   clear hA2 hw
   go_wp2_with fail
   go_returns
   exact ⟨HO2.out,⟨_,HA2.out⟩,93,by decide,rfl,fun a q h => by cases h⟩
  rw [if_neg h1]
  have e1 : (c == 93) = false := by rw [beq_eq_false_iff_ne];exact h1
  clear h1
  by_cases h2 : c = 92
  ·subst h2
   rw [if_pos rfl]
   go_enter Tryz.func134,Tryz.ntmps134
   go_wp2_with fail
   refine (HN.out).mono ?_
   rintro e9 w1 ⟨rfl,hA,hO⟩
   have HA := Lib.hid hA;have HO := Lib.hid hO;clear hA hO
   go_wp2_with fail
   refine ((HE _ HA.out).out).mono ?_
   rintro e9 w2 ⟨hO2,hS,v,hv,rfl,hq⟩
   have HO2 := Lib.hid (HO.out.trans hO2 (fun k hk => .inl hk))
   have HS := Lib.hid hS;have HV := Lib.hid hv;have HQ := Lib.hid hq
   clear hO2 hS hv hq
   go_wp2_with fail
   go_returns
   exact ⟨HO2.out,HS.out,v,HV.out,rfl,HQ.out⟩
  ·rw [if_neg h2]
   have e2 : (c == 92) = false := by rw [beq_eq_false_iff_ne];exact h2
   have hmx : max c 0 = c := by omega
   clear h2
   go_enter Tryz.func134,Tryz.ntmps134
   go_wp2_with fail
   refine (HN.out).mono ?_
   rintro e9 w1 ⟨rfl,hA,hO⟩
   have HA := Lib.hid hA;have HO := Lib.hid hO;clear hA hO
   go_wp2_with fail
   go_returns
   exact ⟨HO.out,by show AtG _ g _ (rdr s ((p + 1 : Nat) : Int) o 0 x);rw [← hpi];exact HA.out,c.toNat,by omega,by simp [hw8,hn8,hmx],fun a q h => by injection h⟩
end Go.Proofs.YtgjcibhhffkemaaGreatDoor
