/- Own texts, pruned and joined by a program (prune.py). -/
import Ieee.Word
import Ieee.Arith
import Derived.Test.YtgjcibhhffkemaaGreatDoorProg
import Derived.Below
import Derived.WalkKit
import Derived.WalkSmall
import Derived.KernelRfl
import Derived.LaidEql
import Derived.WideLaws
import Derived.Lib.Hide
import Derived.Outline
import Derived.Handy
import Derived.Deep.QuietTactic
import Derived.BigQuiet
import Derived.OwnWalk
import Derived.WalkLawsBesides
import Derived.WalkSpells
import Derived.RegionTactic
import Derived.ChangeAlike
import Derived.BigRegion
import Derived.Deep.RegionWith
import Derived.Deep.RegionHeld3
import Derived.Deep.DeepCutAuto
import Derived.Laws.FloatArith
import Derived.Laws.Cover2
import Derived.Laws.BitsAllLaws
import Derived.Laws.AppendOwn
import Derived.Laws.AppendOwnNone
import Derived.Maps.AppendAt
import Derived.Deep.RegionLaw
import Derived.Orders
import Derived.Lib.SlBytesConst
import Derived.OpenShut
import Derived.Laws.MakeOwn
set_option linter.unusedVariables false
set_option linter.unusedSimpArgs false
namespace Go.Proofs.YtgjcibhhffkemaaGreatDoor
namespace Fl
open Ieee
def V (r : Nat) : Nat := if r < 4503599627370496 then r else (4503599627370496 + r % 4503599627370496) * 2 ^ (r / 4503599627370496 - 1)
theorem V_mono {r s : Nat} (h : r < s) : V r < V s := by
  unfold V
  by_cases hr : r < 4503599627370496
  · rw [if_pos hr]
    by_cases hs : s < 4503599627370496
    · rw [if_pos hs]; exact h
    · rw [if_neg hs]
      have : 0 < 2 ^ (s / 4503599627370496 - 1) := Nat.two_pow_pos _
      have := Nat.le_mul_of_pos_right (4503599627370496 + s % 4503599627370496) this
      omega
  · rw [if_neg hr, if_neg (by omega)]
    generalize ha : r / 4503599627370496 = a
    generalize hb : s / 4503599627370496 = b
    generalize hp : r % 4503599627370496 = p
    generalize hq : s % 4503599627370496 = q
    have hpl : p < 4503599627370496 := hp ▸ Nat.mod_lt _ (by decide)
    have hab : a ≤ b := by rw [← ha, ← hb]; exact Nat.div_le_div_right (by omega)
    have ha1 : 1 ≤ a := by omega
    rcases Nat.lt_or_eq_of_le hab with hlt | heq
    · have h1 : (4503599627370496 + p) * 2 ^ (a - 1) < 9007199254740992 * 2 ^ (a - 1) := Nat.mul_lt_mul_of_pos_right (by omega) (Nat.two_pow_pos _)
      have h2 : 9007199254740992 * 2 ^ (a - 1) = 4503599627370496 * 2 ^ a := by
        have : 2 ^ a = 2 ^ (a - 1) * 2 := by rw [← Nat.pow_succ]; congr 1; omega
        rw [this]; omega
      have h3 : 2 ^ a ≤ 2 ^ (b - 1) := Nat.pow_le_pow_right (by decide) (by omega)
      have h4 : 4503599627370496 * 2 ^ a ≤ (4503599627370496 + q) * 2 ^ (b - 1) := Nat.mul_le_mul (by omega) h3
      omega
    · subst heq
      have hpq : p < q := by omega
      exact Nat.mul_lt_mul_of_pos_right (by omega) (Nat.two_pow_pos _)
theorem V_lt_iff (r s : Nat) : V r < V s ↔ r < s := by
  constructor
  · intro h
    rcases Nat.lt_trichotomy r s with h1 | h1 | h1
    · exact h1
    · subst h1; omega
    · have := V_mono h1; omega
  · exact V_mono
theorem V_zero : V 0 = 0 := rfl
theorem read_small (x : Nat) (h : x % 9223372036854775808 < 9218868437227405312) : ∃ m p, double.read x = .number (x / 9223372036854775808 % 2 == 1) m (-1074 + (p : Nat)) ∧ m * 2 ^ p = V (x % 9223372036854775808) := by
  have e1 : double.signWeight = 9223372036854775808 := rfl
  have e2 : double.binade = 4503599627370496 := rfl
  have e3 : double.infRung = 9218868437227405312 := rfl
  have e4 : double.leastPlace = -1074 := rfl
  unfold Format.read
  rw [e1, e2, e3, e4]
  simp only
  unfold V
  by_cases hs : x % 9223372036854775808 < 4503599627370496
  · rw [if_pos hs, if_pos hs]; exact ⟨_, 0, rfl, by simp⟩
  · rw [if_neg hs, if_neg hs, if_pos h]; exact ⟨_, _, rfl, rfl⟩
theorem read_inf (x : Nat) (h : x % 9223372036854775808 = 9218868437227405312) : double.read x = .infinity (x / 9223372036854775808 % 2 == 1) := by
  unfold Format.read
  simp only [show double.signWeight = 9223372036854775808 from rfl, show double.binade = 4503599627370496 from rfl, show double.infRung = 9218868437227405312 from rfl]
  rw [if_neg (by omega), if_neg (by omega), if_pos h]
theorem read_nan (x : Nat) (h : 9218868437227405312 < x % 9223372036854775808) : ∃ s t, double.read x = .nan s t := by
  unfold Format.read
  simp only [show double.signWeight = 9223372036854775808 from rfl, show double.binade = 4503599627370496 from rfl, show double.infRung = 9218868437227405312 from rfl]
  rw [if_neg (by omega), if_neg (by omega), if_neg (by omega)]
  exact ⟨_, _, rfl⟩
def rk (x : Nat) : Int := if 9223372036854775808 ≤ x then -((x : Int) - 9223372036854775808) else x
def some' (x : Nat) : Bool := decide (x % 9223372036854775808 ≤ 9218868437227405312)
theorem shl_eq (m k : Nat) : m <<< k = m * 2 ^ k := Nat.shiftLeft_eq m k
theorem compare_int (a b : Int) : compare a b = if a < b then .lt else if a = b then .eq else .gt := by
  show compareOfLessAndEq a b = _
  unfold compareOfLessAndEq
  rfl
theorem cmp_scale (a b : Int) (k : Int) (hk : 0 < k) : compare (a * k) (b * k) = compare a b := by
  rw [compare_int, compare_int]
  by_cases h1 : a < b
  · rw [if_pos h1, if_pos (Int.mul_lt_mul_of_pos_right h1 hk)]
  · rw [if_neg h1]
    by_cases h2 : a = b
    · subst h2; rw [if_neg (by omega), if_pos rfl, if_pos rfl]
    · have h3 : b < a := by omega
      have h4 := Int.mul_lt_mul_of_pos_right h3 hk
      rw [if_neg (by omega), if_neg h2, if_neg (by omega)]
def sg (s : Bool) (a : Nat) : Int := if s then -(a : Int) else a
theorem V_eq_iff (r s : Nat) : V r = V s ↔ r = s := by
  constructor
  · intro h
    rcases Nat.lt_trichotomy r s with h1 | h1 | h1
    · have := V_mono h1; omega
    · exact h1
    · have := V_mono h1; omega
  · rintro rfl; rfl
theorem cmp_V (s t : Bool) (r q : Nat) : compare (sg s (V r)) (sg t (V q)) = compare (sg s r) (sg t q) := by
  rw [compare_int, compare_int]
  have h1 := V_lt_iff r q
  have h2 := V_lt_iff q r
  have h3 := V_eq_iff r 0
  have h4 := V_eq_iff q 0
  have h5 := V_eq_iff r q
  rw [V_zero] at h3 h4
  unfold sg
  generalize V r = a at *
  generalize V q = b at *
  have e1 : ((if s = true then -(a : Int) else a) < (if t = true then -(b : Int) else b)) ↔ ((if s = true then -(r : Int) else r) < (if t = true then -(q : Int) else q)) := by
    cases s <;> cases t <;> simp <;> omega
  have e2 : ((if s = true then -(a : Int) else a) = (if t = true then -(b : Int) else b)) ↔ ((if s = true then -(r : Int) else r) = (if t = true then -(q : Int) else q)) := by
    cases s <;> cases t <;> simp <;> omega
  simp only [e1, e2]
theorem rk_sg (x : Nat) (hx : x < 18446744073709551616) : rk x = sg (x / 9223372036854775808 % 2 == 1) (x % 9223372036854775808) := by
  unfold rk sg
  by_cases h : 9223372036854775808 ≤ x
  · have h1 : (x / 9223372036854775808 % 2 == 1) = true := by rw [beq_iff_eq]; omega
    rw [if_pos h, h1, if_pos rfl]; omega
  · have h1 : (x / 9223372036854775808 % 2 == 1) = false := by rw [beq_eq_false_iff_ne]; omega
    rw [if_neg h, h1]; simp; omega
theorem signed_scale (s : Bool) (m k l p : Nat) (h : k + l = p) : signed s m k * ((2 ^ l : Nat) : Int) = sg s (m * 2 ^ p) := by
  have e : (m <<< k) * 2 ^ l = m * 2 ^ p := by rw [shl_eq, Nat.mul_assoc, ← Nat.pow_add, h]
  unfold signed sg
  cases s
  · simp only [Bool.false_eq_true, if_false]; exact_mod_cast e
  · simp only [if_true]; rw [Int.neg_mul]; congr 1; exact_mod_cast e
theorem order_numbers (s t : Bool) (m n p q : Nat) : Datum.order (.number s m (-1074 + (p : Int))) (.number t n (-1074 + (q : Int))) = some (compare (sg s (m * 2 ^ p)) (sg t (n * 2 ^ q))) := by
  show some (compare (signed s m _) (signed t n _)) = _
  congr 1
  have e1 : ((-1074 + (p : Int)) - min (-1074 + (p : Int)) (-1074 + (q : Int))).toNat = p - min p q := by omega
  have e2 : ((-1074 + (q : Int)) - min (-1074 + (p : Int)) (-1074 + (q : Int))).toNat = q - min p q := by omega
  rw [e1, e2, ← signed_scale s m (p - min p q) (min p q) p (by omega), ← signed_scale t n (q - min p q) (min p q) q (by omega)]
  rw [cmp_scale _ _ _ (by exact_mod_cast Nat.two_pow_pos _)]
theorem order_rank (x y : Nat) (hx : x < 18446744073709551616) (hy : y < 18446744073709551616) : double.order x y = if some' x && some' y then some (compare (rk x) (rk y)) else none := by
  unfold Format.order
  rw [rk_sg x hx, rk_sg y hy]
  unfold some'
  rcases Nat.lt_trichotomy (x % 9223372036854775808) 9218868437227405312 with h1 | h1 | h1
  · obtain ⟨m, p, e1, v1⟩ := read_small x h1
    rw [e1]
    rcases Nat.lt_trichotomy (y % 9223372036854775808) 9218868437227405312 with h2 | h2 | h2
    · obtain ⟨n, q, e2, v2⟩ := read_small y h2
      rw [e2, order_numbers, v1, v2, cmp_V, if_pos (by simp; omega)]
    · rw [read_inf y h2, if_pos (by simp; omega), h2]
      generalize (x / 9223372036854775808 % 2 == 1) = s
      generalize (y / 9223372036854775808 % 2 == 1) = t
      rw [compare_int]
      unfold sg
      cases t
      · show some Ordering.lt = _
        rw [if_pos (by cases s <;> simp <;> omega)]
      · show some Ordering.gt = _
        rw [if_neg (by cases s <;> simp <;> omega), if_neg (by cases s <;> simp <;> omega)]
    · obtain ⟨t, f, e2⟩ := read_nan y h2
      rw [e2, if_neg (by simp; omega)]; rfl
  · rw [read_inf x h1]
    rcases Nat.lt_trichotomy (y % 9223372036854775808) 9218868437227405312 with h2 | h2 | h2
    · obtain ⟨n, q, e2, v2⟩ := read_small y h2
      rw [e2, if_pos (by simp; omega), h1]
      generalize (x / 9223372036854775808 % 2 == 1) = s
      generalize (y / 9223372036854775808 % 2 == 1) = t
      rw [compare_int]
      unfold sg
      cases s
      · show some Ordering.gt = _
        rw [if_neg (by cases t <;> simp <;> omega), if_neg (by cases t <;> simp <;> omega)]
      · show some Ordering.lt = _
        rw [if_pos (by cases t <;> simp <;> omega)]
    · rw [read_inf y h2, if_pos (by simp; omega), h1, h2]
      generalize (x / 9223372036854775808 % 2 == 1) = s
      generalize (y / 9223372036854775808 % 2 == 1) = t
      rw [compare_int]
      cases s <;> cases t <;> rfl
    · obtain ⟨t, f, e2⟩ := read_nan y h2
      rw [e2, if_neg (by simp; omega)]; rfl
  · obtain ⟨s, f, e1⟩ := read_nan x h1
    rw [e1, if_neg (by simp; omega)]; rfl
def wordN (n : Nat) : Nat := double.nearest false n 0
theorem pow_le_log {n : Nat} (hn : n ≠ 0) : 2 ^ n.log2 ≤ n ∧ n < 2 ^ (n.log2 + 1) := ⟨Nat.log2_self_le hn, Nat.lt_log2_self⟩
theorem log2_le {n k : Nat} (hn : n ≠ 0) (h : n < 2 ^ (k + 1)) : n.log2 ≤ k := by
  have h1 := (pow_le_log hn).1
  by_cases hk : n.log2 ≤ k
  · exact hk
  · exfalso
    have : 2 ^ (k + 1) ≤ 2 ^ n.log2 := Nat.pow_le_pow_right (by decide) (by omega)
    omega
theorem cut_zero (way : Toward) (neg : Bool) (n : Nat) : way.cut neg n 0 = n := by
  unfold Toward.cut
  simp only [Nat.zero_min, Nat.shiftLeft_zero, Nat.div_one, Nat.mod_one]
  cases way <;> simp
theorem wordN_eq (n : Nat) (h0 : 0 < n) (h1 : n < 9007199254740992) : wordN n = (1022 + n.log2) * 4503599627370496 + n * 2 ^ (52 - n.log2) := by
  have hl : n.log2 ≤ 52 := log2_le (by omega) (by simpa using h1)
  unfold wordN Format.nearest
  rw [if_neg (by omega)]
  have e1 : max ((0 : Int) + (n.log2 : Int) - (double.fractionBits : Int)) double.leastPlace = (n.log2 : Int) - 52 := by
    show max ((0 : Int) + (n.log2 : Int) - 52) (-1074) = _
    omega
  simp only [e1]
  have e2 : ((0 : Int) - ((n.log2 : Int) - 52)).toNat = 52 - n.log2 := by omega
  have e3 : ((n.log2 : Int) - 52 - 0).toNat = 0 := by omega
  have e4 : ((n.log2 : Int) - 52 - double.leastPlace).toNat = 1022 + n.log2 := by
    show ((n.log2 : Int) - 52 - (-1074)).toNat = _
    omega
  rw [e2, e3, e4, cut_zero, shl_eq]
  have hm : n * 2 ^ (52 - n.log2) < 9007199254740992 := by
    have := (pow_le_log (n := n) (by omega)).2
    calc n * 2 ^ (52 - n.log2) < 2 ^ (n.log2 + 1) * 2 ^ (52 - n.log2) := Nat.mul_lt_mul_of_pos_right this (Nat.two_pow_pos _)
      _ = 2 ^ 53 := by rw [← Nat.pow_add]; congr 1; omega
      _ = 9007199254740992 := by decide
  show double.word false (min ((1022 + n.log2) * 4503599627370496 + n * 2 ^ (52 - n.log2)) 9218868437227405312) = _
  rw [Nat.min_eq_left (by omega)]
  rfl
theorem wordN_top : wordN 9007199254740992 = 4845873199050653696 := by decide +kernel
theorem wordN_Vu (n u : Nat) (hu : u = 1074) (h1 : n ≤ 9007199254740992) : V (wordN n) = n * 2 ^ u ∧ wordN n < 9218868437227405312 := by
  rcases Nat.eq_zero_or_pos n with h0 | h0
  · subst h0
    have e0 : wordN 0 = 0 := by decide +kernel
    rw [e0]
    refine ⟨?_, by decide⟩
    rw [Nat.zero_mul]; rfl
  rcases Nat.lt_or_eq_of_le h1 with h1 | h1
  · have hl : n.log2 ≤ 52 := log2_le (by omega) (by simpa using h1)
    have hp := pow_le_log (n := n) (by omega)
    have hm : n * 2 ^ (52 - n.log2) < 9007199254740992 := by
      calc n * 2 ^ (52 - n.log2) < 2 ^ (n.log2 + 1) * 2 ^ (52 - n.log2) := Nat.mul_lt_mul_of_pos_right hp.2 (Nat.two_pow_pos _)
        _ = 2 ^ 53 := by rw [← Nat.pow_add]; congr 1; omega
        _ = 9007199254740992 := by decide
    have hm2 : 4503599627370496 ≤ n * 2 ^ (52 - n.log2) := by
      calc 4503599627370496 = 2 ^ 52 := by decide
        _ = 2 ^ n.log2 * 2 ^ (52 - n.log2) := by rw [← Nat.pow_add]; congr 1; omega
        _ ≤ n * 2 ^ (52 - n.log2) := Nat.mul_le_mul_right _ hp.1
    have hw := wordN_eq n h0 h1
    have hexp : n * 2 ^ (52 - n.log2) * 2 ^ (1022 + n.log2) = n * 2 ^ u := by
      rw [Nat.mul_assoc, ← Nat.pow_add]; congr 2; omega
    generalize n * 2 ^ (52 - n.log2) = m at hw hm hm2 hexp
    rw [hw]
    refine ⟨?_, by omega⟩
    have e1 : ((1022 + n.log2) * 4503599627370496 + m) / 4503599627370496 = 1023 + n.log2 := by omega
    have e2 : ((1022 + n.log2) * 4503599627370496 + m) % 4503599627370496 = m - 4503599627370496 := by omega
    generalize (1022 + n.log2) * 4503599627370496 + m = r at e1 e2
    unfold V
    rw [if_neg (by omega)]
    rw [e1, e2, show 4503599627370496 + (m - 4503599627370496) = m from by omega, show 1023 + n.log2 - 1 = 1022 + n.log2 from by omega, hexp]
  · have hw := wordN_top
    rw [h1, hw]
    refine ⟨?_, by decide⟩
    have e1 : 4845873199050653696 / 4503599627370496 = 1076 := by decide
    have e2 : 4845873199050653696 % 4503599627370496 = 0 := by decide
    generalize (4845873199050653696 : Nat) = r at e1 e2
    unfold V
    rw [if_neg (by omega), e1, e2, show 1076 - 1 = u + 1 from by omega, Nat.pow_succ, Nat.add_zero]
    generalize 2 ^ u = q
    omega
theorem wordN_V (n : Nat) (h1 : n ≤ 9007199254740992) : V (wordN n) = n * 2 ^ 1074 ∧ wordN n < 9218868437227405312 := wordN_Vu n 1074 rfl h1
end Fl
end Go.Proofs.YtgjcibhhffkemaaGreatDoor
namespace Go.Proofs.YtgjcibhhffkemaaGreatDoor
open Go.RowKit
section
variable {P : Program} (w : World)
end
def AtG (w : World) (g T : Nat) (cs : Array Value) : Prop := w.heap[g]? = some (.cells cs T (0, 0))
namespace AtG
variable {w w' : World} {g T : Nat} {cs : Array Value}
theorem lt (h : AtG w g T cs) : g < w.heap.size := (Array.getElem?_eq_some_iff.1 h).1
theorem cell (h : AtG w g T cs) (i : Nat) (v : Value) (hi : cs[i]? = some v) : w.cell? ⟨g, i, none⟩ = some v := by
  unfold AtG at h; simp [World.cell?, h, hi]
theorem frozen (h : AtG w g T cs) (i : Nat) : w.frozen? ⟨g, i, none⟩ = false := by
  unfold AtG at h; simp [World.frozen?, h]
theorem drew (h : AtG w g T cs) : AtG w.drew g T cs := h
theorem alloc (h : AtG w g T cs) (o : Obj) : AtG (w.alloc o) g T cs := by
  have := h.lt; unfold AtG at *; rw [Below.heap_alloc w o g this]; exact h
theorem new (w : World) (T : Nat) (cs : Array Value) : AtG (w.alloc (.cells cs T)) w.heap.size T cs := heap_alloc_new w _
theorem set (h : AtG w g T cs) (i : Nat) (v : Value) : AtG (w.setCell ⟨g, i, none⟩ v) g T (cs.setIfInBounds i v) := by
  have hl := h.lt
  unfold AtG at *
  simp [World.setCell, Array.getElem?_modify, h]
theorem far (h : AtG w g T cs) {p : Addr} (hp : g ≠ p.block) (v : Value) : AtG (w.setCell p v) g T cs := by
  unfold AtG at *; rw [Below.heap_setCell w p v g hp]; exact h
theorem below (h : AtG w g T cs) (hb : Below w.heap.size w w') : AtG w' g T cs := (hb.block g h.lt).trans h
theorem grown (h : AtG w g T cs) {row : Option Nat} (hg : w.grownBy w' row) (hr : row ≠ some g) : AtG w' g T cs := (hg.block g h.lt (fun e => hr e.symm)).trans h
end AtG
theorem gb_refl (w : World) (r : Option Nat) : w.grownBy w r := ⟨rfl, rfl, rfl, Nat.le_refl _, fun _ _ _ => rfl⟩
end Go.Proofs.YtgjcibhhffkemaaGreatDoor
namespace Go.Proofs.YtgjcibhhffkemaaGreatDoor
open Go.RowKit
theorem AtG.gb {w w' : World} {g k T : Nat} {cs : Array Value} (h : AtG w g T cs) (hg : w.grownBy w' (some k)) (hr : g ≠ k) : AtG w' g T cs := h.grown hg (fun e => hr (by injection e with e; exact e.symm))
end Go.Proofs.YtgjcibhhffkemaaGreatDoor
namespace Go.Proofs.YtgjcibhhffkemaaGreatDoor
open Go.RowKit Fl
theorem frombits_run (x : Int) (w : World) : (callFunc 54 #[.int .u64 x]).run Tryz.prog w = .ok (.value (.float .f64 x.toNat)) w := by kernel_rfl
theorem tobits_run (x : Nat) (w : World) : (callFunc 87 #[.float .f64 x]).run Tryz.prog w = .ok (.value (.int .u64 x)) w := by kernel_rfl
end Go.Proofs.YtgjcibhhffkemaaGreatDoor
namespace Go.Proofs.YtgjcibhhffkemaaGreatDoor
namespace Fl
open Ieee
theorem cut_low (way : Toward) (hw : way = .down ∨ way = .zero) (m d : Nat) : way.cut false m d = m / 2 ^ d := by
  have e : m / (1 <<< min d (m.log2 + 2)) = m / 2 ^ d := by
    rw [shl_eq, Nat.one_mul]
    by_cases h : d ≤ m.log2 + 2
    · rw [Nat.min_eq_left h]
    · rw [Nat.min_eq_right (by omega)]
      have h1 : m < 2 ^ (m.log2 + 1) := Nat.lt_log2_self
      have h2 : 2 ^ (m.log2 + 1) ≤ 2 ^ (m.log2 + 2) := Nat.pow_le_pow_right (by decide) (by omega)
      have h3 : 2 ^ (m.log2 + 1) ≤ 2 ^ d := Nat.pow_le_pow_right (by decide) (by omega)
      rw [Nat.div_eq_of_lt (by omega), Nat.div_eq_of_lt (by omega)]
  unfold Toward.cut
  rw [← e]
  rcases hw with rfl | rfl <;> rfl
theorem sign_low (x : Nat) (h : x < 9223372036854775808) : (x / 9223372036854775808 % 2 == 1) = false := by rw [beq_eq_false_iff_ne]; omega
theorem integral_pos (way : Toward) (hw : way = .down ∨ way = .zero) (x u : Nat) (hu : u = 1074) (h : x < 9218868437227405312) : (double.read x).integral way = .number false (V x / 2 ^ u) 0 := by
  obtain ⟨m, p, e1, v1⟩ := read_small x (by omega)
  rw [e1, sign_low x (by omega)]
  rw [Nat.mod_eq_of_lt (show x < 9223372036854775808 by omega)] at v1
  show Datum.number false (way.cut false (m <<< (-1074 + (p : Int)).toNat) (-(-1074 + (p : Int))).toNat) 0 = _
  rw [← v1, cut_low way hw]
  congr 1
  by_cases hp : u ≤ p
  · rw [show (-1074 + (p : Int)).toNat = p - u from by omega, show (-(-1074 + (p : Int))).toNat = 0 from by omega, shl_eq, Nat.pow_zero, Nat.div_one]
    rw [show 2 ^ p = 2 ^ (p - u) * 2 ^ u from by rw [← Nat.pow_add]; congr 1; omega, ← Nat.mul_assoc, Nat.mul_div_cancel _ (Nat.two_pow_pos u)]
  · rw [show (-1074 + (p : Int)).toNat = 0 from by omega, show (-(-1074 + (p : Int))).toNat = u - p from by omega, Nat.shiftLeft_zero]
    rw [show 2 ^ u = 2 ^ (u - p) * 2 ^ p from by rw [← Nat.pow_add]; congr 1; omega, Nat.mul_div_mul_right _ _ (Nat.two_pow_pos p)]
def flo (x : Nat) : Nat := V x / 2 ^ 1074
theorem flo_le_iff (n x u : Nat) (hu : u = 1074) (hn : n ≤ 9007199254740992) : n ≤ V x / 2 ^ u ↔ wordN n ≤ x := by
  have h1 := (wordN_Vu n u hu hn).1
  rw [Nat.le_div_iff_mul_le (Nat.two_pow_pos u), ← h1]
  have h2 := V_lt_iff x (wordN n)
  omega
theorem le_flo (n x : Nat) (hn : n ≤ 9007199254740992) : n ≤ flo x ↔ wordN n ≤ x := flo_le_iff n x 1074 rfl hn
theorem wordN_lt_u (u n m : Nat) (hu : u = 1074) (hn : n ≤ 9007199254740992) (hm : m ≤ 9007199254740992) : wordN n < wordN m ↔ n < m := by
  rw [← V_lt_iff, (wordN_Vu n u hu hn).1, (wordN_Vu m u hu hm).1]
  exact Nat.mul_lt_mul_right (Nat.two_pow_pos _)
theorem wordN_lt_iff (n m : Nat) (hn : n ≤ 9007199254740992) (hm : m ≤ 9007199254740992) : wordN n < wordN m ↔ n < m := wordN_lt_u 1074 n m rfl hn hm
theorem flo_wordN (n : Nat) (hn : n < 9007199254740992) : flo (wordN n) = n := by
  have h1 := (le_flo n (wordN n) (by omega)).2 (Nat.le_refl _)
  have h2 := le_flo (n + 1) (wordN n) (by omega)
  have h7 := (wordN_lt_iff n (n + 1) (by omega) (by omega)).2 (by omega)
  by_cases h8 : n + 1 ≤ flo (wordN n)
  · have := h2.1 h8; omega
  · omega
theorem one_word : wordN 1 = 4607182418800017408 := by decide +kernel
theorem most_word : wordN 1024 = 4652218415073722368 := by decide +kernel
def isRate (x : Nat) : Bool := decide (4607182418800017408 ≤ x ∧ x ≤ 4652218415073722368)
theorem flo_bd (x : Nat) (h : isRate x = true) : 1 ≤ flo x ∧ flo x ≤ 1024 := by
  unfold isRate at h
  rw [decide_eq_true_iff] at h
  refine ⟨(le_flo 1 x (by omega)).2 (by rw [one_word]; exact h.1), ?_⟩
  have := le_flo 1025 x (by omega)
  have e : wordN 1024 < wordN 1025 := (wordN_lt_iff 1024 1025 (by omega) (by omega)).2 (by omega)
  rw [most_word] at e
  omega
theorem ord_lt (x y : Nat) (hx : x < 18446744073709551616) (hy : y < 18446744073709551616) : (double.order x y == some .lt) = (some' x && some' y && decide (rk x < rk y)) := by
  rw [order_rank x y hx hy, compare_int]
  cases some' x <;> cases some' y <;> try rfl
  by_cases h1 : rk x < rk y
  · rw [if_pos (show (true && true) = true from rfl), if_pos h1, decide_eq_true h1]; rfl
  · rw [if_pos (show (true && true) = true from rfl), if_neg h1, decide_eq_false h1]; split <;> rfl
theorem ord_gt (x y : Nat) (hx : x < 18446744073709551616) (hy : y < 18446744073709551616) : (double.order x y == some .gt) = (some' x && some' y && decide (rk y < rk x)) := by
  rw [order_rank x y hx hy, compare_int]
  cases some' x <;> cases some' y <;> try rfl
  by_cases h1 : rk x < rk y
  · rw [if_pos (show (true && true) = true from rfl), if_pos h1, decide_eq_false (by omega)]; rfl
  · rw [if_pos (show (true && true) = true from rfl), if_neg h1]
    by_cases h2 : rk x = rk y
    · rw [if_pos h2, decide_eq_false (by omega)]; rfl
    · rw [if_neg h2, decide_eq_true (by omega)]; rfl
theorem ord_eq (x y : Nat) (hx : x < 18446744073709551616) (hy : y < 18446744073709551616) : (double.order x y == some .eq) = (some' x && some' y && decide (rk x = rk y)) := by
  rw [order_rank x y hx hy, compare_int]
  cases some' x <;> cases some' y <;> try rfl
  by_cases h1 : rk x < rk y
  · rw [if_pos (show (true && true) = true from rfl), if_pos h1, decide_eq_false (by omega)]; rfl
  · rw [if_pos (show (true && true) = true from rfl), if_neg h1]
    by_cases h2 : rk x = rk y
    · rw [if_pos h2, decide_eq_true h2]; rfl
    · rw [if_neg h2, decide_eq_false h2]; rfl
theorem ord_self (x : Nat) (hx : x < 18446744073709551616) : (double.order x x != some .eq) = !some' x := by
  show (!(double.order x x == some .eq)) = _
  rw [ord_eq x x hx hx, decide_eq_true rfl, Bool.and_true, Bool.and_self]
def isInf (x : Nat) : Bool := decide (x % 9223372036854775808 = 9218868437227405312)
theorem ord_inf (x : Nat) : (double.order (x % 9223372036854775808) 9218868437227405311 == some .gt) = isInf x := by
  rw [ord_gt _ _ (by omega) (by decide)]
  unfold isInf some' rk
  rw [if_neg (by omega), if_neg (by omega), Bool.eq_iff_iff]
  simp only [Bool.and_eq_true, decide_eq_true_eq]
  omega
theorem rate_test (x : Nat) (hx : x < 18446744073709551616) : (!some' x || isInf x || (double.order x 4607182418800017408 == some .lt) || (double.order x 4652218415073722368 == some .gt)) = !isRate x := by
  rw [ord_lt _ _ hx (by decide), ord_gt _ _ hx (by decide)]
  unfold isInf some' rk isRate
  rw [Bool.eq_iff_iff]
  simp only [Bool.and_eq_true, Bool.or_eq_true, Bool.not_eq_true', decide_eq_true_eq, decide_eq_false_iff_not]
  split <;> simp <;> omega
end Fl
end Go.Proofs.YtgjcibhhffkemaaGreatDoor
namespace Go.Proofs.YtgjcibhhffkemaaGreatDoor
open Go.RowKit Fl
theorem andNot_top (x : Nat) (hx : x < 18446744073709551616) : bits .andNot .u64 (x : Int) 9223372036854775808 = ((x % 9223372036854775808 : Nat) : Int) := by
  have h := u64_andNot_nat x 9223372036854775808 hx (by decide)
  have e : x &&& (18446744073709551615 - 9223372036854775808) = x % 9223372036854775808 := Nat.and_two_pow_sub_one_eq_mod x 63
  rw [e] at h
  exact h
section
attribute [local irreducible] FloatKind.decode
theorem floor_case (x : Nat) (s : Bool) (m : Nat) (i : Int) (hd : FloatKind.f64.decode x = .number s m i) : Extern.MathFloor.toIntegral "math.archFloor" .down #[.float .f64 x] = pure (.float .f64 (FloatKind.f64.encode ((Ieee.Datum.number s m i).integral .down))) := by
  conv => lhs; whnf
  generalize FloatKind.f64.decode x = d at hd ⊢
  subst hd
  rfl
end
theorem archFloor_code (v : Value) (w : World) : (callFunc 76 #[v]).run Tryz.prog w = ((Extern.MathFloor.toIntegral "math.archFloor" .down #[v]) >>= fun v => pure (Next.value v)).run Tryz.prog w := by kernel_rfl
end Go.Proofs.YtgjcibhhffkemaaGreatDoor
namespace Go.Proofs.YtgjcibhhffkemaaGreatDoor
open Go.RowKit Fl
theorem archFloor_run (x : Nat) (h : x < 9218868437227405312) (w : World) : (callFunc 76 #[.float .f64 x]).run Tryz.prog w = .ok (.value (.float .f64 (wordN (flo x)))) w := by
  obtain ⟨m, p, e1, v1⟩ := read_small x (by omega)
  have e2 := integral_pos .down (Or.inl rfl) x 1074 rfl h
  rw [e1] at e2
  rw [archFloor_code, floor_case x _ _ _ e1, e2]
  rfl
theorem toInt_flo (x : Nat) (h : isRate x = true) : floatToIntVal .f64 (wordN (flo x)) .i64 = some ((flo x : Nat) : Int) := by
  have hb := flo_bd x h
  have hw := (wordN_V (flo x) (by omega)).2
  have e2 := integral_pos .zero (Or.inr rfl) (wordN (flo x)) 1074 rfl hw
  have e3 := flo_wordN (flo x) (by omega)
  have e4 : (Ieee.double.read (wordN (flo x))).integral .zero = .number false (flo x) 0 := e2.trans (congrArg (fun n => Ieee.Datum.number false n 0) e3)
  have e5 : (FloatKind.f64.decode (wordN (flo x))).toInt .zero = some ((flo x : Nat) : Int) := by
    show (match (Ieee.double.read (wordN (flo x))).integral .zero with | .number s m _ => some (Ieee.signed s m 0) | _ => none) = _
    rw [e4]
    show some (Ieee.signed false (flo x) 0) = _
    unfold Ieee.signed
    simp
  unfold floatToIntVal
  rw [e5]
  simp [IntKind.min, IntKind.max, IntKind.signed, IntKind.bits]
  omega
theorem isRate_bd (x : Nat) (h : isRate x = true) : x < 9218868437227405312 := by
  unfold isRate at h; rw [decide_eq_true_iff] at h; omega
theorem tests_rate (a : Nat) (hx : a < 18446744073709551616) (h : isRate a = true) : (FloatKind.f64.format.order a a != some .eq) = false ∧ (FloatKind.f64.format.order (a % 9223372036854775808) 9218868437227405311 == some .gt) = false ∧ (FloatKind.f64.format.order a 4607182418800017408 == some .lt) = false ∧ (FloatKind.f64.format.order a 4652218415073722368 == some .gt) = false := by
  have ht := rate_test a hx
  rw [h] at ht
  simp only [Bool.not_true, Bool.or_eq_false_iff] at ht
  exact ⟨(ord_self a hx).trans ht.1.1.1, (ord_inf a).trans ht.1.1.2, ht.1.2, ht.2⟩
theorem tests_none (a : Nat) (hx : a < 18446744073709551616) (h : isRate a = false) : (FloatKind.f64.format.order a a != some .eq) = true ∨ (FloatKind.f64.format.order a a != some .eq) = false ∧ ((FloatKind.f64.format.order (a % 9223372036854775808) 9218868437227405311 == some .gt) = true ∨ (FloatKind.f64.format.order (a % 9223372036854775808) 9218868437227405311 == some .gt) = false ∧ ((FloatKind.f64.format.order a 4607182418800017408 == some .lt) = true ∨ (FloatKind.f64.format.order a 4607182418800017408 == some .lt) = false ∧ (FloatKind.f64.format.order a 4652218415073722368 == some .gt) = true)) := by
  have ht := rate_test a hx
  rw [h] at ht
  have e1 : (FloatKind.f64.format.order a a != some .eq) = !some' a := ord_self a hx
  have e2 : (FloatKind.f64.format.order (a % 9223372036854775808) 9218868437227405311 == some .gt) = isInf a := ord_inf a
  rw [e1, e2]
  generalize (!some' a) = p at ht ⊢
  generalize isInf a = q at ht ⊢
  change (p || q || (FloatKind.f64.format.order a 4607182418800017408 == some .lt) || (FloatKind.f64.format.order a 4652218415073722368 == some .gt)) = true at ht
  generalize (FloatKind.f64.format.order a 4607182418800017408 == some .lt) = r at ht ⊢
  generalize (FloatKind.f64.format.order a 4652218415073722368 == some .gt) = s at ht ⊢
  cases p <;> cases q <;> cases r <;> cases s <;> simp_all
theorem rateOf_any (a : Nat) (w : World) (hx : a < 18446744073709551616) :
    Calls Tryz.prog 36 #[.int .u64 a] w fun e w' => e = .returned (.tuple #[.int .i64 (if isRate a then flo a else 0), if isRate a then .nilIface else .iface 71 (.int .i64 1)]) ∧ w' = w := by
  have hf := frombits_run
  have ht := tobits_run
  have han := andNot_top a hx
  cases hR : isRate a
  · rcases tests_none a hx hR with h1 | ⟨h1, h2 | ⟨h2, h3 | ⟨h3, h4⟩⟩⟩
    all_goals
      go_enter Tryz.func36, Tryz.ntmps36
      go_wp2
      go_returns
      exact ⟨rfl, rfl⟩
  · obtain ⟨h1, h2, h3, h4⟩ := tests_rate a hx hR
    have ha := archFloor_run a (isRate_bd a hR)
    have hc := fun w => run_convert_float_int (P := Tryz.prog) w 120 3 .f64 .i64 _ _ (by rw [Tryz.underlying120]; rfl) Tryz.underlying3 (toInt_flo a hR)
    go_enter Tryz.func36, Tryz.ntmps36
    go_wp2
    go_returns
    exact ⟨rfl, rfl⟩
end Go.Proofs.YtgjcibhhffkemaaGreatDoor
namespace Go.Proofs.YtgjcibhhffkemaaGreatDoor
open Go.RowKit Fl
def cfgV (L Q C : Int) (R : Nat) (M : Int) : Value := .agg #[.int .i64 L, .int .i64 Q, .int .i64 C, .int .u64 (R : Int), .int .u8 M]
def cfgC (L Q C : Int) (R : Nat) (M : Int) : Array Value := #[.int .i64 L, .int .i64 Q, .int .i64 C, .int .u64 (R : Int), .int .u8 M]
def CfgOk (L Q C : Int) (R : Nat) : Prop := 1 ≤ L ∧ L ≤ 32 ∧ isRate R = true ∧ (flo R : Int) ≤ Q ∧ Q ≤ 1024 ∧ 1 ≤ C ∧ C ≤ 1000
def errCode (c : Int) : Value := .iface 71 (.int .i64 c)
theorem cfg_cases (L Q C : Int) (R : Nat) (K : Prop) (h1 : L < 1 → ¬ CfgOk L Q C R → K) (h2 : ¬ L < 1 → 32 < L → ¬ CfgOk L Q C R → K) (h3 : ¬ L < 1 → ¬ 32 < L → isRate R = false → ¬ CfgOk L Q C R → K)
    (h4 : ¬ L < 1 → ¬ 32 < L → isRate R = true → Q < flo R → ¬ CfgOk L Q C R → K) (h5 : ¬ L < 1 → ¬ 32 < L → isRate R = true → ¬ Q < flo R → 1024 < Q → ¬ CfgOk L Q C R → K)
    (h6 : ¬ L < 1 → ¬ 32 < L → isRate R = true → ¬ Q < flo R → ¬ 1024 < Q → C < 1 → ¬ CfgOk L Q C R → K) (h7 : ¬ L < 1 → ¬ 32 < L → isRate R = true → ¬ Q < flo R → ¬ 1024 < Q → ¬ C < 1 → 1000 < C → ¬ CfgOk L Q C R → K)
    (h8 : ¬ L < 1 → ¬ 32 < L → isRate R = true → ¬ Q < flo R → ¬ 1024 < Q → ¬ C < 1 → ¬ 1000 < C → CfgOk L Q C R → K) : K := by
  unfold CfgOk at *
  by_cases a1 : L < 1
  · exact h1 a1 (by omega)
  by_cases a2 : 32 < L
  · exact h2 a1 a2 (by omega)
  cases a3 : isRate R
  · exact h3 a1 a2 a3 (by rw [a3]; simp)
  by_cases a4 : Q < flo R
  · exact h4 a1 a2 a3 a4 (by omega)
  by_cases a5 : 1024 < Q
  · exact h5 a1 a2 a3 a4 a5 (by omega)
  by_cases a6 : C < 1
  · exact h6 a1 a2 a3 a4 a5 a6 (by omega)
  by_cases a7 : 1000 < C
  · exact h7 a1 a2 a3 a4 a5 a6 a7 (by omega)
  · exact h8 a1 a2 a3 a4 a5 a6 a7 ⟨by omega, by omega, a3, by omega, by omega, by omega, by omega⟩
theorem flo_small (R : Nat) (h : isRate R = true) : (flo R : Int) ≤ 1024 ∧ 1 ≤ (flo R : Int) := by have := flo_bd R h; omega
set_option maxRecDepth 100000 in
set_option maxHeartbeats 1600000 in
theorem cfgX (L Q C : Int) (R : Nat) (M : Int) (w : World) (hR : R < 18446744073709551616) : Calls Tryz.prog 21 #[cfgV L Q C R M] w fun e w' => Below w.heap.size w w' ∧ ((CfgOk L Q C R ∧ e = .returned (.tuple #[.int .i64 (flo R), .nilIface])) ∨ (¬ CfgOk L Q C R ∧ e = .returned (.tuple #[.int .i64 0, errCode 1]))) := by
  have HR0 := Lib.hid (fun w => rateOf_any R w hR)
  have HB : Hid (Below w.heap.size w (w.alloc (.cells (cfgC L Q C R M) 24))) := Lib.hid ((Below.refl _ _).alloc (Nat.le_refl _) _)
  have hF := flo_small R
  have g1 : ∀ w, (binOp BinOp.neq 28 .nilIface .nilIface).run Tryz.prog w = .ok (.bool false) w := fun w => by rfl
  have g2 : ∀ (w : World) (c : Int), (binOp BinOp.neq 28 (.iface 71 (.int .i64 c)) .nilIface).run Tryz.prog w = .ok (.bool true) w := fun w c => by rfl
  unfold cfgC at HB
  unfold cfgV errCode
  clear hR
  refine cfg_cases L Q C R _ ?_ ?_ ?_ ?_ ?_ ?_ ?_ ?_
  · intro a1 hno
    have HNO := Lib.hid hno
    clear hno hF HR0
    go_enter Tryz.func21, Tryz.ntmps21
    go_wp2_with fail
    go_returns
    exact ⟨HB.out, .inr ⟨HNO.out, rfl⟩⟩
  · intro a1 a2 hno
    have HNO := Lib.hid hno
    clear hno hF HR0
    go_enter Tryz.func21, Tryz.ntmps21
    go_wp2_with fail
    go_returns
    exact ⟨HB.out, .inr ⟨HNO.out, rfl⟩⟩
  · intro a1 a2 a3 hno
    have HNO := Lib.hid hno
    have HR : Hid (∀ w, Calls Tryz.prog 36 #[.int .u64 R] w fun e w' => e = .returned (.tuple #[.int .i64 0, .iface 71 (.int .i64 1)]) ∧ w' = w) := Lib.hid (fun w => by have := HR0.out w; rw [a3] at this; exact this)
    clear hno hF HR0 a3
    go_enter Tryz.func21, Tryz.ntmps21
    go_wp2_with fail
    refine (HR.out _).mono ?_
    rintro e9 w9 ⟨rfl, hw9⟩; subst hw9
    go_wp2_with fail
    go_returns
    exact ⟨HB.out, .inr ⟨HNO.out, rfl⟩⟩
  all_goals
    intro a1 a2 a3
    obtain ⟨f1, f2⟩ := hF a3
    have HR : Hid (∀ w, Calls Tryz.prog 36 #[.int .u64 R] w fun e w' => e = .returned (.tuple #[.int .i64 (flo R : Int), .nilIface]) ∧ w' = w) := Lib.hid (fun w => by have := HR0.out w; rw [a3] at this; exact this)
    clear HR0 hF a3
    generalize (flo R : Int) = k at *
  · intro a4 hno
    have HNO := Lib.hid hno
    clear hno
    go_enter Tryz.func21, Tryz.ntmps21
    go_wp2_with fail
    refine (HR.out _).mono ?_
    rintro e9 w9 ⟨rfl, hw9⟩; subst hw9
    go_wp2_with fail
    go_returns
    exact ⟨HB.out, .inr ⟨HNO.out, rfl⟩⟩
  · intro a4 a5 hno
    have HNO := Lib.hid hno
    clear hno
    go_enter Tryz.func21, Tryz.ntmps21
    go_wp2_with fail
    refine (HR.out _).mono ?_
    rintro e9 w9 ⟨rfl, hw9⟩; subst hw9
    go_wp2_with fail
    go_returns
    exact ⟨HB.out, .inr ⟨HNO.out, rfl⟩⟩
  · intro a4 a5 a6 hno
    have HNO := Lib.hid hno
    clear hno
    go_enter Tryz.func21, Tryz.ntmps21
    go_wp2_with fail
    refine (HR.out _).mono ?_
    rintro e9 w9 ⟨rfl, hw9⟩; subst hw9
    go_wp2_with fail
    go_returns
    exact ⟨HB.out, .inr ⟨HNO.out, rfl⟩⟩
  · intro a4 a5 a6 a7 hno
    have HNO := Lib.hid hno
    clear hno
    go_enter Tryz.func21, Tryz.ntmps21
    go_wp2_with fail
    refine (HR.out _).mono ?_
    rintro e9 w9 ⟨rfl, hw9⟩; subst hw9
    go_wp2_with fail
    go_returns
    exact ⟨HB.out, .inr ⟨HNO.out, rfl⟩⟩
  · intro a4 a5 a6 a7 hno
    have HNO := Lib.hid hno
    clear hno
    go_enter Tryz.func21, Tryz.ntmps21
    go_wp2_with fail
    refine (HR.out _).mono ?_
    rintro e9 w9 ⟨rfl, hw9⟩; subst hw9
    go_wp2_with fail
    go_returns
    exact ⟨HB.out, .inl ⟨HNO.out, rfl⟩⟩
end Go.Proofs.YtgjcibhhffkemaaGreatDoor
namespace Go.Proofs.YtgjcibhhffkemaaGreatDoor
open Go.RowKit
section
variable {w w1 : World} {base : Nat} {e : TypeId} {size n : Nat} {v : Value} {xs : List Value}
theorem own_base (h : w.ownsRow base e size v n xs) (k : Nat) (hk : v.ownBlock = some k) : base ≤ k := by
  rcases h.2 with ⟨rfl, _⟩ | ⟨g, cap, cur, rfl, hb, _⟩
  · simp [Value.ownBlock] at hk
  · have : g = k := Option.some.inj hk
    omega
theorem own_nil (w : World) (base : Nat) (e : TypeId) (size : Nat) : w.ownsRow base e size (.slice none 0 0) 0 [] := ⟨by simp, .inl ⟨rfl, rfl⟩⟩
theorem own_below (h : w.ownsRow base e size v n xs) (hb : Below w.heap.size w w1) : w1.ownsRow base e size v n xs := by
  refine ⟨h.1, ?_⟩
  rcases h.2 with h | ⟨g, cap, cur, rfl, hg, hh, hr⟩
  · exact .inl h
  · exact .inr ⟨g, cap, cur, rfl, hg, (hb.block g (Array.getElem?_eq_some_iff.1 hh).1).trans hh, hr⟩
theorem own_grown (h : w.ownsRow base e size v n xs) {row : Option Nat} (hg : w.grownBy w1 row) (hr : ∀ k, v.ownBlock = some k → some k ≠ row) : w1.ownsRow base e size v n xs := by
  refine ⟨h.1, ?_⟩
  rcases h.2 with h | ⟨g, cap, cur, rfl, hb, hh, hx⟩
  · exact .inl h
  · exact .inr ⟨g, cap, cur, rfl, hb, (hg.block g (Array.getElem?_eq_some_iff.1 hh).1 (hr g rfl)).trans hh, hx⟩
theorem own_lt (h : w.ownsRow base e size v n xs) (k : Nat) (hk : v.ownBlock = some k) : k < w.heap.size := by
  rcases h.2 with ⟨rfl, _⟩ | ⟨g, cap, cur, rfl, hb, hh, _⟩
  · simp [Value.ownBlock] at hk
  · have : g = k := Option.some.inj hk
    subst this
    exact (Array.getElem?_eq_some_iff.1 hh).1
end
section
variable {P : Program} {ops : Array Oper} {rest : List Oper} {o : Oper} {a : Act} {Q : Exit → Act → World → Prop}
def SrcRow (w : World) (u : Value) (m : Nat) (ys : List Value) : Prop :=
  (u = .slice none 0 0 ∧ ys = [] ∧ m = 0) ∨ ∃ ad c, u = .slice (some ad) m c ∧ ∀ j y, ys[j]? = some y → w.cell? (ad.add j) = some y
theorem wp_appRow {w : World} {K : Act → World → Prop} (s x : Operand) (t : TypeId)
    (ho : o.op = .call { callee := .builtin .append, args := #[s, x], argTypes := #[t, t] })
    (base : Nat) (e : TypeId) (z : Value) (size bytes : Nat) (ht : P.underlying t = some (.slice e)) (hinfo : (P.info? e).map (fun i => (i.zero, i.size, i.bytes)) = some (some z, size, bytes)) (hzs : z.cells.size = size) (hsz : 0 < size)
    (v u : Value) (n m : Nat) (xs ys : List Value) (HO : w.ownsRow base e size v n xs) (HS : SrcRow w u m ys) (hs : a.eval s = v) (hx : a.eval x = u) (hl : ys.length = m * size) (h1 : ∀ y ∈ ys, y.oneCell' = true)
    (hbytes : (n + m) * bytes ≤ 140737488355328) (hb0 : 0 < bytes) (hbase : base ≤ w.heap.size)
    (h : ∀ v' w', w'.ownsRow base e size v' (n + m) (xs ++ ys) → w.grownBy w' v.ownBlock → K (a.put o.dst v') w') : o.wp P a w K Q := by
  obtain ⟨i0, hi, hz0, hz1, hz2⟩ := info_parts hinfo
  have h63 : n + m ≤ maxLen := by
    have : n + m ≤ (n + m) * bytes := Nat.le_mul_of_pos_right _ hb0
    unfold maxLen; omega
  rcases HS with ⟨rfl, rfl, rfl⟩ | ⟨ad, c, rfl, hc⟩
  · have hrun := run_append_owned_none (P := P) (w := w) base t o.type e i0 size ht hi v n xs HO
    unfold Oper.wp
    simp [execOp, ho, resolve, invoke, builtin, hs, hx, hrun, Result.andThen]
    exact h v w (by simpa using HO) (gb_refl _ _)
  · obtain ⟨v', w', hr, h2, h3, _, _⟩ := run_append_own_at (P := P) w base t o.type e i0 z size bytes ht hi hz0 hz1 hz2 hzs hsz v n xs HO ad m c ys hl hc h1 h63 hbytes hbase
    unfold Oper.wp execOp
    simp only [ho, resolve, invoke, builtin, Sem.run_bind, Sem.run_pure, Result.andThen_ok, List.map_toArray, List.map_cons, List.map_nil, hs, hx, hr]
    exact h v' w' h2 h3
theorem wpList_appRow {w : World} (hgd : o.guard = none) (s x : Operand) (t : TypeId)
    (ho : o.op = .call { callee := .builtin .append, args := #[s, x], argTypes := #[t, t] })
    (base : Nat) (e : TypeId) (z : Value) (size bytes : Nat) (ht : P.underlying t = some (.slice e)) (hinfo : (P.info? e).map (fun i => (i.zero, i.size, i.bytes)) = some (some z, size, bytes)) (hzs : z.cells.size = size) (hsz : 0 < size)
    (v u : Value) (n m : Nat) (xs ys : List Value) (HO : w.ownsRow base e size v n xs) (HS : SrcRow w u m ys) (hs : a.eval s = v) (hx : a.eval x = u) (hl : ys.length = m * size) (h1 : ∀ y ∈ ys, y.oneCell' = true)
    (hbytes : (n + m) * bytes ≤ 140737488355328) (hb0 : 0 < bytes) (hbase : base ≤ w.heap.size)
    (h : ∀ v' w', w'.ownsRow base e size v' (n + m) (xs ++ ys) → w.grownBy w' v.ownBlock → wpList P ops Q rest (a.put o.dst v') w') : wpList P ops Q (o :: rest) a w :=
  wpList_plain hgd fun _ hK => wp_appRow s x t ho base e z size bytes ht hinfo hzs hsz v u n m xs ys HO HS hs hx hl h1 hbytes hb0 hbase fun v' w' h2 h3 => hK _ _ (h v' w' h2 h3)
end
end Go.Proofs.YtgjcibhhffkemaaGreatDoor
namespace Go.Proofs.YtgjcibhhffkemaaGreatDoor
open Go.RowKit
structure Only (S : Nat → Prop) (w w' : World) : Prop where
  os : w'.os = w.os
  tape : w'.tape = w.tape
  output : w'.output = w.output
  size : w.heap.size ≤ w'.heap.size
  block : ∀ k, k < w.heap.size → ¬ S k → w'.heap[k]? = w.heap[k]?
namespace Only
variable {S T : Nat → Prop} {w w1 w2 : World}
theorem refl (w : World) : Only S w w := ⟨rfl, rfl, rfl, Nat.le_refl _, fun _ _ _ => rfl⟩
theorem of_below (h : Below w.heap.size w w1) : Only S w w1 := ⟨h.os, h.tape, h.output, h.size, fun k hk _ => h.block k hk⟩
theorem trans (h : Only S w w1) (h' : Only T w1 w2) (hT : ∀ k, T k → S k ∨ w.heap.size ≤ k) : Only S w w2 :=
  ⟨h'.os.trans h.os, h'.tape.trans h.tape, h'.output.trans h.output, Nat.le_trans h.size h'.size, fun k hk hS =>
    (h'.block k (Nat.lt_of_lt_of_le hk h.size) (fun ht => (hT k ht).elim hS (fun g => by omega))).trans (h.block k hk hS)⟩
theorem mono (h : Only T w w1) (hT : ∀ k, T k → S k ∨ w.heap.size ≤ k) : Only S w w1 := (refl w).trans h hT
theorem below {B : Nat} (h : Only S w w1) (hB : B ≤ w.heap.size) (hS : ∀ k, S k → B ≤ k) : Below B w w1 :=
  ⟨h.os, h.tape, h.output, h.size, fun k hk => h.block k (by omega) (fun hs => by have := hS k hs; omega)⟩
theorem of_grown {r : Option Nat} (h : w.grownBy w1 r) (hr : ∀ k, r = some k → S k) : Only S w w1 :=
  ⟨h.os, h.tape, h.output, h.size, fun k hk hS => h.block k hk (fun e => hS (hr k e.symm))⟩
theorem set (w : World) (g i : Nat) (v : Value) (hg : S g) : Only S w (w.setCell ⟨g, i, none⟩ v) :=
  ⟨rfl, rfl, rfl, by simp, fun k _ hS => Below.heap_setCell w _ v k (fun e => hS (by rw [e]; exact hg))⟩
theorem drew (h : Only S w w1) : Only S w w1.drew := ⟨h.os, h.tape, h.output, h.size, h.block⟩
end Only
theorem AtG.only {S : Nat → Prop} {w w1 : World} {g T : Nat} {cs : Array Value} (h : AtG w g T cs) (ho : Only S w w1) (hS : ¬ S g) : AtG w1 g T cs := (ho.block g h.lt hS).trans h
theorem own_only {S : Nat → Prop} {w w1 : World} {base n e size : Nat} {v : Value} {xs : List Value} (h : w.ownsRow base e size v n xs) (ho : Only S w w1) (hS : ∀ k, v.ownBlock = some k → ¬ S k) : w1.ownsRow base e size v n xs := by
  refine ⟨h.1, ?_⟩
  rcases h.2 with h2 | ⟨g, cap, cur, rfl, hb, hh, rest⟩
  · exact .inl h2
  · exact .inr ⟨g, cap, cur, rfl, hb, (ho.block g (Array.getElem?_eq_some_iff.1 hh).1 (hS g rfl)).trans hh, rest⟩
theorem AtG.ne {w : World} {g g' T T' : Nat} {cs cs' : Array Value} (h : AtG w g T cs) (h' : AtG w g' T' cs') (hT : T ≠ T') : g ≠ g' := by
  rintro rfl
  unfold AtG at h h'
  rw [h] at h'
  injection h' with h'
  injection h' with _ e _
  exact hT e
end Go.Proofs.YtgjcibhhffkemaaGreatDoor
namespace Go.Proofs.YtgjcibhhffkemaaGreatDoor
open Go.RowKit
section
variable {P : Program} {ops : Array Oper} {rest : List Oper} {o : Oper} {a : Act} {Q : Exit → Act → World → Prop}
theorem wp_appRowX {w : World} {K : Act → World → Prop} (s x : Operand) (t : TypeId)
    (ho : o.op = .call { callee := .builtin .append, args := #[s, x], argTypes := #[t, t] })
    (base : Nat) (e : TypeId) (z : Value) (size bytes : Nat) (ht : P.underlying t = some (.slice e)) (hinfo : (P.info? e).map (fun i => (i.zero, i.size, i.bytes)) = some (some z, size, bytes)) (hzs : z.cells.size = size) (hsz : 0 < size)
    (v u : Value) (n m : Nat) (xs ys : List Value) (HO : w.ownsRow base e size v n xs) (HS : SrcRow w u m ys) (hs : a.eval s = v) (hx : a.eval x = u) (hl : ys.length = m * size) (h1 : ∀ y ∈ ys, y.oneCell' = true)
    (hbytes : (n + m) * bytes ≤ 140737488355328) (hb0 : 0 < bytes) (hbase : base ≤ w.heap.size)
    (h : ∀ v' w', w'.ownsRow base e size v' (n + m) (xs ++ ys) → w.grownBy w' v.ownBlock → (v'.ownBlock = v.ownBlock ∨ v'.ownBlock = some w.heap.size) → K (a.put o.dst v') w') : o.wp P a w K Q := by
  obtain ⟨i0, hi, hz0, hz1, hz2⟩ := info_parts hinfo
  have h63 : n + m ≤ maxLen := by
    have : n + m ≤ (n + m) * bytes := Nat.le_mul_of_pos_right _ hb0
    unfold maxLen; omega
  rcases HS with ⟨rfl, rfl, rfl⟩ | ⟨ad, c, rfl, hc⟩
  · have hrun := run_append_owned_none (P := P) (w := w) base t o.type e i0 size ht hi v n xs HO
    unfold Oper.wp
    simp [execOp, ho, resolve, invoke, builtin, hs, hx, hrun, Result.andThen]
    exact h v w (by simpa using HO) (gb_refl _ _) (.inl rfl)
  · obtain ⟨v', w', hr, h2, h3, _, h5⟩ := run_append_own_at (P := P) w base t o.type e i0 z size bytes ht hi hz0 hz1 hz2 hzs hsz v n xs HO ad m c ys hl hc h1 h63 hbytes hbase
    unfold Oper.wp execOp
    simp only [ho, resolve, invoke, builtin, Sem.run_bind, Sem.run_pure, Result.andThen_ok, List.map_toArray, List.map_cons, List.map_nil, hs, hx, hr]
    exact h v' w' h2 h3 h5
theorem wpList_appRowX {w : World} (hgd : o.guard = none) (s x : Operand) (t : TypeId)
    (ho : o.op = .call { callee := .builtin .append, args := #[s, x], argTypes := #[t, t] })
    (base : Nat) (e : TypeId) (z : Value) (size bytes : Nat) (ht : P.underlying t = some (.slice e)) (hinfo : (P.info? e).map (fun i => (i.zero, i.size, i.bytes)) = some (some z, size, bytes)) (hzs : z.cells.size = size) (hsz : 0 < size)
    (v u : Value) (n m : Nat) (xs ys : List Value) (HO : w.ownsRow base e size v n xs) (HS : SrcRow w u m ys) (hs : a.eval s = v) (hx : a.eval x = u) (hl : ys.length = m * size) (h1 : ∀ y ∈ ys, y.oneCell' = true)
    (hbytes : (n + m) * bytes ≤ 140737488355328) (hb0 : 0 < bytes) (hbase : base ≤ w.heap.size)
    (h : ∀ v' w', w'.ownsRow base e size v' (n + m) (xs ++ ys) → w.grownBy w' v.ownBlock → (v'.ownBlock = v.ownBlock ∨ v'.ownBlock = some w.heap.size) → wpList P ops Q rest (a.put o.dst v') w') : wpList P ops Q (o :: rest) a w :=
  wpList_plain hgd fun _ hK => wp_appRowX s x t ho base e z size bytes ht hinfo hzs hsz v u n m xs ys HO HS hs hx hl h1 hbytes hb0 hbase fun v' w' h2 h3 h4 => hK _ _ (h v' w' h2 h3 h4)
end
theorem src_at {w : World} {k T n : Nat} {cs : Array Value} (h : AtG w k T cs) (c : Nat) : SrcRow w (.slice (some ⟨k, 0, none⟩) n c) n cs.toList :=
  .inr ⟨⟨k, 0, none⟩, c, rfl, fun j y hy => by
    have e1 : (⟨k, 0, none⟩ : Addr).add j = ⟨k, j, none⟩ := by unfold Addr.add; split <;> simp_all
    rw [e1]; exact h.cell j y (by simpa using hy)⟩
theorem own_form {w : World} {base n e size : Nat} {v : Value} {xs : List Value} (h : w.ownsRow base e size v n xs) : ∃ a c, v = .slice a n c := by
  rcases h.2 with ⟨rfl, h0⟩ | ⟨g, cap, cur, rfl, _⟩
  · exact ⟨none, 0, by rw [h0]⟩
  · exact ⟨_, _, rfl⟩
end Go.Proofs.YtgjcibhhffkemaaGreatDoor
namespace Go.Proofs.YtgjcibhhffkemaaGreatDoor
open Go.RowKit
def RdK (k : IntKind) (w : World) (v : Value) (xs : List Int) : Prop :=
  (xs = [] ∧ ∃ a c, v = .slice a 0 c) ∨ ∃ b off cap, v = .slice (some ⟨b, off, none⟩) xs.length cap ∧ xs.length ≤ cap ∧ xs.length ≤ 140737488355328 ∧
    (∀ j, j < xs.length → w.cell? ⟨b, off + j, none⟩ = some (.int k (xs.getD j 0))) ∧ (∀ x ∈ xs, (Lit.int k x).wf = true)
theorem RdK.nilv {k : IntKind} {w : World} : RdK k w (.slice none 0 0) [] := .inl ⟨rfl, _, _, rfl⟩
theorem RdK.mk {k : IntKind} {w : World} {x : Addr} {len cap : Nat} {zs : List Int} (hl : len ≤ cap) (hz : zs.length = cap) (hc : ∀ i, i < zs.length → w.cell? (x.add i) = some (.int k (zs.getD i 0))) (hw : ∀ n ∈ zs, (Lit.int k n).wf = true) (hm : len ≤ 140737488355328) :
    RdK k w (.slice (some x) len cap) (zs.take len) := by
  have hlen : (zs.take len).length = len := by simp; omega
  rcases Nat.eq_zero_or_pos len with h0 | h0
  · subst h0; exact .inl ⟨by simp, _, _, rfl⟩
  obtain ⟨b, off, sp⟩ := x
  have hsp : sp = Option.none := by
    have h := hc 0 (by omega)
    have e : (⟨b, off, sp⟩ : Addr).add 0 = ⟨b, off, sp⟩ := by unfold Addr.add; simp
    rw [e] at h
    cases sp with
    | none => rfl
    | some s =>
      exfalso
      unfold World.cell? at h
      split at h
      · simp at h
      · cases h
  subst hsp
  refine .inr ⟨b, off, cap, by rw [hlen], by omega, by omega, fun j hj => ?_, fun x hx => hw x (List.mem_of_mem_take hx)⟩
  have h := hc j (by omega)
  have e : (⟨b, off, Option.none⟩ : Addr).add j = ⟨b, off + j, Option.none⟩ := by unfold Addr.add; split <;> simp_all
  rw [e] at h
  rw [h]
  simp only [List.getD_eq_getElem?_getD, List.getElem?_take]
  rw [if_pos (by omega)]
end Go.Proofs.YtgjcibhhffkemaaGreatDoor
namespace Go.Proofs.YtgjcibhhffkemaaGreatDoor
open Go.RowKit
def rdr (s : ByteArray) (p o b x : Int) : Array Value := #[.string s, .int .i64 p, .int .i64 o, .int .i64 b, .int .i64 x]
end Go.Proofs.YtgjcibhhffkemaaGreatDoor
namespace Go.Proofs.YtgjcibhhffkemaaGreatDoor
open Go.RowKit
namespace Rg
structure Rl where
  R : Value → World → Prop
  st : ∀ v w w', R v w → Below w.heap.size w w' → R v w'
def eq (X : Value) : Rl := ⟨fun v _ => v = X, fun _ _ _ h _ => h⟩
theorem mk {X : Value} {w : World} : (eq X).R X w := rfl
def any : Rl := ⟨fun _ _ => True, fun _ _ _ _ _ => trivial⟩
def waits (o : Oper) (j : Nat) : Bool := o.after.toList.any fun e => Region.binds .any e && e.on == j
def reach (l : List Oper) : Nat → Nat → Nat → Bool
  | 0, _, _ => false
  | n + 1, i, j => match l[i]? with
    | none => false
    | some o => o.after.toList.any fun e => Region.binds .any e && (e.on == j || reach l n e.on j)
def waitsFar (l : List Oper) (n : Nat) (o : Oper) (j : Nat) : Bool := o.after.toList.any fun e => Region.binds .any e && (e.on == j || reach l n e.on j)
def isDst (l : List Oper) (t : Nat) : Bool := l.any fun o => o.dst == some t
def dstsOk (n : Nat) : List Oper → Bool
  | [] => true
  | o :: l => (match o.dst with | none => true | some d => decide (d < n) && !isDst l d) && dstsOk n l
def edgesOk : Nat → List Oper → Bool
  | _, [] => true
  | i, o :: l => (o.after.toList.all fun e => !Region.binds .any e || decide (e.on < i)) && edgesOk (i + 1) l
section
variable (P : Program) (ops : Array Oper) (Q : Exit → Act → World → Prop) (J : World → Prop) (b : Act)
def look : List (Nat × Rl) → Nat → Option Rl
  | [], _ => none
  | (k, r) :: l, j => if k == j then some r else look l j
structure Known (Rs : List (Nat × Rl)) (o : Oper) (a : Act) (w : World) : Prop where
  j : J w
  base : ∀ t x, isDst ops.toList t = false → b.tmps.toList[t]? = some x → a.tmps[t]? = some x
  dep : ∀ i t r, waits o i = true → (ops.toList[i]?).bind (·.dst) = some t → look Rs i = some r → ∃ v, a.tmps[t]? = some v ∧ r.R v w
  far : ∀ n i t r, waitsFar ops.toList n o i = true → (ops.toList[i]?).bind (·.dst) = some t → look Rs i = some r → ∃ v, a.tmps[t]? = some v ∧ r.R v w
def One (Rs : List (Nat × Rl)) (o : Oper) (r : Rl) : Prop :=
  ∀ a w, Known ops J b Rs o a w →
    if Region.wanted o (yielded ops a.tmps) = true then ∀ K : Act → World → Prop, (∀ v w', r.R v w' → Below w.heap.size w w' → K (a.put o.dst v) w') → o.wp P a w K Q else r.R undef w
def Fin (D : List Deferred) : List Oper → List Rl → List Value → World → Prop
  | [], [], base, w => Q .normal ⟨base.toArray, D⟩ w
  | o :: os, r :: rs, base, w => match o.dst with
    | some d => ∀ v, r.R v w → Fin D os rs (base.set d v) w
    | none => Fin D os rs base w
  | _, _, _, _ => False
def Build : Nat → List Oper → List (Nat × Rl) → Prop
  | _, [], Rs => ∀ w, J w → Fin Q b.defers ops.toList (Rs.reverse.map (·.2)) b.tmps.toList w
  | n, o :: l, Rs => ∃ r : Rl, One P ops Q J b Rs o r ∧ Build (n + 1) l ((n, r) :: Rs)
end
section
variable {P : Program} {ops : Array Oper} {Q : Exit → Act → World → Prop} {J : World → Prop} {b : Act}
theorem dst_lt {n : Nat} : ∀ {l : List Oper}, dstsOk n l = true → ∀ (i : Nat) (o : Oper) (t : Nat), l[i]? = some o → o.dst = some t → t < n
  | [], _, i, o, t, h, _ => by simp at h
  | p :: l, h, 0, o, t, ho, hd => by
    simp only [dstsOk, Bool.and_eq_true] at h
    obtain rfl : p = o := by simpa using ho
    have := h.1; rw [hd] at this; simp at this; exact this.1
  | p :: l, h, i + 1, o, t, ho, hd => by
    simp only [dstsOk, Bool.and_eq_true] at h
    exact dst_lt h.2 i o t (by simpa using ho) hd
theorem isDst_of {l : List Oper} {i : Nat} {o : Oper} {t : Nat} (h : l[i]? = some o) (hd : o.dst = some t) : isDst l t = true := by
  unfold isDst; rw [List.any_eq_true]; exact ⟨o, List.mem_of_getElem? h, by simp [hd]⟩
theorem dst_ne {n : Nat} : ∀ {l : List Oper}, dstsOk n l = true → ∀ (i j : Nat) (o p : Oper) (t : Nat), l[i]? = some o → l[j]? = some p → o.dst = some t → p.dst = some t → i = j
  | [], _, i, j, o, p, t, h, _, _, _ => by simp at h
  | q :: l, h, i, j, o, p, t, ho, hp, hod, hpd => by
    simp only [dstsOk, Bool.and_eq_true] at h
    cases i with
    | zero => cases j with
      | zero => rfl
      | succ j =>
        exfalso
        obtain rfl : q = o := by simpa using ho
        have h1 := h.1; rw [hod] at h1; simp at h1
        have := isDst_of (l := l) (i := j) (by simpa using hp) hpd
        rw [h1.2] at this; cases this
    | succ i => cases j with
      | zero =>
        exfalso
        obtain rfl : q = p := by simpa using hp
        have h1 := h.1; rw [hpd] at h1; simp at h1
        have := isDst_of (l := l) (i := i) (by simpa using ho) hod
        rw [h1.2] at this; cases this
      | succ j => rw [dst_ne h.2 i j o p t (by simpa using ho) (by simpa using hp) hod hpd]
theorem edge_lt : ∀ {l : List Oper} {m : Nat}, edgesOk m l = true → ∀ (i : Nat) (o : Oper) (e : Edge), l[i]? = some o → e ∈ o.after → Region.binds .any e = true → e.on < m + i
  | [], _, _, i, o, e, h, _, _ => by simp at h
  | p :: l, m, h, 0, o, e, ho, he, hb => by
    simp only [edgesOk, Bool.and_eq_true, List.all_eq_true] at h
    obtain rfl : p = o := by simpa using ho
    have := h.1 e (by simpa using he); rw [hb] at this; simpa using this
  | p :: l, m, h, i + 1, o, e, ho, he, hb => by
    simp only [edgesOk, Bool.and_eq_true] at h
    have := edge_lt h.2 i o e (by simpa using ho) he hb
    omega
def unl (n : Nat) (listed : Array Bool) : Nat := (List.range n).countP fun i => !listed.getD i true
theorem countP_upd {p q : Nat → Bool} {i : Nat} : ∀ {l : List Nat}, l.Nodup → i ∈ l → p i = true → q i = false → (∀ j, j ≠ i → q j = p j) → l.countP q + 1 = l.countP p
  | [], _, h, _, _, _ => by simp at h
  | x :: l, hn, hi, hp, hq, hj => by
    rw [List.nodup_cons] at hn
    by_cases hx : x = i
    · subst hx
      have : l.countP q = l.countP p := List.countP_congr fun y hy => by rw [hj y (fun e => hn.1 (e ▸ hy))]
      rw [List.countP_cons_of_neg (by simp [hq]), List.countP_cons_of_pos (by simp [hp]), this]
    · have := countP_upd hn.2 (by rcases List.mem_cons.1 hi with h | h; exact absurd h.symm hx; exact h) hp hq hj
      rw [List.countP_cons, List.countP_cons, hj x hx]; omega
theorem unl_set {n i : Nat} {listed : Array Bool} (hs : listed.size = n) (hi : listed.getD i true = false) : unl n (listed.setIfInBounds i true) + 1 = unl n listed := by
  have hlt : i < listed.size := by
    rcases Nat.lt_or_ge i listed.size with h | h
    · exact h
    · simp [Array.getElem?_eq_none h] at hi
  unfold unl
  refine countP_upd List.nodup_range (List.mem_range.2 (hs ▸ hlt)) (by simp only [hi]; rfl) ?_ ?_
  · simp [Array.getElem?_setIfInBounds_self_of_lt hlt]
  · intro j hj; simp [Array.getElem?_setIfInBounds_ne (Ne.symm hj)]
theorem all_of_ready {listed : Array Bool} (he : edgesOk 0 ops.toList = true) (hr : Region.ready .any ops listed = []) (hs : listed.size = ops.size) : ∀ i, i < ops.size → listed.getD i false = true := by
  intro i
  induction i using Nat.strongRecOn with
  | _ i ih =>
    intro hi
    cases h : listed.getD i true with
    | true => have hl : i < listed.size := by omega
              simp [hl] at h ⊢; exact h
    | false =>
      exfalso
      have : i ∈ Region.ready .any ops listed := by
        rw [mem_ready]
        refine ⟨h, ops[i], by simp [hi], fun e hm hb => ?_⟩
        have hl := edge_lt he i ops[i] e (by simp [hi]) hm hb
        exact ih e.on (by omega) (by omega)
      rw [hr] at this; cases this
theorem reach_spec {l : List Oper} {listed : Array Bool} (hc : ∀ (i : Nat) (o : Oper) (e : Edge), l[i]? = some o → listed.getD i false = true → e ∈ o.after → Region.binds .any e = true → listed.getD e.on false = true) :
    ∀ n i j, reach l n i j = true → listed.getD i false = true → listed.getD j false = true
  | 0, i, j, h, _ => by simp [reach] at h
  | n + 1, i, j, h, hi => by
    unfold reach at h
    split at h
    · cases h
    · rename_i o ho
      rw [List.any_eq_true] at h
      obtain ⟨e, he, hj⟩ := h
      simp only [Bool.and_eq_true, Bool.or_eq_true, beq_iff_eq] at hj
      have hl := hc i o e ho hi (by simpa using he) hj.1
      rcases hj.2 with rfl | h2
      · exact hl
      · exact reach_spec hc n e.on j h2 hl
theorem waitsFar_spec {l : List Oper} {listed : Array Bool} (hc : ∀ (i : Nat) (o : Oper) (e : Edge), l[i]? = some o → listed.getD i false = true → e ∈ o.after → Region.binds .any e = true → listed.getD e.on false = true)
    {n j : Nat} {o : Oper} (h : waitsFar l n o j = true) (ho : ∀ e ∈ o.after, Region.binds .any e = true → listed.getD e.on false = true) : listed.getD j false = true := by
  unfold waitsFar at h
  rw [List.any_eq_true] at h
  obtain ⟨e, he, hj⟩ := h
  simp only [Bool.and_eq_true, Bool.or_eq_true, beq_iff_eq] at hj
  have hl := ho e (by simpa using he) hj.1
  rcases hj.2 with rfl | h2
  · exact hl
  · exact reach_spec hc n e.on j h2 hl
theorem closed_set {l : List Oper} {listed : Array Bool} {i : Nat} {o : Oper} (hc : ∀ (i : Nat) (o : Oper) (e : Edge), l[i]? = some o → listed.getD i false = true → e ∈ o.after → Region.binds .any e = true → listed.getD e.on false = true)
    (hi : l[i]? = some o) (ho : ∀ e ∈ o.after, Region.binds .any e = true → listed.getD e.on false = true) :
    ∀ (k : Nat) (p : Oper) (e : Edge), l[k]? = some p → (listed.setIfInBounds i true).getD k false = true → e ∈ p.after → Region.binds .any e = true → (listed.setIfInBounds i true).getD e.on false = true := by
  intro k p e hp hk he hb
  have up : ∀ m, listed.getD m false = true → (listed.setIfInBounds i true).getD m false = true := fun m hm => by
    by_cases hmi : i = m
    · subst hmi
      rcases Nat.lt_or_ge i listed.size with h | h
      · simp [Array.getElem?_setIfInBounds_self_of_lt h]
      · simp [Array.getElem?_eq_none h] at hm
    · have : (listed.setIfInBounds i true).getD m false = listed.getD m false := by simp [Array.getElem?_setIfInBounds_ne hmi]
      rw [this]; exact hm
  by_cases hki : k = i
  · subst hki
    obtain rfl : o = p := by rw [hi] at hp; exact Option.some.inj hp
    exact up _ (ho e he hb)
  · have : (listed.setIfInBounds i true).getD k false = listed.getD k false := by simp [Array.getElem?_setIfInBounds_ne (Ne.symm hki)]
    rw [this] at hk
    exact up _ (hc k p e hp hk he hb)
theorem ready_of_unl {listed : Array Bool} (h : unl ops.size listed = 0) : Region.ready .any ops listed = [] := by
  rw [List.eq_nil_iff_forall_not_mem]
  intro i hi
  obtain ⟨h1, o, ho, _⟩ := mem_ready.1 hi
  have hlt : i < ops.size := (Array.getElem?_eq_some_iff.1 ho).1
  unfold unl at h
  rw [List.countP_eq_zero] at h
  have := h i (List.mem_range.2 hlt)
  rw [h1] at this; exact this rfl
structure Inv (ops : Array Oper) (J : World → Prop) (b : Act) (Rs : List Rl) (listed : Array Bool) (a : Act) (w : World) : Prop where
  j : J w
  defers : a.defers = b.defers
  size : a.tmps.size = b.tmps.size
  base : ∀ t, isDst ops.toList t = false → a.tmps[t]? = b.tmps[t]?
  closed : ∀ (i : Nat) (o : Oper) (e : Edge), ops.toList[i]? = some o → listed.getD i false = true → e ∈ o.after → Region.binds .any e = true → listed.getD e.on false = true
  dep : ∀ (i : Nat) (o : Oper) (t : Nat) (r : Rl), ops[i]? = some o → o.dst = some t → listed.getD i false = true → Rs[i]? = some r → ∃ v, a.tmps[t]? = some v ∧ r.R v w
theorem Inv.put {Rs : List Rl} {listed : Array Bool} {a : Act} {w w' : World} {i : Nat} {o : Oper} {r : Rl} {v : Value} (hd : dstsOk b.tmps.size ops.toList = true) (stJ : ∀ w w', J w → Below w.heap.size w w' → J w')
    (h : Inv ops J b Rs listed a w) (ho : ops[i]? = some o) (hr : Rs[i]? = some r) (hv : r.R v w') (hb : Below w.heap.size w w') (hs : listed.size = ops.size) (hdep : ∀ e ∈ o.after, Region.binds .any e = true → listed.getD e.on false = true) : Inv ops J b Rs (listed.setIfInBounds i true) (a.put o.dst v) w' := by
  have ho' : ops.toList[i]? = some o := by simpa using ho
  refine ⟨stJ _ _ h.j hb, ?_, ?_, ?_, closed_set h.closed ho' hdep, ?_⟩
  · cases hd : o.dst <;> simp [Act.put, h.defers]
  · cases hd : o.dst <;> simp [Act.put, h.size]
  · intro t ht
    cases hod : o.dst with
    | none => simpa [Act.put] using h.base t ht
    | some d =>
      have hne : d ≠ t := fun e => by subst e; rw [isDst_of ho' hod] at ht; cases ht
      simpa [Act.put, Array.getElem?_setIfInBounds_ne hne] using h.base t ht
  · intro k p t s hp hpd hl hs'
    by_cases hki : k = i
    · subst hki
      obtain rfl : o = p := by rw [ho] at hp; exact Option.some.inj hp
      obtain rfl : r = s := by rw [hr] at hs'; exact Option.some.inj hs'
      have hlt : t < a.tmps.size := by rw [h.size]; exact dst_lt hd k o t ho' hpd
      refine ⟨v, ?_, hv⟩
      simp [Act.put, hpd, Array.getElem?_setIfInBounds_self_of_lt hlt]
    · have hl' : listed.getD k false = true := by
        have : (listed.setIfInBounds i true).getD k false = listed.getD k false := by simp [Array.getElem?_setIfInBounds_ne (Ne.symm hki)]
        rw [this] at hl; exact hl
      obtain ⟨u, hu, hru⟩ := h.dep k p t s hp hpd hl' hs'
      refine ⟨u, ?_, s.st _ _ _ hru hb⟩
      cases hod : o.dst with
      | none => simpa [Act.put] using hu
      | some d =>
        have hne : d ≠ t := fun e => hki (by subst e; exact (dst_ne hd i k o p d ho' (by simpa using hp) hod hpd).symm)
        simpa [Act.put, Array.getElem?_setIfInBounds_ne hne] using hu
theorem run {Rs : List Rl} (hd : dstsOk b.tmps.size ops.toList = true) (he : edgesOk 0 ops.toList = true) (stJ : ∀ w w', J w → Below w.heap.size w w' → J w') (hlen : Rs.length = ops.size)
    (one : ∀ (i : Nat) (o : Oper) (r : Rl), ops[i]? = some o → Rs[i]? = some r → ∃ Ls : List (Nat × Rl), (∀ j s, look Ls j = some s → Rs[j]? = some s) ∧ One P ops Q J b Ls o r)
    (fin : ∀ a w listed, Inv ops J b Rs listed a w → (∀ i, i < ops.size → listed.getD i false = true) → Q .normal a w) :
    ∀ fuel listed a w, listed.size = ops.size → unl ops.size listed = fuel → Inv ops J b Rs listed a w → wpAny P .any ops Q fuel listed a w
  | 0, listed, a, w, hs, hu, h => ⟨ready_of_unl hu, fin a w listed h (all_of_ready he (ready_of_unl hu) hs)⟩
  | fuel + 1, listed, a, w, hs, hu, h => by
    refine ⟨fun hr => fin a w listed h (all_of_ready he hr hs), fun i hi => ?_⟩
    obtain ⟨h1, o, ho, hdep⟩ := mem_ready.1 hi
    have hlt : i < ops.size := (Array.getElem?_eq_some_iff.1 ho).1
    obtain ⟨r, hr⟩ : ∃ r, Rs[i]? = some r := ⟨_, List.getElem?_eq_getElem (hlen ▸ hlt)⟩
    have hu' := unl_set (i := i) hs h1
    obtain ⟨Ls, hLs, hone⟩ := one i o r ho hr
    have hk : Known ops J b Ls o a w := by
      refine ⟨h.j, fun t x ht hx => by rw [h.base t ht]; simpa using hx, fun j t s hj ht hrs => ?_, fun n j t q hj ht hrs => ?_⟩
      rotate_left
      · obtain ⟨p, hp, hpt⟩ := Option.bind_eq_some_iff.1 ht
        exact h.dep j p t q (by simpa using hp) hpt (waitsFar_spec h.closed hj hdep) (hLs _ _ hrs)
      obtain ⟨p, hp, hpt⟩ := Option.bind_eq_some_iff.1 ht
      unfold waits at hj; rw [List.any_eq_true] at hj
      obtain ⟨e, hem, hej⟩ := hj
      simp only [Bool.and_eq_true, beq_iff_eq] at hej
      obtain ⟨hbind, rfl⟩ := hej
      exact h.dep e.on p t s (by simpa using hp) hpt (hdep e (by simpa using hem) hbind) (hLs _ _ hrs)
    have hone := hone a w hk
    unfold wpOp
    simp only [ho]
    split
    · rename_i hw
      rw [if_pos hw] at hone
      exact .inl (hone _ fun v w' hv hb => run hd he stJ hlen one fin fuel _ _ _ (by simpa using hs) (by omega) (h.put hd stJ ho hr hv hb hs hdep))
    · rename_i hw
      rw [if_neg hw] at hone
      exact run hd he stJ hlen one fin fuel _ _ _ (by simpa using hs) (by omega) (h.put hd stJ ho hr hone (Below.refl _ _) hs hdep)
theorem fin_of {D : List Deferred} {w : World} {a : Act} (hD : a.defers = D) : ∀ (os : List Oper) (rs : List Rl) (base : List Value),
    dstsOk base.length os = true → os.length = rs.length → a.tmps.size = base.length →
    (∀ t, isDst os t = false → a.tmps[t]? = base[t]?) →
    (∀ (i : Nat) (o : Oper) (t : Nat) (r : Rl), os[i]? = some o → o.dst = some t → rs[i]? = some r → ∃ v, a.tmps[t]? = some v ∧ r.R v w) →
    Fin Q D os rs base w → Q .normal a w
  | [], [], base, _, _, hs, hb, _, h => by
    have : a.tmps = base.toArray := by
      apply Array.ext_getElem?
      intro t; rw [hb t rfl]; simp
    obtain ⟨tm, df⟩ := a
    simp only at this hD
    subst this; subst hD
    exact h
  | o :: os, r :: rs, base, hd, hl, hs, hb, hr, h => by
    simp only [dstsOk, Bool.and_eq_true] at hd
    simp only [Fin] at h
    cases hod : o.dst with
    | none =>
      rw [hod] at h
      refine fin_of hD os rs base hd.2 (by simpa using hl) hs (fun t ht => hb t ?_) (fun i p t s hp hpd hs' => hr (i + 1) p t s (by simpa using hp) hpd (by simpa using hs')) h
      unfold isDst at ht ⊢; rw [List.any_cons, ht]; simp [hod]
    | some d =>
      rw [hod] at h
      have hd1 := hd.1; rw [hod] at hd1; simp at hd1
      obtain ⟨v, hv, hrv⟩ := hr 0 o d r rfl hod rfl
      refine fin_of hD os rs (base.set d v) (by simpa using hd.2) (by simpa using hl) (by simpa using hs) (fun t ht => ?_) (fun i p t s hp hpd hs' => hr (i + 1) p t s (by simpa using hp) hpd (by simpa using hs')) (h v hrv)
      by_cases htd : d = t
      · subst htd; rw [hv, List.getElem?_set_self hd1.1]
      · rw [List.getElem?_set_ne htd]
        refine hb t ?_
        unfold isDst at ht ⊢; rw [List.any_cons, ht]; simp [hod, htd]
  | [], _ :: _, _, _, h, _, _, _, _ => by simp at h
  | _ :: _, [], _, _, h, _, _, _, _ => by simp at h
def Num : List (Nat × Rl) → Prop
  | [] => True
  | (k, _) :: l => k = l.length ∧ Num l
theorem look_spec : ∀ {l : List (Nat × Rl)}, Num l → ∀ j r, look l j = some r → (l.reverse.map (·.2))[j]? = some r
  | [], _, j, r, h => by simp [look] at h
  | (k, s) :: l, ⟨hk, hn⟩, j, r, h => by
    simp only [look] at h
    rw [List.reverse_cons, List.map_append]
    split at h
    · rename_i hkj
      have : k = j := by simpa using hkj
      subst this; cases h
      rw [List.getElem?_append_right (by simp [hk])]; simp [hk]
    · have := look_spec hn j r h
      rw [List.getElem?_append_left (List.getElem?_eq_some_iff.1 this).1]; exact this
theorem build_spec : ∀ (l : List Oper) (n : Nat) (Rs : List (Nat × Rl)), Num Rs → Rs.length = n → Build P ops Q J b n l Rs →
    ∃ rs : List Rl, rs.length = l.length ∧ (∀ (i : Nat) (o : Oper) (r : Rl), l[i]? = some o → rs[i]? = some r → ∃ Ls : List (Nat × Rl), (∀ j s, look Ls j = some s → (Rs.reverse.map (·.2) ++ rs)[j]? = some s) ∧ One P ops Q J b Ls o r) ∧ (∀ w, J w → Fin Q b.defers ops.toList (Rs.reverse.map (·.2) ++ rs) b.tmps.toList w)
  | [], n, Rs, _, _, h => ⟨[], rfl, by simp, by simpa [Build] using h⟩
  | o :: l, n, Rs, hn, hl, ⟨r, h1, h2⟩ => by
    obtain ⟨rs, hlen, ho, hf⟩ := build_spec l (n + 1) ((n, r) :: Rs) ⟨hl.symm, hn⟩ (by simp [hl]) h2
    have e : ((n, r) :: Rs).reverse.map (·.2) ++ rs = Rs.reverse.map (·.2) ++ (r :: rs) := by simp
    rw [e] at ho hf
    refine ⟨r :: rs, by simp [hlen], ?_, hf⟩
    intro i p s hp hs
    cases i with
    | zero =>
      obtain rfl : o = p := by simpa using hp
      obtain rfl : r = s := by simpa using hs
      refine ⟨Rs, fun j s hj => ?_, h1⟩
      have := look_spec hn j s hj
      rw [List.getElem?_append_left (List.getElem?_eq_some_iff.1 this).1]; exact this
    | succ i => exact ho i p s (by simpa using hp) (by simpa using hs)
theorem wp_region_each {id : Nat} {w : World} (hm : P.follows .mixedOrders = true) (J : World → Prop) (stJ : ∀ w w', J w → Below w.heap.size w w' → J w')
    (hd : dstsOk b.tmps.toList.length ops.toList = true) (he : edgesOk 0 ops.toList = true) (hJ : J w) (h : Build P ops Q J b 0 ops.toList []) : (Code.region id ops true).wp P Q b w := by
  obtain ⟨rs, hl, ho, hf⟩ := build_spec _ 0 [] trivial rfl h
  simp only [List.reverse_nil, List.map_nil, List.nil_append] at ho hf
  refine wp_region_any hm ?_
  have hd' : dstsOk b.tmps.size ops.toList = true := by simpa using hd
  have hl' : rs.length = ops.size := by simpa using hl
  refine run (Rs := rs) hd' he stJ hl' (fun i o r hio hr => ho i o r (by simpa using hio) hr) (fun a w' listed hi hall => ?_) ops.size _ b w.drew (by simp) ?_ ?_
  · refine fin_of (D := b.defers) hi.defers ops.toList rs b.tmps.toList hd (by simpa using hl.symm) (by simpa using hi.size) (fun t ht => by rw [hi.base t ht]; simp) (fun i o t r hio hot hr => ?_) (hf w' hi.j)
    have hio' : ops[i]? = some o := by simpa using hio
    exact hi.dep i o t r hio' hot (hall i (Array.getElem?_eq_some_iff.1 hio').1) hr
  · unfold unl
    rw [List.countP_eq_length.2]
    · simp
    · intro i hi; rw [List.mem_range] at hi; simp [hi]
  · refine ⟨stJ _ _ hJ (Below.refl _ _).drew, rfl, rfl, fun _ _ => rfl, fun i o e hio hl _ _ => ?_, fun i o t r hio _ hl _ => ?_⟩
    · have hlt : i < ops.size := by simpa using (List.getElem?_eq_some_iff.1 hio).1
      simp [hlt] at hl
    have hlt : i < ops.size := (Array.getElem?_eq_some_iff.1 hio).1
    simp [hlt] at hl
theorem build_cons {n m : Nat} {o : Oper} {l : List Oper} {Rs : List (Nat × Rl)} {r : Rl} (h : One P ops Q J b Rs o r) (h2 : Build P ops Q J b m l ((n, r) :: Rs)) (hm : m = n + 1) : Build P ops Q J b n (o :: l) Rs := by subst hm; exact ⟨r, h, h2⟩
theorem build_end {n : Nat} {Rs : List (Nat × Rl)} (h : ∀ w, J w → Fin Q b.defers ops.toList (Rs.reverse.map (·.2)) b.tmps.toList w) : Build P ops Q J b n [] Rs := h
theorem fin_none {D : List Deferred} {o : Oper} {os : List Oper} {r : Rl} {rs : List Rl} {base : List Value} {w : World} (hd : o.dst = none) (h : Fin Q D os rs base w) : Fin Q D (o :: os) (r :: rs) base w := by
  simp only [Fin, hd]; exact h
theorem fin_eq {D : List Deferred} {o : Oper} {os : List Oper} {X : Value} {rs : List Rl} {base : List Value} {w : World} {d : Nat} (hd : o.dst = some d) (h : Fin Q D os rs (base.set d X) w) : Fin Q D (o :: os) (eq X :: rs) base w := by
  simp only [Fin, hd]; rintro _ rfl; exact h
theorem fin_any {D : List Deferred} {o : Oper} {os : List Oper} {r : Rl} {rs : List Rl} {base : List Value} {w : World} {d : Nat} (hd : o.dst = some d) (h : ∀ v, r.R v w → Fin Q D os rs (base.set d v) w) : Fin Q D (o :: os) (r :: rs) base w := by
  simp only [Fin, hd]; exact h
theorem fin_nil {D : List Deferred} {base : List Value} {w : World} (h : Q .normal ⟨base.toArray, D⟩ w) : Fin Q D [] [] base w := h
theorem one_plain {Rs : List (Nat × Rl)} {o : Oper} {r : Rl} (hg : o.guard = none)
    (h : ∀ a w, Known ops J b Rs o a w → ∀ K : Act → World → Prop, (∀ v w', r.R v w' → Below w.heap.size w w' → K (a.put o.dst v) w') → o.wp P a w K Q) : One P ops Q J b Rs o r :=
  fun a w hk => by rw [if_pos (by simp [Region.wanted, hg])]; exact h a w hk
theorem yielded_of {Rs : List (Nat × Rl)} {o : Oper} {a : Act} {w : World} (hk : Known ops J b Rs o a w) {j t : Nat} {g : Bool} (hw : waits o j = true) (ht : (ops.toList[j]?).bind (·.dst) = some t) (hr : look Rs j = some (eq (.bool g))) : yielded ops a.tmps j = some g := by
  obtain ⟨v, hv, rfl⟩ := hk.dep j t _ hw ht hr
  have ht' : (ops[j]?).bind (·.dst) = some t := by simpa using ht
  unfold yielded; rw [ht']; simp [hv]
theorem one_yes {Rs : List (Nat × Rl)} {o : Oper} {r : Rl} (j t : Nat) (g : Bool) (hg : o.guard = some (j, g)) (hw : waits o j = true) (ht : (ops.toList[j]?).bind (·.dst) = some t) (hr : look Rs j = some (eq (.bool g)))
    (h : ∀ a w, Known ops J b Rs o a w → ∀ K : Act → World → Prop, (∀ v w', r.R v w' → Below w.heap.size w w' → K (a.put o.dst v) w') → o.wp P a w K Q) : One P ops Q J b Rs o r :=
  fun a w hk => by rw [if_pos (by simp [Region.wanted, hg, yielded_of hk hw ht hr])]; exact h a w hk
theorem one_no {Rs : List (Nat × Rl)} {o : Oper} (j t : Nat) (g : Bool) (hg : o.guard = some (j, g)) (hw : waits o j = true) (ht : (ops.toList[j]?).bind (·.dst) = some t) (hr : look Rs j = some (eq (.bool !g))) : One P ops Q J b Rs o (eq undef) :=
  fun a w hk => by
    have := yielded_of hk hw ht hr
    rw [if_neg (by simp [Region.wanted, hg, this])]; rfl
end
end Rg
end Go.Proofs.YtgjcibhhffkemaaGreatDoor
namespace Go.Proofs.YtgjcibhhffkemaaGreatDoor
inductive Tree where
  | node (op : Int) (f : Nat → Bool) (mn mx : Int) (kids : List Tree)
inductive Re (α : Type) where
  | ok (a : α) (q : Nat)
  | no (c : Int) (x : Nat)
def ch (s : ByteArray) (p : Nat) : Int := if h : p < s.size then (s[p].toNat : Int) else -1
theorem ch_in {s : ByteArray} {p : Nat} (h : p < s.size) : ch s p = (s[p].toNat : Int) := by unfold ch; rw [dif_pos h]
theorem ch_end {s : ByteArray} {p : Nat} (h : s.size ≤ p) : ch s p = -1 := by unfold ch; rw [dif_neg (by omega)]
theorem ch_lt (s : ByteArray) (p : Nat) : -1 ≤ ch s p ∧ ch s p < 256 := by
  unfold ch; split
  · have := s[p].toNat_lt; omega
  · omega
theorem ch_ge {s : ByteArray} {p : Nat} (h : 0 ≤ ch s p) : p < s.size := by
  rcases Nat.lt_or_ge p s.size with h1 | h1
  · exact h1
  · rw [ch_end h1] at h; omega
theorem ch_pos {s : ByteArray} {p : Nat} (h : p < s.size) : 0 ≤ ch s p := by rw [ch_in h]; omega
def spanF (lo hi : Nat) (y : Nat) : Bool := decide (lo ≤ y) && decide (y < hi)
def digF : Nat → Bool := spanF 48 58
def wordF : Nat → Bool := fun y => (digF y || y == 95) || (spanF 97 123 y || spanF 65 91 y)
def wideF (c : Int) : Option (Nat → Bool) := if c = 100 then some digF else if c = 119 then some wordF else none
def spc : List Int := [92, 46, 91, 93, 40, 41, 123, 125, 124, 63, 42, 43, 94, 36, 45, 47]
def brk : List Int := [93, 41, 125, 123, 124, 63, 94, 36]
def escF (s : ByteArray) (p : Nat) : Re Nat :=
  if ch s p = 110 then .ok 10 (p + 1) else if ch s p = 116 then .ok 9 (p + 1) else if ch s p ∈ spc then .ok (ch s p).toNat (p + 1) else .no 2 p
def memberF (s : ByteArray) (p : Nat) : Re Nat :=
  if ch s p < 0 then .no 2 p else if ch s p = 93 then .no 2 p else if ch s p = 92 then escF s (p + 1) else .ok (ch s p).toNat (p + 1)
def itemE (s : ByteArray) : Re Nat → Re (Nat → Bool)
  | .no c x => .no c x
  | .ok lo q => if ch s q = 45 then (match memberF s (q + 1) with | .no c x => .no c x | .ok hi r => if hi < lo then .no 2 (r - 1) else .ok (spanF lo (hi + 1)) r) else .ok (spanF lo (lo + 1)) q
def itemF (s : ByteArray) (p : Nat) : Re (Nat → Bool) :=
  if ch s p = 92 ∧ p + 1 < s.size then (match wideF (ch s (p + 1)) with | some f => .ok f (p + 2) | none => itemE s (memberF s p)) else itemE s (memberF s p)
def clsF (s : ByteArray) : Nat → (Nat → Bool) → Nat → Re (Nat → Bool)
  | 0, _, p => .no 2 p
  | k + 1, f, p => if ch s p = 93 then .ok f (p + 1) else match itemF s p with | .ok g q => clsF s k (fun y => f y || g y) q | .no c x => .no c x
def Re.map {α β : Type} (h : α → β) : Re α → Re β
  | .ok a q => .ok (h a) q
  | .no c x => .no c x
def clsE (s : ByteArray) (neg : Bool) : Re (Nat → Bool) → Re (Nat → Bool)
  | .ok f q => (clsF s (s.size + 1) f q).map (fun g => if neg then (fun y => !g y) else g)
  | .no c x => .no c x
def classF (s : ByteArray) (p : Nat) : Re (Nat → Bool) := if ch s p = 94 then clsE s true (itemF s (p + 1)) else clsE s false (itemF s p)
def one (f : Nat → Bool) : Tree := .node 1 f 0 0 []
def emp : Nat → Bool := fun _ => false
def catT (l : List Tree) : Tree := .node 2 emp 0 0 l
def altT (l : List Tree) : Tree := .node 3 emp 0 0 l
def repT (mn mx : Int) (t : Tree) : Tree := .node 4 emp mn mx [t]
def numF (s : ByteArray) (p : Nat) : Re Int :=
  if ch s p < 48 ∨ 57 < ch s p then .no 2 p else if 48 ≤ ch s (p + 1) ∧ ch s (p + 1) ≤ 57 then .ok (10 * (ch s p - 48) + ch s (p + 1) - 48) (p + 2) else .ok (ch s p - 48) (p + 1)
def timesE (s : ByteArray) (low : Int) : Re Int → Re (Int × Int)
  | .no c x => .no c x
  | .ok high q => if ch s q ≠ 125 ∨ high < 1 ∨ 32 < high ∨ high < low then .no 2 q else .ok (low, high) (q + 1)
def timesF (s : ByteArray) (p : Nat) : Re (Int × Int) :=
  match numF s p with
  | .no c x => .no c x
  | .ok low q => timesE s low (if ch s q = 44 then numF s (q + 1) else .ok low q)
def atomF (s : ByteArray) (p : Nat) : Re Tree :=
  if ch s p < 0 then .no 2 p
  else if ch s p = 91 then (classF s (p + 1)).map one
  else if ch s p = 46 then .ok (one fun y => !(y == 10)) (p + 1)
  else if ch s p = 92 then (match wideF (ch s (p + 1)) with | some f => .ok (one f) (p + 2) | none => (escF s (p + 1)).map fun c => one (fun y => y == c))
  else if ch s p = 42 ∨ ch s p = 43 then .no 3 p
  else if ch s p ∈ brk then .no 2 p
  else .ok (one fun y => y == (ch s p).toNat) (p + 1)
def closeF (s : ByteArray) : Re Tree → Re Tree
  | .no c x => .no c x
  | .ok t q => if ch s q = 41 then .ok t (q + 1) else .no 2 q
def many (op : Int) : List Tree → Tree
  | [t] => t
  | l => .node op emp 0 0 l
def goes (s : ByteArray) (o p : Nat) : Prop := 0 ≤ ch s p ∧ ch s p ≠ 124 ∧ (ch s p ≠ 41 ∨ o = 0)
inductive Q where
  | atom | piece | pieceL (t : Tree) | part | partL (l : List Tree) | pat | patL (l : List Tree)
inductive P (s : ByteArray) : Q → Nat → Nat → Re Tree → Prop
  | plain {o p} : ch s p ≠ 40 → P s .atom o p (atomF s p)
  | deep {o p} : ch s p = 40 → o = 20 → P s .atom o p (.no 4 p)
  | sub {o p r} : ch s p = 40 → o ≠ 20 → P s .pat (o + 1) (p + 1) r → P s .atom o p (closeF s r)
  | pieceNo {o p c x} : P s .atom o p (.no c x) → P s .piece o p (.no c x)
  | pieceOk {o p t q r} : P s .atom o p (.ok t q) → P s (.pieceL t) o q r → P s .piece o p r
  | opt {o p t r} : ch s p = 63 → P s (.pieceL (repT 0 1 t)) o (p + 1) r → P s (.pieceL t) o p r
  | times {o p t m n q r} : ch s p = 123 → timesF s (p + 1) = .ok (m, n) q → P s (.pieceL (repT m n t)) o q r → P s (.pieceL t) o p r
  | timesNo {o p t c x} : ch s p = 123 → timesF s (p + 1) = .no c x → P s (.pieceL t) o p (.no c x)
  | pieceEnd {o p t} : ch s p ≠ 63 → ch s p ≠ 123 → P s (.pieceL t) o p (.ok t p)
  | partNo {o p c x} : P s .piece o p (.no c x) → P s .part o p (.no c x)
  | partOk {o p t q r} : P s .piece o p (.ok t q) → P s (.partL [t]) o q r → P s .part o p r
  | partMore {o p l t q r} : goes s o p → P s .piece o p (.ok t q) → P s (.partL (l ++ [t])) o q r → P s (.partL l) o p r
  | partBad {o p l c x} : goes s o p → P s .piece o p (.no c x) → P s (.partL l) o p (.no c x)
  | partEnd {o p l} : ¬ goes s o p → P s (.partL l) o p (.ok (many 2 l) p)
  | patNo {o p c x} : P s .part o p (.no c x) → P s .pat o p (.no c x)
  | patOk {o p t q r} : P s .part o p (.ok t q) → P s (.patL [t]) o q r → P s .pat o p r
  | patMore {o p l t q r} : ch s p = 124 → P s .part o (p + 1) (.ok t q) → P s (.patL (l ++ [t])) o q r → P s (.patL l) o p r
  | patBad {o p l c x} : ch s p = 124 → P s .part o (p + 1) (.no c x) → P s (.patL l) o p (.no c x)
  | patEnd {o p l} : ch s p ≠ 124 → P s (.patL l) o p (.ok (many 3 l) p)
def Re.in {α : Type} (r : Re α) (lo n : Nat) : Prop := match r with | .ok _ q => lo ≤ q ∧ q ≤ n | .no c x => (c = 2 ∨ c = 3 ∨ c = 4) ∧ x ≤ n
theorem escF_in (s : ByteArray) (p : Nat) (hp : p ≤ s.size) : (escF s p).in (p + 1) s.size ∧ ∀ a q, escF s p = .ok a q → a < 256 := by
  have hl := ch_lt s p
  unfold escF
  split
  · rename_i h; have := ch_ge (s := s) (p := p) (by omega); exact ⟨⟨by omega, by omega⟩, fun a q h => by injection h; omega⟩
  split
  · rename_i h; have := ch_ge (s := s) (p := p) (by omega); exact ⟨⟨by omega, by omega⟩, fun a q h => by injection h; omega⟩
  split
  · rename_i h
    have h0 : 0 ≤ ch s p := by
      unfold spc at h; simp only [List.mem_cons, List.not_mem_nil, or_false] at h; omega
    have := ch_ge (s := s) (p := p) h0
    exact ⟨⟨by omega, by omega⟩, fun a q h => by injection h; omega⟩
  · exact ⟨⟨.inl rfl, hp⟩, fun a q h => by cases h⟩
theorem memberF_in (s : ByteArray) (p : Nat) (hp : p ≤ s.size) : (memberF s p).in (p + 1) s.size ∧ ∀ a q, memberF s p = .ok a q → a < 256 := by
  have hl := ch_lt s p
  unfold memberF
  split
  · exact ⟨⟨.inl rfl, hp⟩, fun a q h => by cases h⟩
  rename_i h0
  have hp1 := ch_ge (s := s) (p := p) (by omega)
  split
  · exact ⟨⟨.inl rfl, hp⟩, fun a q h => by cases h⟩
  split
  · obtain ⟨h1, h2⟩ := escF_in s (p + 1) hp1
    refine ⟨?_, h2⟩
    unfold Re.in at *
    split at h1 <;> simp_all
    omega
  · exact ⟨⟨by omega, by omega⟩, fun a q h => by injection h; omega⟩
theorem itemE_in (s : ByteArray) (p : Nat) (r : Re Nat) (h : r.in (p + 1) s.size) : (itemE s r).in (p + 1) s.size := by
  cases r with
  | no c x => exact h
  | ok lo q =>
    obtain ⟨h1, h2⟩ := h
    rw [itemE]
    split
    · rename_i hc
      have hq := ch_ge (s := s) (p := q) (by omega)
      obtain ⟨h3, _⟩ := memberF_in s (q + 1) hq
      cases hm : memberF s (q + 1) with
      | no c x => rw [hm] at h3; exact h3
      | ok hi r =>
        rw [hm] at h3
        obtain ⟨h4, h5⟩ := h3
        dsimp only
        split
        · exact ⟨.inl rfl, by omega⟩
        · exact ⟨by omega, by omega⟩
    · exact ⟨h1, h2⟩
theorem itemF_in (s : ByteArray) (p : Nat) (hp : p ≤ s.size) : (itemF s p).in (p + 1) s.size := by
  have h1 := itemE_in s p _ (memberF_in s p hp).1
  unfold itemF
  split
  · rename_i h
    split
    · exact ⟨by omega, by omega⟩
    · exact h1
  · exact h1
theorem clsF_in (s : ByteArray) (k : Nat) : ∀ f p, p ≤ s.size → (clsF s k f p).in (p + 1) s.size := by
  induction k with
  | zero => intro f p hp; exact ⟨.inl rfl, hp⟩
  | succ k ih =>
    intro f p hp
    rw [clsF]
    split
    · rename_i h; have := ch_ge (s := s) (p := p) (by omega); exact ⟨by omega, by omega⟩
    · have h1 := itemF_in s p hp
      cases hm : itemF s p with
      | no c x => rw [hm] at h1; exact h1
      | ok g q =>
        rw [hm] at h1
        obtain ⟨h2, h3⟩ := h1
        have h4 := ih (fun y => f y || g y) q h3
        dsimp only
        generalize clsF s k (fun y => f y || g y) q = r at h4
        cases r with
        | no c x => exact h4
        | ok a b => exact ⟨by have := h4.1; omega, h4.2⟩
theorem Re.in_map {α β : Type} {h : α → β} {r : Re α} {a b : Nat} (hr : r.in a b) : (r.map h).in a b := by cases r <;> exact hr
theorem clsE_in (s : ByteArray) (neg : Bool) (p : Nat) (r : Re (Nat → Bool)) (h : r.in (p + 1) s.size) : (clsE s neg r).in (p + 1) s.size := by
  cases r with
  | no c x => exact h
  | ok f q =>
    rw [clsE]
    have h4 := clsF_in s (s.size + 1) f q h.2
    refine Re.in_map ?_
    generalize clsF s (s.size + 1) f q = r at h4
    cases r with
    | no c x => exact h4
    | ok a b => exact ⟨by have := h4.1; have := h.1; omega, h4.2⟩
theorem Re.in_le {α : Type} {r : Re α} {a a' b : Nat} (hr : r.in a b) (h : a' ≤ a) : r.in a' b := by
  cases r with
  | no c x => exact hr
  | ok x q => exact ⟨Nat.le_trans h hr.1, hr.2⟩
theorem classF_in (s : ByteArray) (p : Nat) (hp : p ≤ s.size) : (classF s p).in (p + 1) s.size := by
  unfold classF
  split
  · rename_i h; have := ch_ge (s := s) (p := p) (by omega)
    exact Re.in_le (clsE_in s true (p + 1) _ (itemF_in s (p + 1) this)) (by omega)
  · exact clsE_in s false p _ (itemF_in s p hp)
theorem numF_in (s : ByteArray) (p : Nat) (hp : p ≤ s.size) : (numF s p).in (p + 1) s.size ∧ ∀ a q, numF s p = .ok a q → 0 ≤ a ∧ a ≤ 99 := by
  unfold numF
  split
  · exact ⟨⟨.inl rfl, hp⟩, fun a q h => by cases h⟩
  rename_i h0
  have := ch_ge (s := s) (p := p) (by omega)
  split
  · rename_i h1
    have := ch_ge (s := s) (p := p + 1) (by omega)
    exact ⟨⟨by omega, by omega⟩, fun a q h => by injection h; omega⟩
  · exact ⟨⟨by omega, by omega⟩, fun a q h => by injection h; omega⟩
theorem timesE_in (s : ByteArray) (low : Int) (p : Nat) (r : Re Int) (h : r.in p s.size) : (timesE s low r).in (p + 1) s.size ∧ ∀ m n q, timesE s low r = .ok (m, n) q → m = low ∧ 1 ≤ n ∧ n ≤ 32 ∧ m ≤ n := by
  cases r with
  | no c x => exact ⟨h, fun m n q h => by cases h⟩
  | ok high q =>
    obtain ⟨h1, h2⟩ := h
    rw [timesE]
    split
    · exact ⟨⟨.inl rfl, h2⟩, fun m n q h => by cases h⟩
    · rename_i hh
      have := ch_ge (s := s) (p := q) (by omega)
      exact ⟨⟨by omega, by omega⟩, fun m n q h => by injection h with h h'; injection h with h h''; subst h; subst h''; omega⟩
theorem timesF_in (s : ByteArray) (p : Nat) (hp : p ≤ s.size) : (timesF s p).in (p + 1) s.size ∧ ∀ m n q, timesF s p = .ok (m, n) q → 0 ≤ m ∧ 1 ≤ n ∧ n ≤ 32 ∧ m ≤ n := by
  unfold timesF
  obtain ⟨h1, h2⟩ := numF_in s p hp
  cases hm : numF s p with
  | no c x => rw [hm] at h1; exact ⟨h1, fun m n q h => by cases h⟩
  | ok low q =>
    rw [hm] at h1 h2
    obtain ⟨h3, h4⟩ := h1
    have h5 := h2 low q rfl
    have h6 : (if ch s q = 44 then numF s (q + 1) else Re.ok low q).in q s.size := by
      split
      · rename_i hc
        have := ch_ge (s := s) (p := q) (by omega)
        exact Re.in_le (numF_in s (q + 1) this).1 (by omega)
      · exact ⟨Nat.le_refl _, h4⟩
    obtain ⟨h7, h8⟩ := timesE_in s low q _ h6
    exact ⟨Re.in_le h7 (by omega), fun m n q' h => by have := h8 m n q' h; omega⟩
theorem atomF_in (s : ByteArray) (p : Nat) (hp : p ≤ s.size) : (atomF s p).in (p + 1) s.size := by
  unfold atomF
  split
  · exact ⟨.inl rfl, hp⟩
  rename_i h0
  have hp1 := ch_ge (s := s) (p := p) (by omega)
  split
  · exact Re.in_map (Re.in_le (classF_in s (p + 1) hp1) (by omega))
  split
  · exact ⟨by omega, by omega⟩
  split
  · split
    · rename_i f hf
      have h2 : 0 ≤ ch s (p + 1) := by 
        unfold wideF at hf
        split at hf
        · omega
        · split at hf
          · omega
          · cases hf
      have := ch_ge h2
      exact ⟨by omega, by omega⟩
    · exact Re.in_map (Re.in_le (escF_in s (p + 1) hp1).1 (by omega))
  split
  · exact ⟨.inr (.inl rfl), hp⟩
  split
  · exact ⟨.inl rfl, hp⟩
  · exact ⟨by omega, by omega⟩
theorem closeF_in (s : ByteArray) (p : Nat) (r : Re Tree) (h : r.in p s.size) : (closeF s r).in p s.size := by
  cases r with
  | no c x => exact h
  | ok t q =>
    rw [closeF]
    split
    · rename_i hc
      have := ch_ge (s := s) (p := q) (by omega)
      exact ⟨by have := h.1; omega, by omega⟩
    · exact ⟨.inl rfl, h.2⟩
def Q.far : Q → Nat
  | .atom => 1 | .piece => 1 | .pieceL _ => 0 | .part => 1 | .partL _ => 0 | .pat => 1 | .patL _ => 0
theorem P.in {s : ByteArray} {q : Q} {o p : Nat} {r : Re Tree} (h : P s q o p r) : p ≤ s.size → r.in (p + q.far) s.size := by
  induction h with
  | plain h => exact fun hp => atomF_in s _ hp
  | deep h => exact fun hp => ⟨.inr (.inr rfl), hp⟩
  | @sub o p r h h1 h2 ih =>
    intro hp
    have := ch_ge (s := s) (p := p) (by omega)
    exact closeF_in s _ _ (Re.in_le (ih this) (by simp [Q.far]))
  | pieceNo h ih => exact fun hp => ih hp
  | @pieceOk o p t q r h h1 ih ih1 => exact fun hp => Re.in_le (ih1 (ih hp).2) (by have := (ih hp).1; simp [Q.far] at *; omega)
  | @opt o p t r h h1 ih =>
    intro hp
    have := ch_ge (s := s) (p := p) (by omega)
    exact Re.in_le (ih this) (by simp [Q.far])
  | @times o p t m n q r h h1 h2 ih =>
    intro hp
    have := ch_ge (s := s) (p := p) (by omega)
    have h3 := (timesF_in s (p + 1) this).1
    rw [h1] at h3
    exact Re.in_le (ih h3.2) (by have := h3.1; simp [Q.far]; omega)
  | @timesNo o p t c x h h1 =>
    intro hp
    have := ch_ge (s := s) (p := p) (by omega)
    have h3 := (timesF_in s (p + 1) this).1
    rw [h1] at h3
    exact h3
  | pieceEnd => exact fun hp => ⟨by simp [Q.far], hp⟩
  | partNo h ih => exact fun hp => ih hp
  | @partOk o p t q r h h1 ih ih1 => exact fun hp => Re.in_le (ih1 (ih hp).2) (by have := (ih hp).1; simp [Q.far] at *; omega)
  | @partMore o p l t q r h h1 h2 ih ih1 => exact fun hp => Re.in_le (ih1 (ih hp).2) (by have := (ih hp).1; simp [Q.far] at *; omega)
  | partBad h h1 ih => exact fun hp => ih hp
  | partEnd => exact fun hp => ⟨by simp [Q.far], hp⟩
  | patNo h ih => exact fun hp => ih hp
  | @patOk o p t q r h h1 ih ih1 => exact fun hp => Re.in_le (ih1 (ih hp).2) (by have := (ih hp).1; simp [Q.far] at *; omega)
  | @patMore o p l t q r h h1 h2 ih ih1 =>
    intro hp
    have := ch_ge (s := s) (p := p) (by omega)
    exact Re.in_le (ih1 (ih this).2) (by have := (ih this).1; simp [Q.far] at *; omega)
  | @patBad o p l c x h h1 ih =>
    intro hp
    have := ch_ge (s := s) (p := p) (by omega)
    exact ih this
  | patEnd => exact fun hp => ⟨by simp [Q.far], hp⟩
end Go.Proofs.YtgjcibhhffkemaaGreatDoor
namespace Go.Proofs.YtgjcibhhffkemaaGreatDoor
namespace Bt
def pk (f : Nat → Bool) : Nat → Nat
  | 0 => 0
  | n + 1 => pk f n + if f n then 2 ^ n else 0
theorem pk_lt (f : Nat → Bool) (n : Nat) : pk f n < 2 ^ n := by
  induction n with
  | zero => simp [pk]
  | succ n ih => simp only [pk]; rw [Nat.pow_succ]; split <;> omega
theorem pk_test (f : Nat → Bool) (n j : Nat) : (pk f n).testBit j = (decide (j < n) && f j) := by
  induction n with
  | zero => simp [pk]
  | succ n ih =>
    simp only [pk]
    have hl := pk_lt f n
    by_cases hf : f n
    · rw [if_pos hf, Nat.add_comm]
      rcases Nat.lt_trichotomy j n with h | h | h
      · rw [Nat.testBit_two_pow_add_gt h, ih]; simp [h, Nat.lt_succ_of_lt h]
      · subst h; rw [Nat.testBit_two_pow_add_eq, ih]; simp [hf]
      · rw [Nat.testBit_lt_two_pow]
        · simp; omega
        · calc 2 ^ n + pk f n < 2 ^ n + 2 ^ n := by omega
            _ = 2 ^ (n + 1) := by rw [Nat.pow_succ]; omega
            _ ≤ 2 ^ j := Nat.pow_le_pow_right (by decide) h
    · rw [if_neg hf, Nat.add_zero, ih]
      by_cases h : j = n
      · subst h; simp [hf]
      · have : decide (j < n + 1) = decide (j < n) := by simp; omega
        rw [this]
theorem pk_ext {f g : Nat → Bool} {n : Nat} (h : ∀ j, j < n → f j = g j) : pk f n = pk g n := by
  apply Nat.eq_of_testBit_eq
  intro j
  rw [pk_test, pk_test]
  by_cases hj : j < n
  · rw [h j hj]
  · simp [hj]
theorem pk_or (f g : Nat → Bool) (n : Nat) : pk f n ||| pk g n = pk (fun j => f j || g j) n := by
  apply Nat.eq_of_testBit_eq
  intro j
  rw [Nat.testBit_or, pk_test, pk_test, pk_test]
  cases decide (j < n) <;> simp
theorem pk_put (f : Nat → Bool) (n k : Nat) (hk : k < n) : pk f n ||| 2 ^ k = pk (fun j => f j || j == k) n := by
  apply Nat.eq_of_testBit_eq
  intro j
  rw [Nat.testBit_or, pk_test, pk_test, Nat.testBit_two_pow]
  by_cases hj : j < n
  · by_cases e : k = j
    · subst e; simp [hj]
    · have : ¬ j = k := fun h => e h.symm
      simp [hj, e, this]
  · have : ¬ k = j := by omega
    simp [hj, this]
def wd (f : Nat → Bool) (i : Nat) : Nat := pk (fun j => f (64 * i + j)) 64
theorem wd_lt (f : Nat → Bool) (i : Nat) : wd f i < 18446744073709551616 := pk_lt _ 64
theorem wd_ext {f g : Nat → Bool} (h : ∀ x, x < 256 → f x = g x) (i : Nat) (hi : i < 4) : wd f i = wd g i := pk_ext fun j hj => h _ (by omega)
theorem wd_test (f : Nat → Bool) (x : Nat) : (wd f (x / 64)).testBit (x % 64) = f x := by
  unfold wd; rw [pk_test, Nat.div_add_mod]; simp; omega
theorem wd_or (f g : Nat → Bool) (i : Nat) : wd f i ||| wd g i = wd (fun x => f x || g x) i := pk_or _ _ _
theorem wd_put (f : Nat → Bool) (x : Nat) : wd f (x / 64) ||| 2 ^ (x % 64) = wd (fun y => f y || y == x) (x / 64) := by
  unfold wd; rw [pk_put _ _ _ (by omega)]
  apply pk_ext; intro j hj
  have : (j == x % 64) = (64 * (x / 64) + j == x) := by rw [Bool.eq_iff_iff]; simp; omega
  simp only [this]
theorem wd_keep (f : Nat → Bool) (x i : Nat) (h : i ≠ x / 64) : wd (fun y => f y || y == x) i = wd f i := by
  unfold wd; apply pk_ext; intro j hj
  have : (64 * i + j == x) = false := by rw [beq_eq_false_iff_ne]; omega
  simp [this]
theorem wd_none (i : Nat) : wd (fun _ => false) i = 0 := by
  unfold wd
  have : ∀ n, pk (fun _ => false) n = 0 := fun n => by induction n with | zero => rfl | succ n ih => simp [pk, ih]
  exact this 64
end Bt
end Go.Proofs.YtgjcibhhffkemaaGreatDoor
namespace Go.Proofs.YtgjcibhhffkemaaGreatDoor
namespace Luhn
def ldig (n c : Int) : Int := if n % 2 = 1 then (if 9 < (c - 48) * 2 then (c - 48) * 2 - 9 else (c - 48) * 2) else c - 48
def lstep (c : Int) (st : Int × Int) : Int × Int := if c < 48 ∨ 57 < c then st else (st.1 + 1, (st.2 + ldig st.1 c) % 10)
def luhn (w : List Int) : Int × Int := w.foldr lstep (0, 0)
end Luhn
end Go.Proofs.YtgjcibhhffkemaaGreatDoor
namespace Go.Proofs.YtgjcibhhffkemaaGreatDoor
open Go.RowKit Luhn
def RdB (w : World) (v : Value) (xs : List Int) : Prop :=
  (xs = [] ∧ ∃ a c, v = .slice a 0 c) ∨ ∃ b off cap, v = .slice (some ⟨b, off, none⟩) xs.length cap ∧ xs.length ≤ cap ∧ xs.length ≤ 140737488355328 ∧
    (∀ j, j < xs.length → w.cell? ⟨b, off + j, none⟩ = some (.int .u8 (xs.getD j 0))) ∧ (∀ j, 0 ≤ xs.getD j 0 ∧ xs.getD j 0 ≤ 255)
theorem rdB_cells {W : World} {g T c : Nat} {fr : Nat × Nat} (cs : List Int) (h : W.heap[g]? = some (.cells (cs.map (Value.int .u8)).toArray T fr)) (hc : cs.length ≤ c) (hm : cs.length ≤ 140737488355328) (hb : ∀ x ∈ cs, 0 ≤ x ∧ x ≤ 255) :
    RdB W (.slice (some ⟨g, 0, none⟩) cs.length c) cs := by
  refine .inr ⟨g, 0, c, rfl, hc, hm, fun j hj => ?_, fun j => ?_⟩
  · simp [World.cell?, h, List.getElem?_eq_getElem hj, List.getD_eq_getElem?_getD]
  · by_cases hj : j < cs.length
    · have := hb cs[j] (List.getElem_mem hj)
      simpa [List.getD_eq_getElem?_getD, List.getElem?_eq_getElem hj] using this
    · simp [List.getD_eq_getElem?_getD, List.getElem?_eq_none (Nat.not_lt.1 hj)]
theorem rdB_below {W W1 : World} {v : Value} {xs : List Int} (h : RdB W v xs) (hb : Below W.heap.size W W1) : RdB W1 v xs := by
  rcases h with h | ⟨b, off, cap, rfl, hcap, hmax, hc, hbd⟩
  · exact .inl h
  · exact .inr ⟨b, off, cap, rfl, hcap, hmax, fun j hj => (hb.cell (World.block_lt_of_cell? W _ (hc j hj))).trans (hc j hj), hbd⟩
theorem take_snoc (xs : List Int) (k : Nat) (h : k < xs.length) : xs.take (k + 1) = xs.take k ++ [xs.getD k 0] := by
  rw [List.take_succ_eq_append_getElem h]; simp [List.getD_eq_getElem?_getD, List.getElem?_eq_getElem h]
theorem rdB_of {W : World} {v : Value} {xs : List Int} (h : RdK .u8 W v xs) : RdB W v xs := by
  rcases h with h | ⟨b, off, cap, rfl, hcap, hm, hc, hw⟩
  · exact .inl h
  · refine .inr ⟨b, off, cap, rfl, hcap, hm, hc, fun j => ?_⟩
    by_cases hj : j < xs.length
    · have := hw xs[j] (List.getElem_mem hj)
      have h8 := bounds_u8 this
      simp [List.getD_eq_getElem?_getD, List.getElem?_eq_getElem hj]
      omega
    · simp [List.getD_eq_getElem?_getD, List.getElem?_eq_none (Nat.not_lt.1 hj)]
end Go.Proofs.YtgjcibhhffkemaaGreatDoor
namespace Go.Proofs.YtgjcibhhffkemaaGreatDoor
open Go.RowKit Bt
abbrev setV (a b c d : Int) : Value := .agg #[.int .u64 a, .int .u64 b, .int .u64 c, .int .u64 d]
abbrev setC (a b c d : Int) : Array Value := #[.int .u64 a, .int .u64 b, .int .u64 c, .int .u64 d]
def setOf (f : Nat → Bool) : Value := setV (wd f 0) (wd f 1) (wd f 2) (wd f 3)
def cellsOf (f : Nat → Bool) : Array Value := setC (wd f 0) (wd f 1) (wd f 2) (wd f 3)
theorem setOf_ext {f g : Nat → Bool} (h : ∀ x, x < 256 → f x = g x) : setOf f = setOf g := by
  unfold setOf; rw [wd_ext h 0 (by decide), wd_ext h 1 (by decide), wd_ext h 2 (by decide), wd_ext h 3 (by decide)]
theorem cellsOf_ext {f g : Nat → Bool} (h : ∀ x, x < 256 → f x = g x) : cellsOf f = cellsOf g := by
  unfold cellsOf; rw [wd_ext h 0 (by decide), wd_ext h 1 (by decide), wd_ext h 2 (by decide), wd_ext h 3 (by decide)]
theorem bit_and (n j : Nat) (hn : n < 18446744073709551616) : (bits BinOp.and IntKind.u64 ((n : Int) / 2 ^ j) 1 == 1) = n.testBit j := by
  have e : (n : Int) / 2 ^ j = ((n / 2 ^ j : Nat) : Int) := by simp
  have hl : n / 2 ^ j < 18446744073709551616 := Nat.lt_of_le_of_lt (Nat.div_le_self _ _) hn
  rw [e, show (1 : Int) = ((1 : Nat) : Int) from rfl, u64_and_nat _ _ hl (by decide), nat_mask1, Nat.testBit_eq_decide_div_mod_eq, Bool.eq_iff_iff]
  simp; omega
set_option maxHeartbeats 800000 in
theorem has_q0 (a b c d x : Int) (w : World) (h0 : 0 ≤ x) (h1 : x ≤ 63) (hq : x / 64 = 0) (ha : 0 ≤ a) (hb : 0 ≤ b) (hc : 0 ≤ c) (hd : 0 ≤ d) :
    Calls Tryz.prog 18 #[setV a b c d, .int .u8 x] w fun e w' => e = .returned (.bool (bits BinOp.and IntKind.u64 (a / 2 ^ (x % 64).toNat) 1 == 1)) ∧ Below w.heap.size w w' := by
  go_enter Tryz.func18, Tryz.ntmps18
  go_wp2
  go_returns
  exact ⟨rfl, by go_grown⟩
set_option maxHeartbeats 800000 in
theorem has_q1 (a b c d x : Int) (w : World) (h0 : 64 ≤ x) (h1 : x ≤ 127) (hq : x / 64 = 1) (ha : 0 ≤ a) (hb : 0 ≤ b) (hc : 0 ≤ c) (hd : 0 ≤ d) :
    Calls Tryz.prog 18 #[setV a b c d, .int .u8 x] w fun e w' => e = .returned (.bool (bits BinOp.and IntKind.u64 (b / 2 ^ (x % 64).toNat) 1 == 1)) ∧ Below w.heap.size w w' := by
  go_enter Tryz.func18, Tryz.ntmps18
  go_wp2
  go_returns
  exact ⟨rfl, by go_grown⟩
set_option maxHeartbeats 800000 in
theorem has_q2 (a b c d x : Int) (w : World) (h0 : 128 ≤ x) (h1 : x ≤ 191) (hq : x / 64 = 2) (ha : 0 ≤ a) (hb : 0 ≤ b) (hc : 0 ≤ c) (hd : 0 ≤ d) :
    Calls Tryz.prog 18 #[setV a b c d, .int .u8 x] w fun e w' => e = .returned (.bool (bits BinOp.and IntKind.u64 (c / 2 ^ (x % 64).toNat) 1 == 1)) ∧ Below w.heap.size w w' := by
  go_enter Tryz.func18, Tryz.ntmps18
  go_wp2
  go_returns
  exact ⟨rfl, by go_grown⟩
set_option maxHeartbeats 800000 in
theorem has_q3 (a b c d x : Int) (w : World) (h0 : 192 ≤ x) (h1 : x ≤ 255) (hq : x / 64 = 3) (ha : 0 ≤ a) (hb : 0 ≤ b) (hc : 0 ≤ c) (hd : 0 ≤ d) :
    Calls Tryz.prog 18 #[setV a b c d, .int .u8 x] w fun e w' => e = .returned (.bool (bits BinOp.and IntKind.u64 (d / 2 ^ (x % 64).toNat) 1 == 1)) ∧ Below w.heap.size w w' := by
  go_enter Tryz.func18, Tryz.ntmps18
  go_wp2
  go_returns
  exact ⟨rfl, by go_grown⟩
theorem has_any (f : Nat → Bool) (x : Int) (w : World) (h0 : 0 ≤ x) (h1 : x ≤ 255) :
    Calls Tryz.prog 18 #[setOf f, .int .u8 x] w fun e w' => e = .returned (.bool (f x.toNat)) ∧ Below w.heap.size w w' := by
  obtain ⟨n, rfl⟩ := Int.eq_ofNat_of_zero_le h0
  have hm : ((n : Int) % 64).toNat = n % 64 := by omega
  have hw := wd_test f n
  rcases (by omega : n / 64 = 0 ∨ n / 64 = 1 ∨ n / 64 = 2 ∨ n / 64 = 3) with h | h | h | h
  · rw [h] at hw
    refine (has_q0 _ _ _ _ (n : Int) w (by omega) (by omega) (by omega) (by omega) (by omega) (by omega) (by omega)).mono fun e w' ⟨he, hb⟩ => ⟨?_, hb⟩
    rw [he, hm, bit_and _ _ (wd_lt _ _), hw]; rfl
  · rw [h] at hw
    refine (has_q1 _ _ _ _ (n : Int) w (by omega) (by omega) (by omega) (by omega) (by omega) (by omega) (by omega)).mono fun e w' ⟨he, hb⟩ => ⟨?_, hb⟩
    rw [he, hm, bit_and _ _ (wd_lt _ _), hw]; rfl
  · rw [h] at hw
    refine (has_q2 _ _ _ _ (n : Int) w (by omega) (by omega) (by omega) (by omega) (by omega) (by omega) (by omega)).mono fun e w' ⟨he, hb⟩ => ⟨?_, hb⟩
    rw [he, hm, bit_and _ _ (wd_lt _ _), hw]; rfl
  · rw [h] at hw
    refine (has_q3 _ _ _ _ (n : Int) w (by omega) (by omega) (by omega) (by omega) (by omega) (by omega) (by omega)).mono fun e w' ⟨he, hb⟩ => ⟨?_, hb⟩
    rw [he, hm, bit_and _ _ (wd_lt _ _), hw]; rfl
def memF (xs : List Int) (y : Nat) : Bool := xs.contains (y : Int)
theorem memF_snoc (xs : List Int) (x : Int) (h : 0 ≤ x) : memF (xs ++ [x]) = fun y => memF xs y || y == x.toNat := by
  funext y; obtain ⟨n, rfl⟩ := Int.eq_ofNat_of_zero_le h
  simp only [memF, List.contains_append, List.contains_cons, List.contains_nil, Bool.or_false, Int.toNat_natCast]
  congr 1; rw [Bool.eq_iff_iff, beq_iff_eq, beq_iff_eq]; omega
theorem memF_nil : memF [] = fun _ => false := by funext y; simp [memF]
theorem cells_none : cellsOf (fun _ => false) = setC 0 0 0 0 := by unfold cellsOf; simp [wd_none]
theorem cells_put (f : Nat → Bool) (x : Nat) (hx : x < 256) : cellsOf (fun y => f y || y == x) = (cellsOf f).set! (x / 64) (.int .u64 ((wd f (x / 64) ||| 2 ^ (x % 64) : Nat) : Int)) := by
  rw [wd_put]
  unfold cellsOf
  have hk := fun i (h : i ≠ x / 64) => wd_keep f x i h
  rcases (by omega : x / 64 = 0 ∨ x / 64 = 1 ∨ x / 64 = 2 ∨ x / 64 = 3) with h | h | h | h
  · rw [hk 1 (by omega), hk 2 (by omega), hk 3 (by omega), h]; rfl
  · rw [hk 0 (by omega), hk 2 (by omega), hk 3 (by omega), h]; rfl
  · rw [hk 0 (by omega), hk 1 (by omega), hk 3 (by omega), h]; rfl
  · rw [hk 0 (by omega), hk 1 (by omega), hk 2 (by omega), h]; rfl
theorem or_put (f : Nat → Bool) (c : Int) (q : Nat) (h0 : 0 ≤ c) (h1 : c ≤ 255) (hq : c / 64 = q) :
    (Value.int .u64 (bits BinOp.or IntKind.u64 ((wd f q : Nat) : Int) (IntKind.u64.wrap (2 ^ (c % 64).toNat))) = .int .u64 ((wd f q ||| 2 ^ (c.toNat % 64) : Nat) : Int)) ∧
    cellsOf (fun y => f y || y == c.toNat) = (cellsOf f).set! q (.int .u64 ((wd f q ||| 2 ^ (c.toNat % 64) : Nat) : Int)) := by
  obtain ⟨n, rfl⟩ := Int.eq_ofNat_of_zero_le h0
  have hn : n / 64 = q := by omega
  have hm : ((n : Int) % 64).toNat = n % 64 := by omega
  have hp : 2 ^ (n % 64) < 18446744073709551616 := by
    calc 2 ^ (n % 64) ≤ 2 ^ 63 := Nat.pow_le_pow_right (by decide) (by omega)
      _ < 18446744073709551616 := by decide
  constructor
  · rw [hm, IntKind.wrap_u64, show ((2 : Int) ^ (n % 64)) % 18446744073709551616 = ((2 ^ (n % 64) : Nat) : Int) from by
      have e : ((2 : Int) ^ (n % 64)) = ((2 ^ (n % 64) : Nat) : Int) := by simp
      rw [e]; generalize 2 ^ (n % 64) = p at hp ⊢; omega, u64_or_nat _ _ (wd_lt _ _) hp]
    rfl
  · have := cells_put f n (by omega)
    rw [hn] at this
    exact this
set_option maxRecDepth 100000 in
set_option maxHeartbeats 1600000 in
theorem of_any (v : Value) (xs : List Int) (w : World) (h : RdB w v xs) :
    Calls Tryz.prog 122 #[v] w fun e w' => e = .returned (setOf (memF xs)) ∧ Below w.heap.size w w' := by
  rcases h with ⟨rfl, a, c, rfl⟩ | ⟨b, off, cap, rfl, hcap, hmax, hc, hb⟩
  · go_enter Tryz.func122, Tryz.ntmps122
    go_wp2
    refine wp_loop_rounds 1 ?_; rw [rounds_succ]
    go_wp2
    go_returns
    exact ⟨by rw [memF_nil]; unfold setOf; simp [wd_none], by go_grown⟩
  · have HC := Lib.hid hc; have HB := Lib.hid hb; clear hc hb
    go_enter Tryz.func122, Tryz.ntmps122
    go_wp2
    go_loopw [8] (fun i wr => ∃ k : Nat, k ≤ xs.length ∧ i = .int .i64 k ∧ AtG wr (w.heap.size + 1) 38 (cellsOf (memF (xs.take k))) ∧ AtG wr w.heap.size 38 (setC 0 0 0 0) ∧ Below w.heap.size w wr) (fun i _ => xs.length - (intOf i).toNat)
    case atStart => exact ⟨0, Nat.zero_le _, rfl, by rw [List.take_zero, memF_nil, cells_none]; have := AtG.new (w.alloc (.cells (setC 0 0 0 0) 38)) 38 (setC 0 0 0 0); simpa using this, (AtG.new w _ _).alloc _, by go_grown⟩
    case round =>
      obtain ⟨k, hk, rfl, hat, hres, hbl⟩ := hrel
      have hl0 := hat.lt
      by_cases hlt : k < xs.length
      · have hck := HC.out k hlt
        obtain ⟨hb0, hb1⟩ := HB.out k
        have hlb : b < w.heap.size := World.block_lt_of_cell? w _ hck
        have hck' : wr.cell? ⟨b, off + k, none⟩ = some (.int .u8 (xs.getD k 0)) := (hbl.cell (p := ⟨b, off + k, none⟩) hlb).trans hck
        have hts := take_snoc xs k hlt
        clear hck
        have HT := Lib.hid hts; have HBL := Lib.hid hbl; have HAT := Lib.hid hat; have HRES := Lib.hid hres; clear hts hbl hat hres
        generalize xs.getD k 0 = c at *
        have hne : b ≠ w.heap.size + 1 := by omega
        have hsn := memF_snoc (xs.take k) c hb0
        rw [← HT.out] at hsn
        have HSN := Lib.hid hsn; clear hsn
        have hq4 : c / 64 = 0 ∨ c / 64 = 1 ∨ c / 64 = 2 ∨ c / 64 = 3 := by omega
        rcases hq4 with hq | hq | hq | hq
        · as_aux_lemma =>
            have c0 : wr.cell? ⟨w.heap.size + 1, 0, none⟩ = some (.int .u64 ((wd (memF (xs.take k)) 0 : Nat) : Int)) := HAT.out.cell 0 _ rfl
            have f0 := HAT.out.frozen 0
            have HE := Lib.hid (or_put (memF (xs.take k)) c 0 hb0 hb1 hq)
            generalize ((wd (memF (xs.take k)) 0 : Nat) : Int) = A at c0 HE
            go_wp2
            exact ⟨⟨k + 1, by omega, by go_num, by rw [HSN.out, HE.out.2, ← HE.out.1]; exact HAT.out.set 0 _, HRES.out.far (by simp) _, HBL.out.setCell (by simp) _⟩, by simp [intOf]; omega⟩
        · as_aux_lemma =>
            have c0 : wr.cell? ⟨w.heap.size + 1, 1, none⟩ = some (.int .u64 ((wd (memF (xs.take k)) 1 : Nat) : Int)) := HAT.out.cell 1 _ rfl
            have f0 := HAT.out.frozen 1
            have HE := Lib.hid (or_put (memF (xs.take k)) c 1 hb0 hb1 hq)
            generalize ((wd (memF (xs.take k)) 1 : Nat) : Int) = A at c0 HE
            go_wp2
            exact ⟨⟨k + 1, by omega, by go_num, by rw [HSN.out, HE.out.2, ← HE.out.1]; exact HAT.out.set 1 _, HRES.out.far (by simp) _, HBL.out.setCell (by simp) _⟩, by simp [intOf]; omega⟩
        · as_aux_lemma =>
            have c0 : wr.cell? ⟨w.heap.size + 1, 2, none⟩ = some (.int .u64 ((wd (memF (xs.take k)) 2 : Nat) : Int)) := HAT.out.cell 2 _ rfl
            have f0 := HAT.out.frozen 2
            have HE := Lib.hid (or_put (memF (xs.take k)) c 2 hb0 hb1 hq)
            generalize ((wd (memF (xs.take k)) 2 : Nat) : Int) = A at c0 HE
            go_wp2
            exact ⟨⟨k + 1, by omega, by go_num, by rw [HSN.out, HE.out.2, ← HE.out.1]; exact HAT.out.set 2 _, HRES.out.far (by simp) _, HBL.out.setCell (by simp) _⟩, by simp [intOf]; omega⟩
        · as_aux_lemma =>
            have c0 : wr.cell? ⟨w.heap.size + 1, 3, none⟩ = some (.int .u64 ((wd (memF (xs.take k)) 3 : Nat) : Int)) := HAT.out.cell 3 _ rfl
            have f0 := HAT.out.frozen 3
            have HE := Lib.hid (or_put (memF (xs.take k)) c 3 hb0 hb1 hq)
            generalize ((wd (memF (xs.take k)) 3 : Nat) : Int) = A at c0 HE
            go_wp2
            exact ⟨⟨k + 1, by omega, by go_num, by rw [HSN.out, HE.out.2, ← HE.out.1]; exact HAT.out.set 3 _, HRES.out.far (by simp) _, HBL.out.setCell (by simp) _⟩, by simp [intOf]; omega⟩
      · obtain rfl : k = xs.length := by omega
        rw [List.take_length] at hat
        have c0 : wr.cell? ⟨w.heap.size + 1, 0, none⟩ = some (.int .u64 ((wd (memF xs) 0 : Nat) : Int)) := hat.cell 0 _ rfl
        have c1 : wr.cell? ⟨w.heap.size + 1, 1, none⟩ = some (.int .u64 ((wd (memF xs) 1 : Nat) : Int)) := hat.cell 1 _ rfl
        have c2 : wr.cell? ⟨w.heap.size + 1, 2, none⟩ = some (.int .u64 ((wd (memF xs) 2 : Nat) : Int)) := hat.cell 2 _ rfl
        have c3 : wr.cell? ⟨w.heap.size + 1, 3, none⟩ = some (.int .u64 ((wd (memF xs) 3 : Nat) : Int)) := hat.cell 3 _ rfl
        have d0 := hres.cell 0 _ rfl
        have d1 := hres.cell 1 _ rfl
        have d2 := hres.cell 2 _ rfl
        have d3 := hres.cell 3 _ rfl
        have f0 := hres.frozen 0
        have f1 := hres.frozen 1
        have f2 := hres.frozen 2
        have f3 := hres.frozen 3
        have HBL := Lib.hid hbl; clear hbl hat hres HC HB
        go_wp2
        refine bodyPost_ret (v := setOf (memF xs)) (by simp [results, Tryz.results122, go_sem, d0, d1, d2, d3]; rfl) rfl ⟨rfl, ?_⟩
        exact (((HBL.out.setCell (by simp) _).setCell (by simp) _).setCell (by simp) _).setCell (by simp) _
end Go.Proofs.YtgjcibhhffkemaaGreatDoor
namespace Go.Proofs.YtgjcibhhffkemaaGreatDoor
open Go.RowKit Bt
def rngF (lo c : Nat) (y : Nat) : Bool := decide (lo ≤ y) && decide (y < c)
theorem rngF_self (lo : Nat) : rngF lo lo = fun _ => false := by funext y; unfold rngF; rw [Bool.eq_iff_iff]; simp
theorem rngF_succ (lo c : Nat) (h : lo ≤ c) : rngF lo (c + 1) = fun y => rngF lo c y || y == c := by
  funext y; unfold rngF; rw [Bool.eq_iff_iff]; simp; omega
theorem or_putN (f : Nat → Bool) (k q : Nat) (h1 : k ≤ 255) (hq : (k : Int) / 64 = q) :
    (Value.int .u64 (bits BinOp.or IntKind.u64 ((wd f q : Nat) : Int) (IntKind.u64.wrap (2 ^ ((k : Int) % 64).toNat))) = .int .u64 ((wd f q ||| 2 ^ (k % 64) : Nat) : Int)) ∧
    (Value.int .u64 (bits BinOp.or IntKind.u64 ((wd f q : Nat) : Int) (IntKind.u64.wrap (2 ^ (k % 64)))) = .int .u64 ((wd f q ||| 2 ^ (k % 64) : Nat) : Int)) ∧
    cellsOf (fun y => f y || y == k) = (cellsOf f).set! q (.int .u64 ((wd f q ||| 2 ^ (k % 64) : Nat) : Int)) := by
  have h := or_put f (k : Int) q (by omega) (by omega) hq
  rw [Int.toNat_natCast] at h
  refine ⟨h.1, ?_, h.2⟩
  rw [← h.1, show ((k : Int) % 64).toNat = k % 64 from by omega]
set_option maxRecDepth 100000 in
set_option maxHeartbeats 1600000 in
theorem range_any (lo hi : Int) (w : World) (h0 : 0 ≤ lo) (h1 : lo ≤ 255) (h2 : 0 ≤ hi) (h3 : hi ≤ 255) :
    Calls Tryz.prog 132 #[.int .u8 lo, .int .u8 hi] w fun e w' => e = .returned (setOf (rngF lo.toNat (hi.toNat + 1))) ∧ Below w.heap.size w w' := by
  obtain ⟨l, rfl⟩ := Int.eq_ofNat_of_zero_le h0
  obtain ⟨h, rfl⟩ := Int.eq_ofNat_of_zero_le h2
  rw [Int.toNat_natCast, Int.toNat_natCast]
  go_enter Tryz.func132, Tryz.ntmps132
  go_wp2
  go_loopw [6] (fun i wr => ∃ k : Nat, l ≤ k ∧ (k ≤ l ∨ k ≤ h + 1) ∧ i = .int .i64 k ∧ AtG wr (w.heap.size + 1) 38 (cellsOf (rngF l k)) ∧ AtG wr w.heap.size 38 (setC 0 0 0 0) ∧ Below w.heap.size w wr) (fun i _ => 300 - (intOf i).toNat)
  case atStart => exact ⟨l, Nat.le_refl _, .inl (Nat.le_refl _), rfl, by rw [rngF_self, cells_none]; have := AtG.new (w.alloc (.cells (setC 0 0 0 0) 38)) 38 (setC 0 0 0 0); simpa using this, (AtG.new w _ _).alloc _, by go_grown⟩
  case round =>
    obtain ⟨k, hk, hk2, rfl, hat, hres, hbl⟩ := hrel
    have hl0 := hat.lt
    by_cases hlt : k ≤ h
    · have HBL := Lib.hid hbl; have HAT := Lib.hid hat; have HRES := Lib.hid hres; have HSN := Lib.hid (rngF_succ l k hk); clear hbl hat hres hk2
      have hb0 : (0 : Int) ≤ (k : Int) := by omega
      have hb1 : (k : Int) ≤ 255 := by omega
      have hq4 : (k : Int) / 64 = 0 ∨ (k : Int) / 64 = 1 ∨ (k : Int) / 64 = 2 ∨ (k : Int) / 64 = 3 := by omega
      rcases hq4 with hq | hq | hq | hq
      · as_aux_lemma =>
          have c0 : wr.cell? ⟨w.heap.size + 1, 0, none⟩ = some (.int .u64 ((wd (rngF l k) 0 : Nat) : Int)) := HAT.out.cell 0 _ rfl
          have f0 := HAT.out.frozen 0
          have HE := Lib.hid (or_putN (rngF l k) k 0 (by omega) hq)
          generalize ((wd (rngF l k) 0 : Nat) : Int) = A at c0 HE
          go_wp2
          go_region
          go_wp2
          exact ⟨⟨k + 1, by omega, by omega, by go_num, by rw [HSN.out, HE.out.2.2]; first | (rw [← HE.out.1]; exact HAT.out.drew.set 0 _; done) | (rw [← HE.out.2.1]; exact HAT.out.drew.set 0 _), HRES.out.drew.far (by simp) _, HBL.out.drew.setCell (by simp) _⟩, by simp [intOf]; omega⟩
      · as_aux_lemma =>
          have c0 : wr.cell? ⟨w.heap.size + 1, 1, none⟩ = some (.int .u64 ((wd (rngF l k) 1 : Nat) : Int)) := HAT.out.cell 1 _ rfl
          have f0 := HAT.out.frozen 1
          have HE := Lib.hid (or_putN (rngF l k) k 1 (by omega) hq)
          generalize ((wd (rngF l k) 1 : Nat) : Int) = A at c0 HE
          go_wp2
          go_region
          go_wp2
          exact ⟨⟨k + 1, by omega, by omega, by go_num, by rw [HSN.out, HE.out.2.2]; first | (rw [← HE.out.1]; exact HAT.out.drew.set 1 _; done) | (rw [← HE.out.2.1]; exact HAT.out.drew.set 1 _), HRES.out.drew.far (by simp) _, HBL.out.drew.setCell (by simp) _⟩, by simp [intOf]; omega⟩
      · as_aux_lemma =>
          have c0 : wr.cell? ⟨w.heap.size + 1, 2, none⟩ = some (.int .u64 ((wd (rngF l k) 2 : Nat) : Int)) := HAT.out.cell 2 _ rfl
          have f0 := HAT.out.frozen 2
          have HE := Lib.hid (or_putN (rngF l k) k 2 (by omega) hq)
          generalize ((wd (rngF l k) 2 : Nat) : Int) = A at c0 HE
          go_wp2
          go_region
          go_wp2
          exact ⟨⟨k + 1, by omega, by omega, by go_num, by rw [HSN.out, HE.out.2.2]; first | (rw [← HE.out.1]; exact HAT.out.drew.set 2 _; done) | (rw [← HE.out.2.1]; exact HAT.out.drew.set 2 _), HRES.out.drew.far (by simp) _, HBL.out.drew.setCell (by simp) _⟩, by simp [intOf]; omega⟩
      · as_aux_lemma =>
          have c0 : wr.cell? ⟨w.heap.size + 1, 3, none⟩ = some (.int .u64 ((wd (rngF l k) 3 : Nat) : Int)) := HAT.out.cell 3 _ rfl
          have f0 := HAT.out.frozen 3
          have HE := Lib.hid (or_putN (rngF l k) k 3 (by omega) hq)
          generalize ((wd (rngF l k) 3 : Nat) : Int) = A at c0 HE
          go_wp2
          go_region
          go_wp2
          exact ⟨⟨k + 1, by omega, by omega, by go_num, by rw [HSN.out, HE.out.2.2]; first | (rw [← HE.out.1]; exact HAT.out.drew.set 3 _; done) | (rw [← HE.out.2.1]; exact HAT.out.drew.set 3 _), HRES.out.drew.far (by simp) _, HBL.out.drew.setCell (by simp) _⟩, by simp [intOf]; omega⟩
    · have e : cellsOf (rngF l k) = cellsOf (rngF l (h + 1)) := cellsOf_ext fun x _ => by unfold rngF; rw [Bool.eq_iff_iff]; simp; omega
      rw [e] at hat
      have c0 : wr.cell? ⟨w.heap.size + 1, 0, none⟩ = some (.int .u64 ((wd (rngF l (h + 1)) 0 : Nat) : Int)) := hat.cell 0 _ rfl
      have c1 : wr.cell? ⟨w.heap.size + 1, 1, none⟩ = some (.int .u64 ((wd (rngF l (h + 1)) 1 : Nat) : Int)) := hat.cell 1 _ rfl
      have c2 : wr.cell? ⟨w.heap.size + 1, 2, none⟩ = some (.int .u64 ((wd (rngF l (h + 1)) 2 : Nat) : Int)) := hat.cell 2 _ rfl
      have c3 : wr.cell? ⟨w.heap.size + 1, 3, none⟩ = some (.int .u64 ((wd (rngF l (h + 1)) 3 : Nat) : Int)) := hat.cell 3 _ rfl
      have d0 := hres.cell 0 _ rfl
      have f0 := hres.frozen 0
      have d1 := hres.cell 1 _ rfl
      have f1 := hres.frozen 1
      have d2 := hres.cell 2 _ rfl
      have f2 := hres.frozen 2
      have d3 := hres.cell 3 _ rfl
      have f3 := hres.frozen 3
      have HBL := Lib.hid hbl; clear hbl hat hres e hk2
      go_wp2
      refine bodyPost_ret (v := setOf (rngF l (h + 1))) (by simp [results, Tryz.results132, go_sem, d0, d1, d2, d3]; rfl) rfl ⟨rfl, ?_⟩
      exact (((HBL.out.setCell (by simp) _).setCell (by simp) _).setCell (by simp) _).setCell (by simp) _
theorem or_words (f g : Nat → Bool) (i : Nat) : bits BinOp.or IntKind.u64 ((wd f i : Nat) : Int) ((wd g i : Nat) : Int) = ((wd (fun x => f x || g x) i : Nat) : Int) := by
  rw [u64_or_nat _ _ (wd_lt _ _) (wd_lt _ _), wd_or]
set_option maxRecDepth 100000 in
set_option maxHeartbeats 3200000 in
theorem or_core (a b c d a' b' c' d' : Int) (w : World) :
    Calls Tryz.prog 35 #[setV a b c d, setV a' b' c' d'] w fun e w' => e = .returned (setV (bits BinOp.or IntKind.u64 a a') (bits BinOp.or IntKind.u64 b b') (bits BinOp.or IntKind.u64 c c') (bits BinOp.or IntKind.u64 d d')) ∧ Below w.heap.size w w' := by
  go_enter Tryz.func35, Tryz.ntmps35
  go_wp2
  refine wp_loop_rounds 5 ?_
  rw [rounds_succ]
  go_wp2
  go_region
  go_wp2
  rw [rounds_succ]
  go_wp2
  go_region
  go_wp2
  rw [rounds_succ]
  go_wp2
  go_region
  go_wp2
  rw [rounds_succ]
  go_wp2
  go_region
  go_wp2
  rw [rounds_succ]
  go_wp2
  go_returns
  exact ⟨rfl, by go_grown⟩
theorem or_any (f g : Nat → Bool) (w : World) :
    Calls Tryz.prog 35 #[setOf f, setOf g] w fun e w' => e = .returned (setOf (fun x => f x || g x)) ∧ Below w.heap.size w w' :=
  (or_core _ _ _ _ _ _ _ _ w).mono fun e w' ⟨he, hb⟩ => ⟨by rw [he]; unfold setOf; rw [or_words, or_words, or_words, or_words], hb⟩
set_option maxRecDepth 100000 in
set_option maxHeartbeats 3200000 in
theorem not_core (a b c d : Int) (w : World) :
    Calls Tryz.prog 121 #[setV a b c d] w fun e w' => e = .returned (setV (bits BinOp.xor IntKind.u64 IntKind.u64.max a) (bits BinOp.xor IntKind.u64 IntKind.u64.max b) (bits BinOp.xor IntKind.u64 IntKind.u64.max c) (bits BinOp.xor IntKind.u64 IntKind.u64.max d)) ∧ Below w.heap.size w w' := by
  go_enter Tryz.func121, Tryz.ntmps121
  go_wp2
  refine wp_loop_rounds 5 ?_
  rw [rounds_succ]
  go_wp2
  rw [rounds_succ]
  go_wp2
  rw [rounds_succ]
  go_wp2
  rw [rounds_succ]
  go_wp2
  rw [rounds_succ]
  go_wp2
  go_returns
  exact ⟨rfl, by go_grown⟩
theorem not_words (f : Nat → Bool) (i : Nat) : bits BinOp.xor IntKind.u64 IntKind.u64.max ((wd f i : Nat) : Int) = ((wd (fun x => !f x) i : Nat) : Int) := by
  have e : IntKind.u64.max = ((18446744073709551615 : Nat) : Int) := by decide
  rw [e, u64_xor_nat _ _ (by decide) (wd_lt _ _)]
  congr 1
  have h : (18446744073709551615 : Nat) = 2 ^ 64 - 1 := by decide
  apply Nat.eq_of_testBit_eq
  intro j
  rw [Nat.testBit_xor, h, Nat.testBit_two_pow_sub_one]
  unfold wd
  rw [pk_test, pk_test]
  by_cases hj : j < 64 <;> simp [hj]
theorem not_any (f : Nat → Bool) (w : World) :
    Calls Tryz.prog 121 #[setOf f] w fun e w' => e = .returned (setOf (fun x => !f x)) ∧ Below w.heap.size w w' :=
  (not_core _ _ _ _ w).mono fun e w' ⟨he, hb⟩ => ⟨by rw [he]; unfold setOf; rw [not_words, not_words, not_words, not_words], hb⟩
end Go.Proofs.YtgjcibhhffkemaaGreatDoor
namespace Go.Proofs.YtgjcibhhffkemaaGreatDoor
open Go.RowKit
namespace RgX
open Rg (isDst dstsOk edgesOk waitsFar reach dst_lt isDst_of dst_ne edge_lt unl unl_set all_of_ready ready_of_unl closed_set waitsFar_spec reach_spec)
structure Rl where
  R : Value → Value → World → Prop
  exp : Option Nat
  /-- the number whose value is R's second one -/
  see : Option Nat
def eq (X : Value) : Rl := ⟨fun v _ _ => v = X, none, none⟩
theorem mk {X u : Value} {w : World} : (eq X).R X u w := rfl
def rl (R : Value → World → Prop) (exp : Option Nat) : Rl := ⟨fun v _ w => R v w, exp, none⟩
def Sees (l : List Oper) (tm : Array Value) : Option Nat → Value → Prop
  | none, u => u = undef
  | some j, u => ∃ t, (l[j]?).bind (·.dst) = some t ∧ tm[t]? = some u
structure Fc where
  F : World → Prop
  exp : Option Nat
def alive (listed : Array Bool) : Option Nat → Prop
  | none => True
  | some x => listed.getD x false = false
def holds (l : List Oper) (n i : Nat) : Option Nat → Bool
  | none => true
  | some x => x == i || reach l n x i
def Off (l : List Oper) (i : Nat) (x : Option Nat) : Prop := ∃ y m, x = some y ∧ reach l m i y = true
def Past (l : List Oper) (k i : Nat) : Prop := ∃ m, reach l m k i = true
def look : List (Nat × Rl) → Nat → Option Rl
  | [], _ => none
  | (k, r) :: l, j => if k == j then some r else look l j
section
variable (P : Program) (ops : Array Oper) (Q : Exit → Act → World → Prop) (E : Nat → World → World → Prop) (Fs : List Fc) (b : Act)
structure Known (Rs : List (Nat × Rl)) (i : Nat) (o : Oper) (a : Act) (w : World) : Prop where
  fact : ∀ (k n : Nat) f, Fs[k]? = some f → holds ops.toList n i f.exp = true → f.F w
  base : ∀ t x, isDst ops.toList t = false → b.tmps.toList[t]? = some x → a.tmps[t]? = some x
  dep : ∀ n j t r, waitsFar ops.toList n o j = true → (ops.toList[j]?).bind (·.dst) = some t → look Rs j = some r → ∃ v, a.tmps[t]? = some v ∧ (∀ m u, holds ops.toList m i r.exp = true → Sees ops.toList a.tmps r.see u → r.R v u w)
  depN : ∀ n j p r, waitsFar ops.toList n o j = true → ops.toList[j]? = some p → p.dst = none → look Rs j = some r → ∀ m u, holds ops.toList m i r.exp = true → Sees ops.toList a.tmps r.see u → r.R undef u w
def One (Rs : List (Nat × Rl)) (i : Nat) (o : Oper) (r : Rl) : Prop :=
  ∀ a w, Known ops Fs b Rs i o a w →
    if Region.wanted o (yielded ops a.tmps) = true then ∀ K : Act → World → Prop, (∀ v w', (o.dst = none → v = undef) → (∀ u, Sees ops.toList a.tmps r.see u → r.R v u w') → E i w w' → K (a.put o.dst v) w') → o.wp P a w K Q else ∀ u, Sees ops.toList a.tmps r.see u → r.R undef u w
def Keep (i : Nat) (F : World → Prop) : Prop := ∀ w w', F w → E i w w' → F w'
def Fin (D : List Deferred) : List Oper → List Rl → List Value → World → Prop
  | [], [], base, w => Q .normal ⟨base.toArray, D⟩ w
  | o :: os, r :: rs, base, w => match o.dst with
    | some d => ∀ v, (r.exp = none → ∀ u, Sees ops.toList base.toArray r.see u → r.R v u w) → Fin D os rs (base.set d v) w
    | none => (r.exp = none → ∀ u, Sees ops.toList base.toArray r.see u → r.R undef u w) → Fin D os rs base w
  | _, _, _, _ => False
def Build : Nat → List Oper → List (Nat × Rl) → Prop
  | _, [], Rs => ∀ w, (∀ f ∈ Fs, f.exp = none → f.F w) → Fin ops Q b.defers ops.toList (Rs.reverse.map (·.2)) b.tmps.toList w
  | n, o :: l, Rs => ∃ r : Rl, One P ops Q E Fs b Rs n o r ∧ (∀ i, i < ops.size → i ≠ n → r.exp ≠ some i → ¬ Off ops.toList i r.exp → ¬ Past ops.toList n i → ∀ v u, Keep E i (r.R v u)) ∧ (∀ j, r.see = some j → ∃ m, waitsFar ops.toList m o j = true) ∧ Build (n + 1) l ((n, r) :: Rs)
end
section
variable {P : Program} {ops : Array Oper} {Q : Exit → Act → World → Prop} {E : Nat → World → World → Prop} {Fs : List Fc} {b : Act}
structure Inv (ops : Array Oper) (Fs : List Fc) (b : Act) (Rs : List Rl) (listed : Array Bool) (a : Act) (w : World) : Prop where
  fact : ∀ f ∈ Fs, alive listed f.exp → f.F w
  defers : a.defers = b.defers
  size : a.tmps.size = b.tmps.size
  base : ∀ t, isDst ops.toList t = false → a.tmps[t]? = b.tmps[t]?
  closed : ∀ (i : Nat) (o : Oper) (e : Edge), ops.toList[i]? = some o → listed.getD i false = true → e ∈ o.after → Region.binds .any e = true → listed.getD e.on false = true
  dep : ∀ (i : Nat) (o : Oper) (t : Nat) (r : Rl), ops[i]? = some o → o.dst = some t → listed.getD i false = true → Rs[i]? = some r → ∃ v, a.tmps[t]? = some v ∧ (alive listed r.exp → ∀ u, Sees ops.toList a.tmps r.see u → r.R v u w)
  depN : ∀ (i : Nat) (o : Oper) (r : Rl), ops[i]? = some o → o.dst = none → listed.getD i false = true → Rs[i]? = some r → alive listed r.exp → ∀ u, Sees ops.toList a.tmps r.see u → r.R undef u w
theorem alive_of_set {listed : Array Bool} {i : Nat} {x : Option Nat} (hi : i < listed.size) (h : alive (listed.setIfInBounds i true) x) : alive listed x ∧ x ≠ some i := by
  cases x with
  | none => exact ⟨trivial, by simp⟩
  | some x =>
    simp only [alive] at h ⊢
    by_cases hx : i = x
    · subst hx; simp [Array.getElem?_setIfInBounds_self_of_lt hi] at h
    · have : (listed.setIfInBounds i true).getD x false = listed.getD x false := by simp [Array.getElem?_setIfInBounds_ne hx]
      rw [this] at h
      exact ⟨h, fun e => hx (Option.some.inj e).symm⟩
theorem getD_other {listed : Array Bool} {i k : Nat} (h : i ≠ k) : (listed.setIfInBounds i true).getD k false = listed.getD k false := by simp [Array.getElem?_setIfInBounds_ne h]
theorem Inv.put {Rs : List Rl} {listed : Array Bool} {a : Act} {w w' : World} {i : Nat} {o : Oper} {r : Rl} {v : Value} (hd : dstsOk b.tmps.size ops.toList = true)
    (stF : ∀ f ∈ Fs, ∀ i, i < ops.size → f.exp ≠ some i → ¬ Off ops.toList i f.exp → Keep E i f.F) (stR : ∀ (k : Nat) (q : Rl), Rs[k]? = some q → ∀ i, i < ops.size → i ≠ k → q.exp ≠ some i → ¬ Off ops.toList i q.exp → ¬ Past ops.toList k i → ∀ v u, Keep E i (q.R v u))
    (see : ∀ (k : Nat) (p : Oper) (q : Rl) (j : Nat), ops[k]? = some p → Rs[k]? = some q → q.see = some j → ∃ m, waitsFar ops.toList m p j = true) (hil' : listed.getD i false = false)
    (h : Inv ops Fs b Rs listed a w) (ho : ops[i]? = some o) (hr : Rs[i]? = some r) (hv : ∀ u, Sees ops.toList a.tmps r.see u → r.R v u w') (hvn : o.dst = none → v = undef) (hb : E i w w' ∨ w' = w) (hs : listed.size = ops.size) (hdep : ∀ e ∈ o.after, Region.binds .any e = true → listed.getD e.on false = true) :
    Inv ops Fs b Rs (listed.setIfInBounds i true) (a.put o.dst v) w' := by
  have ho' : ops.toList[i]? = some o := by simpa using ho
  have hio : i < ops.size := (Array.getElem?_eq_some_iff.1 ho).1
  have hil : i < listed.size := by omega
  have notPast : ∀ k, listed.getD k false = true → ¬ Past ops.toList k i := by
    rintro k hk ⟨m, hm⟩
    have := reach_spec h.closed m k i hm hk
    rw [hil'] at this; cases this
  have notOff : ∀ x : Option Nat, alive listed x → ¬ Off ops.toList i x := by
    rintro x ha ⟨y, m, rfl, hm⟩
    simp only [alive] at ha
    cases m with
    | zero => simp [reach] at hm
    | succ m =>
      unfold reach at hm
      rw [ho'] at hm
      have := waitsFar_spec h.closed (n := m) (o := o) (j := y) hm hdep
      rw [this] at ha; cases ha
  have move : ∀ F : World → Prop, (E i w w' → Keep E i F) → F w → F w' := fun F hk hF => by
    rcases hb with hb | rfl
    · exact hk hb _ _ hF hb
    · exact hF
  have back : ∀ (k : Nat) (p : Oper) (q : Rl) (u : Value), ops[k]? = some p → Rs[k]? = some q → (listed.getD k false = true ∨ k = i) → Sees ops.toList (a.put o.dst v).tmps q.see u → Sees ops.toList a.tmps q.see u := by
    intro k p q u hp hq hk hs
    cases hsee : q.see with
    | none => rw [hsee] at hs; exact hs
    | some j =>
      rw [hsee] at hs
      obtain ⟨m, hm⟩ := see k p q j hp hq hsee
      have hjl : listed.getD j false = true := by
        refine waitsFar_spec h.closed hm ?_
        rcases hk with hk | rfl
        · exact fun e he hb => h.closed k p e (by simpa using hp) hk he hb
        · obtain rfl : o = p := by rw [ho] at hp; exact Option.some.inj hp
          exact hdep
      have hji : j ≠ i := fun e => by subst e; rw [hil'] at hjl; cases hjl
      obtain ⟨t, ht, hu⟩ := hs
      refine ⟨t, ht, ?_⟩
      obtain ⟨pj, hpj, hpt⟩ := Option.bind_eq_some_iff.1 ht
      cases hod : o.dst with
      | none => simpa [Act.put, hod] using hu
      | some d =>
        have hne : d ≠ t := fun e => hji (by subst e; exact dst_ne hd j i pj o d hpj ho' hpt hod)
        simpa [Act.put, hod, Array.getElem?_setIfInBounds_ne hne] using hu
  refine ⟨fun f hf ha => ?_, ?_, ?_, ?_, closed_set h.closed ho' hdep, ?_, ?_⟩
  · obtain ⟨ha1, ha2⟩ := alive_of_set hil ha
    exact move _ (fun _ => stF f hf i hio ha2 (notOff _ ha1)) (h.fact f hf ha1)
  · cases hd : o.dst <;> simp [Act.put, h.defers]
  · cases hd : o.dst <;> simp [Act.put, h.size]
  · intro t ht
    cases hod : o.dst with
    | none => simpa [Act.put] using h.base t ht
    | some d =>
      have hne : d ≠ t := fun e => by subst e; rw [isDst_of ho' hod] at ht; cases ht
      simpa [Act.put, Array.getElem?_setIfInBounds_ne hne] using h.base t ht
  · intro k p t q hp hpd hl hs'
    by_cases hki : k = i
    · subst hki
      obtain rfl : o = p := by rw [ho] at hp; exact Option.some.inj hp
      obtain rfl : r = q := by rw [hr] at hs'; exact Option.some.inj hs'
      have hlt : t < a.tmps.size := by rw [h.size]; exact dst_lt hd k o t ho' hpd
      exact ⟨v, by simp [Act.put, hpd, Array.getElem?_setIfInBounds_self_of_lt hlt], fun _ u hs => hv u (back k o r u ho hr (.inr rfl) hs)⟩
    · rw [getD_other (Ne.symm hki)] at hl
      obtain ⟨u, hu, hru⟩ := h.dep k p t q hp hpd hl hs'
      refine ⟨u, ?_, fun ha u2 hs2 => ?_⟩
      · cases hod : o.dst with
        | none => simpa [Act.put] using hu
        | some d =>
          have hne : d ≠ t := fun e => hki (by subst e; exact (dst_ne hd i k o p d ho' (by simpa using hp) hod hpd).symm)
          simpa [Act.put, Array.getElem?_setIfInBounds_ne hne] using hu
      · obtain ⟨ha1, ha2⟩ := alive_of_set hil ha
        exact move _ (fun _ => stR k q hs' i hio (Ne.symm hki) ha2 (notOff _ ha1) (notPast k hl) u u2) (hru ha1 u2 (back k p q u2 hp hs' (.inl hl) hs2))
  · intro k p q hp hpd hl hs' ha u hsu
    obtain ⟨ha1, ha2⟩ := alive_of_set hil ha
    by_cases hki : k = i
    · subst hki
      obtain rfl : o = p := by rw [ho] at hp; exact Option.some.inj hp
      obtain rfl : r = q := by rw [hr] at hs'; exact Option.some.inj hs'
      have := hv u (back k o r u ho hr (.inr rfl) hsu)
      rw [hvn hpd] at this; exact this
    · rw [getD_other (Ne.symm hki)] at hl
      exact move _ (fun _ => stR k q hs' i hio (Ne.symm hki) ha2 (notOff _ ha1) (notPast k hl) undef u) (h.depN k p q hp hpd hl hs' ha1 u (back k p q u hp hs' (.inl hl) hsu))
theorem holds_alive {l : List Oper} {listed : Array Bool} (hc : ∀ (i : Nat) (o : Oper) (e : Edge), l[i]? = some o → listed.getD i false = true → e ∈ o.after → Region.binds .any e = true → listed.getD e.on false = true)
    {n i : Nat} (hi : listed.getD i false = false) {x : Option Nat} (h : holds l n i x = true) : alive listed x := by
  cases x with
  | none => trivial
  | some x =>
    simp only [holds, Bool.or_eq_true, beq_iff_eq] at h
    simp only [alive]
    cases hx : listed.getD x false with
    | false => rfl
    | true =>
      rcases h with rfl | h
      · rw [hi] at hx; cases hx
      · have := reach_spec hc n x i h hx
        rw [hi] at this; cases this
theorem run {Rs : List Rl} (hd : dstsOk b.tmps.size ops.toList = true) (he : edgesOk 0 ops.toList = true)
    (stF : ∀ f ∈ Fs, ∀ i, i < ops.size → f.exp ≠ some i → ¬ Off ops.toList i f.exp → Keep E i f.F) (stR : ∀ (k : Nat) (q : Rl), Rs[k]? = some q → ∀ i, i < ops.size → i ≠ k → q.exp ≠ some i → ¬ Off ops.toList i q.exp → ¬ Past ops.toList k i → ∀ v u, Keep E i (q.R v u)) (see : ∀ (k : Nat) (p : Oper) (q : Rl) (j : Nat), ops[k]? = some p → Rs[k]? = some q → q.see = some j → ∃ m, waitsFar ops.toList m p j = true) (hlen : Rs.length = ops.size)
    (one : ∀ (i : Nat) (o : Oper) (r : Rl), ops[i]? = some o → Rs[i]? = some r → ∃ Ls : List (Nat × Rl), (∀ j q, look Ls j = some q → Rs[j]? = some q) ∧ One P ops Q E Fs b Ls i o r)
    (fin : ∀ a w listed, Inv ops Fs b Rs listed a w → (∀ i, i < ops.size → listed.getD i false = true) → Q .normal a w) :
    ∀ fuel listed a w, listed.size = ops.size → unl ops.size listed = fuel → Inv ops Fs b Rs listed a w → wpAny P .any ops Q fuel listed a w
  | 0, listed, a, w, hs, hu, h => ⟨ready_of_unl hu, fin a w listed h (all_of_ready he (ready_of_unl hu) hs)⟩
  | fuel + 1, listed, a, w, hs, hu, h => by
    refine ⟨fun hr => fin a w listed h (all_of_ready he hr hs), fun i hi => ?_⟩
    obtain ⟨h1, o, ho, hdep⟩ := mem_ready.1 hi
    have hlt : i < ops.size := (Array.getElem?_eq_some_iff.1 ho).1
    obtain ⟨r, hr⟩ : ∃ r, Rs[i]? = some r := ⟨_, List.getElem?_eq_getElem (hlen ▸ hlt)⟩
    have hu' := unl_set (i := i) hs h1
    have h1f : listed.getD i false = false := by
      have hl : i < listed.size := hs ▸ hlt
      simp [hl] at h1 ⊢; exact h1
    obtain ⟨Ls, hLs, hone⟩ := one i o r ho hr
    have hk : Known ops Fs b Ls i o a w := by
      refine ⟨fun k n f hf hh => h.fact f (List.mem_of_getElem? hf) (holds_alive h.closed h1f hh), fun t x ht hx => by rw [h.base t ht]; simpa using hx, fun n j t q hj ht hrs => ?_, fun n j p q hj hp hpd hrs m u hm hsu => ?_⟩
      · obtain ⟨p, hp, hpt⟩ := Option.bind_eq_some_iff.1 ht
        obtain ⟨v, hv, hR⟩ := h.dep j p t q (by simpa using hp) hpt (waitsFar_spec h.closed hj hdep) (hLs _ _ hrs)
        exact ⟨v, hv, fun m u hm hs => hR (holds_alive h.closed h1f hm) u hs⟩
      · exact h.depN j p q (by simpa using hp) hpd (waitsFar_spec h.closed hj hdep) (hLs _ _ hrs) (holds_alive h.closed h1f hm) u hsu
    have hon := hone a w hk
    unfold wpOp
    simp only [ho]
    split
    · rename_i hw
      rw [if_pos hw] at hon
      exact .inl (hon _ fun v w' hvn hv hb => run hd he stF stR see hlen one fin fuel _ _ _ (by simpa using hs) (by omega) (h.put hd stF stR see h1f ho hr hv hvn (.inl hb) hs hdep))
    · rename_i hw
      rw [if_neg hw] at hon
      exact run hd he stF stR see hlen one fin fuel _ _ _ (by simpa using hs) (by omega) (h.put hd stF stR see h1f ho hr hon (fun _ => rfl) (.inr rfl) hs hdep)
theorem fin_of {D : List Deferred} {w : World} {a : Act} (hD : a.defers = D) : ∀ (os : List Oper) (rs : List Rl) (base : List Value),
    dstsOk base.length os = true → os.length = rs.length → a.tmps.size = base.length →
    (∀ t, isDst os t = false → a.tmps[t]? = base[t]?) →
    (∀ (i : Nat) (o : Oper) (t : Nat) (r : Rl), os[i]? = some o → o.dst = some t → rs[i]? = some r → ∃ v, a.tmps[t]? = some v ∧ (r.exp = none → ∀ u, Sees ops.toList a.tmps r.see u → r.R v u w)) →
    (∀ (i : Nat) (o : Oper) (r : Rl), os[i]? = some o → o.dst = none → rs[i]? = some r → r.exp = none → ∀ u, Sees ops.toList a.tmps r.see u → r.R undef u w) →
    (∀ (i : Nat) (r : Rl) (j t : Nat), rs[i]? = some r → r.see = some j → (ops.toList[j]?).bind (·.dst) = some t → isDst (os.drop i) t = false) →
    Fin ops Q D os rs base w → Q .normal a w
  | [], [], base, _, _, hs, hb, _, _, _, h => by
    have : a.tmps = base.toArray := by
      apply Array.ext_getElem?
      intro t; rw [hb t rfl]; simp
    obtain ⟨tm, df⟩ := a
    simp only at this hD
    subst this; subst hD
    exact h
  | o :: os, r :: rs, base, hd, hl, hs, hb, hr, hn, hse, h => by
    simp only [dstsOk, Bool.and_eq_true] at hd
    simp only [Fin] at h
    have fwd : ∀ u, Sees ops.toList base.toArray r.see u → Sees ops.toList a.tmps r.see u := by
      intro u hu
      cases hsee : r.see with
      | none => rw [hsee] at hu; exact hu
      | some j =>
        rw [hsee] at hu
        obtain ⟨t, ht, hv⟩ := hu
        refine ⟨t, ht, ?_⟩
        rw [hb t (by simpa using hse 0 r j t rfl hsee ht)]; simpa using hv
    have hse' : ∀ (i : Nat) (r : Rl) (j t : Nat), rs[i]? = some r → r.see = some j → (ops.toList[j]?).bind (·.dst) = some t → isDst (os.drop i) t = false := fun i q j t hq hj ht => by
      simpa using hse (i + 1) q j t (by simpa using hq) hj ht
    cases hod : o.dst with
    | none =>
      rw [hod] at h
      refine fin_of hD os rs base hd.2 (by simpa using hl) hs (fun t ht => hb t ?_) (fun i p t s hp hpd hs' => hr (i + 1) p t s (by simpa using hp) hpd (by simpa using hs')) (fun i p s hp hpd hs' => hn (i + 1) p s (by simpa using hp) hpd (by simpa using hs')) hse' (h fun hx u hu => hn 0 o r rfl hod rfl hx u (fwd u hu))
      unfold isDst at ht ⊢; rw [List.any_cons, ht]; simp [hod]
    | some d =>
      rw [hod] at h
      have hd1 := hd.1; rw [hod] at hd1; simp at hd1
      obtain ⟨v, hv, hrv⟩ := hr 0 o d r rfl hod rfl
      refine fin_of hD os rs (base.set d v) (by simpa using hd.2) (by simpa using hl) (by simpa using hs) (fun t ht => ?_) (fun i p t s hp hpd hs' => hr (i + 1) p t s (by simpa using hp) hpd (by simpa using hs')) (fun i p s hp hpd hs' => hn (i + 1) p s (by simpa using hp) hpd (by simpa using hs')) hse' (h v fun hx u hu => hrv hx u (fwd u hu))
      by_cases htd : d = t
      · subst htd; rw [hv, List.getElem?_set_self hd1.1]
      · rw [List.getElem?_set_ne htd]
        refine hb t ?_
        unfold isDst at ht ⊢; rw [List.any_cons, ht]; simp [hod, htd]
  | [], _ :: _, _, _, h, _, _, _, _, _, _ => by simp at h
  | _ :: _, [], _, _, h, _, _, _, _, _, _ => by simp at h
def Num : List (Nat × Rl) → Prop
  | [] => True
  | (k, _) :: l => k = l.length ∧ Num l
theorem look_spec : ∀ {l : List (Nat × Rl)}, Num l → ∀ j r, look l j = some r → (l.reverse.map (·.2))[j]? = some r
  | [], _, j, r, h => by simp [look] at h
  | (k, s) :: l, ⟨hk, hn⟩, j, r, h => by
    simp only [look] at h
    rw [List.reverse_cons, List.map_append]
    split at h
    · rename_i hkj
      have : k = j := by simpa using hkj
      subst this; cases h
      rw [List.getElem?_append_right (by simp [hk])]; simp [hk]
    · have := look_spec hn j r h
      rw [List.getElem?_append_left (List.getElem?_eq_some_iff.1 this).1]; exact this
theorem build_spec : ∀ (l : List Oper) (n : Nat) (Rs : List (Nat × Rl)), Num Rs → Rs.length = n →
    (∀ (k : Nat) (q : Rl), (Rs.reverse.map (·.2))[k]? = some q → ∀ i, i < ops.size → i ≠ k → q.exp ≠ some i → ¬ Off ops.toList i q.exp → ¬ Past ops.toList k i → ∀ v u, Keep E i (q.R v u)) → Build P ops Q E Fs b n l Rs →
    ∃ rs : List Rl, rs.length = l.length ∧ (∀ (k : Nat) (q : Rl), (Rs.reverse.map (·.2) ++ rs)[k]? = some q → ∀ i, i < ops.size → i ≠ k → q.exp ≠ some i → ¬ Off ops.toList i q.exp → ¬ Past ops.toList k i → ∀ v u, Keep E i (q.R v u)) ∧
      (∀ (i : Nat) (o : Oper) (r : Rl) (j : Nat), l[i]? = some o → rs[i]? = some r → r.see = some j → ∃ m, waitsFar ops.toList m o j = true) ∧
      (∀ (i : Nat) (o : Oper) (r : Rl), l[i]? = some o → rs[i]? = some r → ∃ Ls : List (Nat × Rl), (∀ j q, look Ls j = some q → (Rs.reverse.map (·.2) ++ rs)[j]? = some q) ∧ One P ops Q E Fs b Ls (n + i) o r) ∧
      (∀ w, (∀ f ∈ Fs, f.exp = none → f.F w) → Fin ops Q b.defers ops.toList (Rs.reverse.map (·.2) ++ rs) b.tmps.toList w)
  | [], n, Rs, _, _, hst, h => ⟨[], rfl, by simpa using hst, by simp, by simp, by simpa [Build] using h⟩
  | o :: l, n, Rs, hn, hl, hst, ⟨r, h1, hq, hsr, h2⟩ => by
    have hst' : ∀ (k : Nat) (q : Rl), (((n, r) :: Rs).reverse.map (·.2))[k]? = some q → ∀ i, i < ops.size → i ≠ k → q.exp ≠ some i → ¬ Off ops.toList i q.exp → ¬ Past ops.toList k i → ∀ v u, Keep E i (q.R v u) := by
      intro k q hk
      rw [List.reverse_cons, List.map_append] at hk
      by_cases hkl : k < Rs.length
      · rw [List.getElem?_append_left (by simpa using hkl)] at hk; exact hst k q hk
      · rw [List.getElem?_append_right (by simpa using hkl)] at hk
        have hk0 : k = n := by
          have := (List.getElem?_eq_some_iff.1 hk).1
          simp at this; omega
        subst hk0
        simp [hl] at hk
        subst hk
        exact hq
    obtain ⟨rs, hlen, hsts, hsee, ho, hf⟩ := build_spec l (n + 1) ((n, r) :: Rs) ⟨hl.symm, hn⟩ (by simp [hl]) hst' h2
    have e : ((n, r) :: Rs).reverse.map (·.2) ++ rs = Rs.reverse.map (·.2) ++ (r :: rs) := by simp
    rw [e] at ho hf hsts
    refine ⟨r :: rs, by simp [hlen], hsts, fun i p q j hp hs hj => ?_, ?_, hf⟩
    · cases i with
      | zero =>
        obtain rfl : o = p := by simpa using hp
        obtain rfl : r = q := by simpa using hs
        exact hsr j hj
      | succ i => exact hsee i p q j (by simpa using hp) (by simpa using hs) hj
    intro i p q hp hs
    cases i with
    | zero =>
      obtain rfl : o = p := by simpa using hp
      obtain rfl : r = q := by simpa using hs
      refine ⟨Rs, fun j q hj => ?_, h1⟩
      have := look_spec hn j q hj
      rw [List.getElem?_append_left (List.getElem?_eq_some_iff.1 this).1]; exact this
    | succ i =>
      have := ho i p q (by simpa using hp) (by simpa using hs)
      rw [show n + 1 + i = n + (i + 1) from by omega] at this
      exact this
theorem reach_lt {l : List Oper} (he : edgesOk 0 l = true) : ∀ n i j, reach l n i j = true → j < i
  | 0, i, j, h => by simp [reach] at h
  | n + 1, i, j, h => by
    unfold reach at h
    split at h
    · cases h
    · rename_i o ho
      rw [List.any_eq_true] at h
      obtain ⟨e, hem, hj⟩ := h
      simp only [Bool.and_eq_true, Bool.or_eq_true, beq_iff_eq] at hj
      have h1 := edge_lt he i o e ho (by simpa using hem) hj.1
      rcases hj.2 with rfl | h2
      · omega
      · have := reach_lt he n e.on j h2; omega
theorem waitsFar_lt {l : List Oper} (he : edgesOk 0 l = true) {n i j : Nat} {o : Oper} (ho : l[i]? = some o) (h : waitsFar l n o j = true) : j < i := by
  unfold waitsFar at h
  rw [List.any_eq_true] at h
  obtain ⟨e, hem, hj⟩ := h
  simp only [Bool.and_eq_true, Bool.or_eq_true, beq_iff_eq] at hj
  have h1 := edge_lt he i o e ho (by simpa using hem) hj.1
  rcases hj.2 with rfl | h2
  · omega
  · have := reach_lt he n e.on j h2; omega
theorem wp_region_each {id : Nat} {w : World} (hm : P.follows .mixedOrders = true) (E : Nat → World → World → Prop) (Fs : List Fc)
    (stF : ∀ f ∈ Fs, ∀ i, i < ops.size → f.exp ≠ some i → ¬ Off ops.toList i f.exp → Keep E i f.F)
    (hd : dstsOk b.tmps.toList.length ops.toList = true) (he : edgesOk 0 ops.toList = true) (hF : ∀ f ∈ Fs, f.F w.drew) (h : Build P ops Q E Fs b 0 ops.toList []) : (Code.region id ops true).wp P Q b w := by
  obtain ⟨rs, hl, hst, hsee, ho, hf⟩ := build_spec _ 0 [] trivial rfl (by simp) h
  simp only [List.reverse_nil, List.map_nil, List.nil_append, Nat.zero_add] at ho hf hst
  refine wp_region_any hm ?_
  have hd' : dstsOk b.tmps.size ops.toList = true := by simpa using hd
  have hl' : rs.length = ops.size := by simpa using hl
  refine run (Rs := rs) hd' he stF hst (fun k p q j hp hq hj => hsee k p q j (by simpa using hp) hq hj) hl' (fun i o r hio hr => ho i o r (by simpa using hio) hr) (fun a w' listed hi hall => ?_) ops.size _ b w.drew (by simp) ?_ ?_
  · have alv : ∀ x : Option Nat, x = none → alive listed x := fun x hx => by subst hx; trivial
    refine fin_of (D := b.defers) hi.defers ops.toList rs b.tmps.toList hd (by simpa using hl.symm) (by simpa using hi.size) (fun t ht => by rw [hi.base t ht]; simp) (fun i o t r hio hot hr => ?_) (fun i o r hio hot hr hx u hu => ?_) (fun i r j t hr hj ht => ?_) (hf w' fun f hf' hx => hi.fact f hf' (alv _ hx))
    · have hio' : ops[i]? = some o := by simpa using hio
      obtain ⟨v, hv, hR⟩ := hi.dep i o t r hio' hot (hall i (Array.getElem?_eq_some_iff.1 hio').1) hr
      exact ⟨v, hv, fun hx u hu => hR (alv _ hx) u hu⟩
    · have hio' : ops[i]? = some o := by simpa using hio
      exact hi.depN i o r hio' hot (hall i (Array.getElem?_eq_some_iff.1 hio').1) hr (alv _ hx) u hu
    · have hil : i < ops.toList.length := by rw [← hl]; exact (List.getElem?_eq_some_iff.1 hr).1
      obtain ⟨m, hm⟩ := hsee i ops.toList[i] r j (List.getElem?_eq_getElem hil) hr hj
      have hji : j < i := waitsFar_lt he (List.getElem?_eq_getElem hil) hm
      cases hd2 : isDst (ops.toList.drop i) t with
      | false => rfl
      | true =>
        exfalso
        unfold isDst at hd2; rw [List.any_eq_true] at hd2
        obtain ⟨p, hp, hpt⟩ := hd2
        obtain ⟨k, hk⟩ := List.getElem?_of_mem hp
        rw [List.getElem?_drop] at hk
        obtain ⟨q, hq, hqt⟩ := Option.bind_eq_some_iff.1 ht
        have := dst_ne hd' j (i + k) q p t hq hk hqt (by simpa using hpt)
        omega
  · unfold unl
    rw [List.countP_eq_length.2]
    · simp
    · intro i hi; rw [List.mem_range] at hi; simp [hi]
  · refine ⟨fun f hf _ => hF f hf, rfl, rfl, fun _ _ => rfl, fun i o e hio hl _ _ => ?_, fun i o t r hio _ hl _ => ?_, fun i o r hio _ hl _ _ => ?_⟩
    · have hlt : i < ops.size := by simpa using (List.getElem?_eq_some_iff.1 hio).1
      simp [hlt] at hl
    · have hlt : i < ops.size := (Array.getElem?_eq_some_iff.1 hio).1
      simp [hlt] at hl
    · have hlt : i < ops.size := (Array.getElem?_eq_some_iff.1 hio).1
      simp [hlt] at hl
def spE : List (Nat × (World → World → Prop)) → Nat → World → World → Prop
  | [], _ => fun w w' => Below w.heap.size w w'
  | (k, e) :: l, i => if k == i then e else spE l i
def PastO (os : List Oper) : Option Nat → Nat → Prop
  | none, _ => False
  | some n, i => Past os n i
def KeepL (os : List Oper) (n : Option Nat) (x : Option Nat) (F : World → Prop) : List (Nat × (World → World → Prop)) → Prop
  | [] => True
  | (k, e) :: l => (n ≠ some k → x ≠ some k → ¬ Off os k x → ¬ PastO os n k → ∀ w w', F w → e w w' → F w') ∧ KeepL os n x F l
theorem keep_sp {os : List Oper} {L : List (Nat × (World → World → Prop))} {n : Option Nat} {x : Option Nat} {F : World → Prop} (h0 : ∀ w w', F w → Below w.heap.size w w' → F w') (h : KeepL os n x F L) : ∀ i, n ≠ some i → x ≠ some i → ¬ Off os i x → ¬ PastO os n i → Keep (spE L) i F := by
  intro i hn hx hoff hp w w' hF hE
  induction L with
  | nil => exact h0 _ _ hF hE
  | cons p l ih =>
    obtain ⟨k, e⟩ := p
    simp only [spE] at hE
    split at hE
    · rename_i hk
      have : k = i := by simpa using hk
      subst this
      exact h.1 hn hx hoff hp _ _ hF hE
    · exact ih h.2 hE
theorem keep_eq {os : List Oper} {E : Nat → World → World → Prop} {X : Value} {m n : Nat} : ∀ i, i < m → i ≠ n → (eq X).exp ≠ some i → ¬ Off os i (eq X).exp → ¬ Past os n i → ∀ v u, Keep E i ((eq X).R v u) := fun _ _ _ _ _ _ _ _ _ _ h _ => h
theorem keep_r {os : List Oper} {L : List (Nat × (World → World → Prop))} {r : Rl} {m n : Nat} (h0 : ∀ v u w w', r.R v u w → Below w.heap.size w w' → r.R v u w') (h : ∀ v u, KeepL os (some n) r.exp (r.R v u) L) : ∀ i, i < m → i ≠ n → r.exp ≠ some i → ¬ Off os i r.exp → ¬ Past os n i → ∀ v u, Keep (spE L) i (r.R v u) :=
  fun i _ hn hx ho hp v u => keep_sp (h0 v u) (h v u) i (fun e => hn (Option.some.inj e).symm) hx ho hp
def KeepF (os : List Oper) (L : List (Nat × (World → World → Prop))) : List Fc → Prop
  | [] => True
  | f :: l => ((∀ w w', f.F w → Below w.heap.size w w' → f.F w') ∧ KeepL os none f.exp f.F L) ∧ KeepF os L l
theorem keep_f {os : List Oper} {L : List (Nat × (World → World → Prop))} {m : Nat} : ∀ {Fs : List Fc}, KeepF os L Fs → ∀ f ∈ Fs, ∀ i, i < m → f.exp ≠ some i → ¬ Off os i f.exp → Keep (spE L) i f.F
  | [], _, f, hf, _, _, _, _ => by cases hf
  | g :: l, h, f, hf, i, hi, hx, ho => by
    rcases List.mem_cons.1 hf with rfl | hf
    · exact keep_sp h.1.1 h.1.2 i (fun e => by cases e) hx ho (fun h => h)
    · exact keep_f h.2 f hf i hi hx ho
def AllF (w : World) : List Fc → Prop
  | [] => True
  | f :: l => f.F w ∧ AllF w l
theorem all_f {w : World} : ∀ {Fs : List Fc}, AllF w Fs → ∀ f ∈ Fs, f.F w
  | [], _, f, hf => by cases hf
  | g :: l, h, f, hf => by
    rcases List.mem_cons.1 hf with rfl | hf
    · exact h.1
    · exact all_f h.2 f hf
theorem start {id : Nat} {w : World} (hm : P.follows .mixedOrders = true) (L : List (Nat × (World → World → Prop))) (Fs : List Fc) (kf : KeepF ops.toList L Fs)
    (hd : dstsOk b.tmps.toList.length ops.toList = true) (he : edgesOk 0 ops.toList = true) (hF : AllF w.drew Fs) (h : Build P ops Q (spE L) Fs b 0 ops.toList []) : (Code.region id ops true).wp P Q b w :=
  wp_region_each hm (spE L) Fs (fun f hf i hi hx ho => keep_f kf f hf i hi hx ho) hd he (all_f hF) h
theorem build_cons {n m : Nat} {o : Oper} {l : List Oper} {Rs : List (Nat × Rl)} {r : Rl} (h : One P ops Q E Fs b Rs n o r) (h2 : Build P ops Q E Fs b m l ((n, r) :: Rs)) (hm : m = n + 1) (hq : ∀ i, i < ops.size → i ≠ n → r.exp ≠ some i → ¬ Off ops.toList i r.exp → ¬ Past ops.toList n i → ∀ v u, Keep E i (r.R v u)) (hs : ∀ j, r.see = some j → ∃ m, waitsFar ops.toList m o j = true) : Build P ops Q E Fs b n (o :: l) Rs := by subst hm; exact ⟨r, h, hq, hs, h2⟩
theorem build_end {n : Nat} {Rs : List (Nat × Rl)} (h : ∀ w, (∀ (k : Nat) f, Fs[k]? = some f → f.exp = none → f.F w) → Fin ops Q b.defers ops.toList (Rs.reverse.map (·.2)) b.tmps.toList w) : Build P ops Q E Fs b n [] Rs :=
  fun w hf => h w fun k f hk hx => hf f (List.mem_of_getElem? hk) hx
theorem fin_none {D : List Deferred} {o : Oper} {os : List Oper} {r : Rl} {rs : List Rl} {base : List Value} {w : World} (hd : o.dst = none) (h : (r.exp = none → ∀ u, Sees ops.toList base.toArray r.see u → r.R undef u w) → Fin ops Q D os rs base w) : Fin ops Q D (o :: os) (r :: rs) base w := by
  simp only [Fin, hd]; exact h
theorem fin_eq {D : List Deferred} {o : Oper} {os : List Oper} {X : Value} {rs : List Rl} {base : List Value} {w : World} {d : Nat} (hd : o.dst = some d) (h : Fin ops Q D os rs (base.set d X) w) : Fin ops Q D (o :: os) (eq X :: rs) base w := by
  simp only [Fin, hd]; intro v hv; obtain rfl : v = X := hv rfl undef rfl; exact h
theorem fin_any {D : List Deferred} {o : Oper} {os : List Oper} {r : Rl} {rs : List Rl} {base : List Value} {w : World} {d : Nat} (hd : o.dst = some d) (h : ∀ v, (r.exp = none → ∀ u, Sees ops.toList base.toArray r.see u → r.R v u w) → Fin ops Q D os rs (base.set d v) w) : Fin ops Q D (o :: os) (r :: rs) base w := by
  simp only [Fin, hd]; exact h
theorem fin_nil {D : List Deferred} {base : List Value} {w : World} (h : Q .normal ⟨base.toArray, D⟩ w) : Fin ops Q D [] [] base w := h
theorem one_plain {Rs : List (Nat × Rl)} {i : Nat} {o : Oper} {r : Rl} (hg : o.guard = none)
    (h : ∀ a w, Known ops Fs b Rs i o a w → ∀ K : Act → World → Prop, (∀ v w', (o.dst = none → v = undef) → (∀ u, Sees ops.toList a.tmps r.see u → r.R v u w') → E i w w' → K (a.put o.dst v) w') → o.wp P a w K Q) : One P ops Q E Fs b Rs i o r :=
  fun a w hk => by rw [if_pos (by simp [Region.wanted, hg])]; exact h a w hk
theorem yielded_of {Rs : List (Nat × Rl)} {i : Nat} {o : Oper} {a : Act} {w : World} (hk : Known ops Fs b Rs i o a w) {j t n : Nat} {g : Bool} (hw : waitsFar ops.toList n o j = true) (ht : (ops.toList[j]?).bind (·.dst) = some t) (hr : look Rs j = some (eq (.bool g))) : yielded ops a.tmps j = some g := by
  obtain ⟨v, hv, hR⟩ := hk.dep n j t _ hw ht hr
  obtain rfl : v = .bool g := hR 0 undef rfl rfl
  have ht' : (ops[j]?).bind (·.dst) = some t := by simpa using ht
  unfold yielded; rw [ht']; simp [hv]
theorem one_yes {Rs : List (Nat × Rl)} {i : Nat} {o : Oper} {r : Rl} (j t : Nat) (g : Bool) (hg : o.guard = some (j, g)) (hw : waitsFar ops.toList 0 o j = true) (ht : (ops.toList[j]?).bind (·.dst) = some t) (hr : look Rs j = some (eq (.bool g)))
    (h : ∀ a w, Known ops Fs b Rs i o a w → ∀ K : Act → World → Prop, (∀ v w', (o.dst = none → v = undef) → (∀ u, Sees ops.toList a.tmps r.see u → r.R v u w') → E i w w' → K (a.put o.dst v) w') → o.wp P a w K Q) : One P ops Q E Fs b Rs i o r :=
  fun a w hk => by rw [if_pos (by simp [Region.wanted, hg, yielded_of hk hw ht hr])]; exact h a w hk
theorem one_no {Rs : List (Nat × Rl)} {i : Nat} {o : Oper} (j t : Nat) (g : Bool) (hg : o.guard = some (j, g)) (hw : waitsFar ops.toList 0 o j = true) (ht : (ops.toList[j]?).bind (·.dst) = some t) (hr : look Rs j = some (eq (.bool !g))) : One P ops Q E Fs b Rs i o (eq undef) :=
  fun a w hk => by
    have := yielded_of hk hw ht hr
    rw [if_neg (by simp [Region.wanted, hg, this])]; exact fun _ _ => rfl
end
end RgX
end Go.Proofs.YtgjcibhhffkemaaGreatDoor
namespace Go.Proofs.YtgjcibhhffkemaaGreatDoor
open Go.RowKit Bt
def StR {α : Type} (s : ByteArray) (g : Nat) (o x : Int) (r : Re α) (w : World) : Prop :=
  match r with | .ok _ q => AtG w g 114 (rdr s (q : Int) o 0 x) | .no c y => ∃ p, AtG w g 114 (rdr s p o c (y : Int))
theorem below_set4 {B : Nat} {w w1 : World} (h : Below B w w1) (g : Nat) (hg : B ≤ g) (a b c d : Value) : Below B w ((((w1.setCell ⟨g, 0, none⟩ a).setCell ⟨g, 1, none⟩ b).setCell ⟨g, 2, none⟩ c).setCell ⟨g, 3, none⟩ d) :=
  (((h.setCell hg _).setCell hg _).setCell hg _).setCell hg _
def putS (w : World) (g : Nat) (f : Nat → Bool) : World := (((w.setCell ⟨g, 0, none⟩ (.int .u64 ((wd f 0 : Nat) : Int))).setCell ⟨g, 1, none⟩ (.int .u64 ((wd f 1 : Nat) : Int))).setCell ⟨g, 2, none⟩ (.int .u64 ((wd f 2 : Nat) : Int))).setCell ⟨g, 3, none⟩ (.int .u64 ((wd f 3 : Nat) : Int))
theorem putS_at {w : World} {g T : Nat} {a b c d : Value} (h : AtG w g T #[a, b, c, d]) (f : Nat → Bool) : AtG (putS w g f) g T (cellsOf f) := (((h.set 0 _).set 1 _).set 2 _).set 3 _
theorem putS_far {w : World} {g g' T : Nat} {cs : Array Value} (h : AtG w g' T cs) (hg : g' ≠ g) (f : Nat → Bool) : AtG (putS w g f) g' T cs := (((h.far hg _).far hg _).far hg _).far hg _
theorem putS_below {B : Nat} {w w1 : World} (h : Below B w w1) {g : Nat} (hg : B ≤ g) (f : Nat → Bool) : Below B w (putS w1 g f) := below_set4 h g hg _ _ _ _
end Go.Proofs.YtgjcibhhffkemaaGreatDoor
namespace Go.Proofs.YtgjcibhhffkemaaGreatDoor
open Go.RowKit Bt
theorem setOf_emp : setOf emp = setV 0 0 0 0 := by unfold setOf emp; simp [wd_none]
def wideV (c : Int) : Value := match wideF c with | some f => .tuple #[setOf f, .bool true] | none => .tuple #[setOf emp, .bool false]
end Go.Proofs.YtgjcibhhffkemaaGreatDoor
namespace Go.Proofs.YtgjcibhhffkemaaGreatDoor
open Go.RowKit Bt
theorem Only.tr {S : Nat → Prop} {w w1 w2 : World} (h : Only S w w1) (h' : Only S w1 w2) : Only S w w2 := h.trans h' (fun k hk => .inl hk)
theorem Only.tb {S : Nat → Prop} {w w1 w2 : World} (h : Only S w w1) (h' : Below w1.heap.size w1 w2) : Only S w w2 := h.trans (Only.of_below (S := S) h') (fun k hk => .inl hk)
theorem Only.al {S : Nat → Prop} {w w1 : World} (h : Only S w w1) (o : Obj) : Only S w (w1.alloc o) := h.tb ((Below.refl _ _).alloc (Nat.le_refl _) o)
theorem Only.st {S : Nat → Prop} {w w1 : World} (h : Only S w w1) (g i : Nat) (v : Value) (hg : S g ∨ w.heap.size ≤ g) : Only S w (w1.setCell ⟨g, i, none⟩ v) :=
  h.trans (Only.set (S := fun k => k = g) w1 g i v rfl) (fun k hk => by subst hk; exact hg)
theorem Only.pS {S : Nat → Prop} {w w1 : World} (h : Only S w w1) (g : Nat) (f : Nat → Bool) (hg : S g ∨ w.heap.size ≤ g) : Only S w (putS w1 g f) :=
  (((h.st g 0 _ hg).st g 1 _ hg).st g 2 _ hg).st g 3 _ hg
end Go.Proofs.YtgjcibhhffkemaaGreatDoor
namespace Go.Proofs.YtgjcibhhffkemaaGreatDoor
open Go.RowKit Bt
def nodeV (t : Tree) (kv : Value) : Value := match t with | .node op f mn mx _ => .agg #[.int .i64 op, .int .u64 ((wd f 0 : Nat) : Int), .int .u64 ((wd f 1 : Nat) : Int), .int .u64 ((wd f 2 : Nat) : Int), .int .u64 ((wd f 3 : Nat) : Int), .int .i64 mn, .int .i64 mx, kv]
def nodeL (t : Tree) (kv : Value) : List Value := match t with | .node op f mn mx _ => [.int .i64 op, .int .u64 ((wd f 0 : Nat) : Int), .int .u64 ((wd f 1 : Nat) : Int), .int .u64 ((wd f 2 : Nat) : Int), .int .u64 ((wd f 3 : Nat) : Int), .int .i64 mn, .int .i64 mx, kv]
theorem nodeL_len (t : Tree) (kv : Value) : (nodeL t kv).length = 8 := by cases t; rfl
mutual
def KAt (D : Nat → Prop) (w : World) : Tree → Value → Prop
  | .node _ _ _ _ kids, kv => (kids = [] ∧ ∃ a c, kv = .slice a 0 c) ∨ (kids ≠ [] ∧ kids.length ≤ 1000 ∧ ∃ b off cap, kv = .slice (some ⟨b, off, none⟩) kids.length cap ∧ kids.length ≤ cap ∧ D b ∧ KRow D w kids b off)
def KRow (D : Nat → Prop) (w : World) : List Tree → Nat → Nat → Prop
  | [], _, _ => True
  | t :: l, b, off => (∃ kv, (∀ i, i < 8 → w.cell? ⟨b, off + i, none⟩ = (nodeL t kv)[i]?) ∧ KAt D w t kv) ∧ KRow D w l b (off + 8)
end
theorem cell_same {w w' : World} {b : Nat} (h : w'.heap[b]? = w.heap[b]?) (i : Nat) : w'.cell? ⟨b, i, none⟩ = w.cell? ⟨b, i, none⟩ := by
  unfold World.cell?; simp only [h]
mutual
theorem KAt.keep {D D' : Nat → Prop} {w w' : World} (hk : ∀ b, D b → w'.heap[b]? = w.heap[b]?) (hD : ∀ b, D b → D' b) : ∀ (t : Tree) (kv : Value), KAt D w t kv → KAt D' w' t kv
  | .node op f mn mx kids, kv, h => by
    rw [KAt] at h ⊢
    rcases h with h | ⟨h1, hl, b, off, cap, h2, h3, h4, h5⟩
    · exact .inl h
    · exact .inr ⟨h1, hl, b, off, cap, h2, h3, hD b h4, KRow.keep hk hD kids b off h4 h5⟩
theorem KRow.keep {D D' : Nat → Prop} {w w' : World} (hk : ∀ b, D b → w'.heap[b]? = w.heap[b]?) (hD : ∀ b, D b → D' b) : ∀ (l : List Tree) (b off : Nat), D b → KRow D w l b off → KRow D' w' l b off
  | [], b, off, hb, h => by rw [KRow]; trivial
  | t :: l, b, off, hb, h => by
    rw [KRow] at h ⊢
    obtain ⟨⟨kv, h1, h2⟩, h3⟩ := h
    exact ⟨⟨kv, fun i hi => by rw [cell_same (hk b hb)]; exact h1 i hi, KAt.keep hk hD t kv h2⟩, KRow.keep hk hD l b (off + 8) hb h3⟩
end
def Iv (lo hi : Nat) : Nat → Prop := fun b => lo ≤ b ∧ b < hi
theorem KAt.below {lo hi hi' : Nat} {w w' : World} {t : Tree} {kv : Value} (h : KAt (Iv lo hi) w t kv) (hb : Below hi w w') (hh : hi ≤ hi') : KAt (Iv lo hi') w' t kv :=
  KAt.keep (fun b hb' => hb.block b hb'.2) (fun b h => ⟨h.1, Nat.lt_of_lt_of_le h.2 hh⟩) t kv h
theorem KAt.only {D : Nat → Prop} {S : Nat → Prop} {w w' : World} {t : Tree} {kv : Value} (h : KAt D w t kv) (hb : Only S w w') (hD : ∀ b, D b → b < w.heap.size ∧ ¬ S b) : KAt D w' t kv :=
  KAt.keep (fun b hb' => hb.block b (hD b hb').1 (hD b hb').2) (fun b h => h) t kv h
theorem KAt.mono {D D' : Nat → Prop} {w : World} {t : Tree} {kv : Value} (h : KAt D w t kv) (hD : ∀ b, D b → D' b) : KAt D' w t kv := KAt.keep (fun _ _ => rfl) hD t kv h
theorem KRow.get {D : Nat → Prop} {w : World} : ∀ (l : List Tree) (b off j : Nat) (t : Tree), KRow D w l b off → l[j]? = some t → ∃ kv, (∀ i, i < 8 → w.cell? ⟨b, off + 8 * j + i, none⟩ = (nodeL t kv)[i]?) ∧ KAt D w t kv
  | [], b, off, j, t, h, hj => by simp at hj
  | t :: l, b, off, 0, u, h, hj => by
    rw [KRow] at h
    simp at hj; subst hj
    simpa using h.1
  | t :: l, b, off, j + 1, u, h, hj => by
    rw [KRow] at h
    obtain ⟨kv, h1, h2⟩ := KRow.get l b (off + 8) j u h.2 (by simpa using hj)
    exact ⟨kv, fun i hi => by rw [← h1 i hi, show off + 8 * (j + 1) + i = off + 8 + 8 * j + i from by omega], h2⟩
theorem KRow.mk {D : Nat → Prop} {w : World} : ∀ (l : List Tree) (b off : Nat), (∀ j t, l[j]? = some t → ∃ kv, (∀ i, i < 8 → w.cell? ⟨b, off + 8 * j + i, none⟩ = (nodeL t kv)[i]?) ∧ KAt D w t kv) → KRow D w l b off
  | [], b, off, h => by rw [KRow]; trivial
  | t :: l, b, off, h => by
    rw [KRow]
    refine ⟨by simpa using h 0 t rfl, KRow.mk l b (off + 8) fun j u hj => ?_⟩
    obtain ⟨kv, h1, h2⟩ := h (j + 1) u (by simpa using hj)
    exact ⟨kv, fun i hi => by rw [← h1 i hi, show off + 8 * (j + 1) + i = off + 8 + 8 * j + i from by omega], h2⟩
theorem KAt.slice {D : Nat → Prop} {w : World} {op : Int} {f : Nat → Bool} {mn mx : Int} {kids : List Tree} {kv : Value} (h : KAt D w (.node op f mn mx kids) kv) : ∃ a c, kv = .slice a kids.length c := by
  rw [KAt] at h
  rcases h with ⟨rfl, a, c, rfl⟩ | ⟨_, _, b, off, cap, rfl, _⟩
  · exact ⟨a, c, rfl⟩
  · exact ⟨_, cap, rfl⟩
def flatN (ps : List (Tree × Value)) : List Value := ps.flatMap (fun p => nodeL p.1 p.2)
theorem flatN_snoc (ps : List (Tree × Value)) (t : Tree) (kv : Value) : flatN (ps ++ [(t, kv)]) = flatN ps ++ nodeL t kv := by unfold flatN; rw [List.flatMap_append]; simp
theorem flatN_one (t : Tree) (kv : Value) : flatN [(t, kv)] = nodeL t kv := by unfold flatN; simp
theorem flatN_get : ∀ (ps : List (Tree × Value)) (j : Nat) (p : Tree × Value), ps[j]? = some p → ∀ i, i < 8 → (flatN ps)[8 * j + i]? = (nodeL p.1 p.2)[i]?
  | [], j, p, h, i, hi => by simp at h
  | q :: ps, 0, p, h, i, hi => by
    simp at h; subst h
    unfold flatN; rw [List.flatMap_cons, List.getElem?_append_left (by rw [nodeL_len]; omega)]; simp
  | q :: ps, j + 1, p, h, i, hi => by
    have h1 := flatN_get ps j p (by simpa using h) i hi
    unfold flatN at h1 ⊢
    rw [List.flatMap_cons, List.getElem?_append_right (by rw [nodeL_len]; omega), nodeL_len, show 8 * (j + 1) + i - 8 = 8 * j + i from by omega]
    exact h1
theorem flatN_len (ps : List (Tree × Value)) : (flatN ps).length = ps.length * 8 := by
  induction ps with
  | nil => rfl
  | cons p ps ih => unfold flatN at *; rw [List.flatMap_cons, List.length_append, nodeL_len, ih, List.length_cons]; omega
def AllK (D : Nat → Prop) (w : World) (ps : List (Tree × Value)) : Prop := ∀ p ∈ ps, KAt D w p.1 p.2
theorem infoNode : (Tryz.prog.info? 41).map (fun i => (i.zero, i.size, i.bytes)) = some (some (.agg #[.int .i64 0, .int .u64 0, .int .u64 0, .int .u64 0, .int .u64 0, .int .i64 0, .int .i64 0, .slice none 0 0]), 8, 80) := by kernel_rfl
theorem own_kids {D : Nat → Prop} {w : World} {base n : Nat} {v : Value} {ps : List (Tree × Value)} (h : w.ownsRow base 41 8 v n (flatN ps)) (ha : AllK D w ps) (hn : ps ≠ []) :
    ∃ b cap, v = .slice (some ⟨b, 0, none⟩) ps.length cap ∧ ps.length ≤ cap ∧ base ≤ b ∧ b < w.heap.size ∧ v.ownBlock = some b ∧ KRow D w (ps.map (·.1)) b 0 := by
  have hl := h.1
  rw [flatN_len] at hl
  have hl : ps.length = n := by omega
  rcases h.2 with ⟨rfl, h0⟩ | ⟨g, cap, cur, rfl, hb, hh, hnc, hcm, hcs, hct⟩
  · exact absurd (List.eq_nil_of_length_eq_zero (by omega)) hn
  · refine ⟨g, cap, by rw [hl], by omega, hb, (Array.getElem?_eq_some_iff.1 hh).1, rfl, KRow.mk _ _ _ fun j t hj => ?_⟩
    rw [List.getElem?_map] at hj
    obtain ⟨p, hp, rfl⟩ := Option.map_eq_some_iff.1 hj
    refine ⟨p.2, fun i hi => ?_, ha p (List.mem_of_getElem? hp)⟩
    have hg := flatN_get ps j p hp i hi
    have hi2 : i < (nodeL p.1 p.2).length := by rw [nodeL_len]; exact hi
    rw [List.getElem?_eq_getElem hi2] at hg ⊢
    rw [← hct, List.getElem?_take] at hg
    split at hg
    · have : cur[8 * j + i]? = some (nodeL p.1 p.2)[i] := by simpa using hg
      simp [World.cell?, hh, this]
    · cases hg
theorem own_node {w : World} {g base : Nat} {t : Tree} {kv : Value} (h : AtG w g 41 (nodeL t kv).toArray) (hb : base ≤ g) : w.ownsRow base 41 8 (.slice (some ⟨g, 0, none⟩) 1 1) 1 (flatN [(t, kv)]) := by
  rw [flatN_one]
  exact ⟨by rw [nodeL_len], .inr ⟨g, 1, _, rfl, hb, h, Nat.le_refl _, by decide, by simp [nodeL_len], by rw [show 1 * 8 = (nodeL t kv).length from by rw [nodeL_len]]; simp⟩⟩
end Go.Proofs.YtgjcibhhffkemaaGreatDoor
namespace Go.Proofs.YtgjcibhhffkemaaGreatDoor
open Go.RowKit Bt
theorem StR.far {α : Type} {s : ByteArray} {g : Nat} {o x : Int} {r : Re α} {w : World} (h : StR s g o x r w) {gg : Nat} (hg : g ≠ gg) (f : Nat → Bool) : StR s g o x r (putS w gg f) := by
  cases r with
  | ok a q => exact putS_far h hg f
  | no c y => obtain ⟨p, h⟩ := h; exact ⟨p, putS_far h hg f⟩
theorem StR.below {α : Type} {s : ByteArray} {g : Nat} {o x : Int} {r : Re α} {w w' : World} (h : StR s g o x r w) (hb : Below w.heap.size w w') : StR s g o x r w' := by
  cases r with
  | ok a q => exact AtG.below h hb
  | no c y => obtain ⟨p, h⟩ := h; exact ⟨p, h.below hb⟩
def negF (b : Bool) (f : Nat → Bool) : Nat → Bool := if b then (fun y => !f y) else f
end Go.Proofs.YtgjcibhhffkemaaGreatDoor
namespace Go.Proofs.YtgjcibhhffkemaaGreatDoor
open Go.RowKit Bt
def IvB (lo hi : Nat) (v : Value) : Nat → Prop := fun x => (lo ≤ x ∧ x < hi) ∧ v.ownBlock ≠ some x
end Go.Proofs.YtgjcibhhffkemaaGreatDoor
namespace Go.Proofs.YtgjcibhhffkemaaGreatDoor
open Go.RowKit Bt
def nodeZ : Array Value := #[.int .i64 0, .int .u64 0, .int .u64 0, .int .u64 0, .int .u64 0, .int .i64 0, .int .i64 0, .slice none 0 0]
def putN (w : World) (g : Nat) (op : Int) (f : Nat → Bool) (mn mx : Int) (kv : Value) : World :=
  (((((((w.setCell ⟨g, 0, none⟩ (.int .i64 op)).setCell ⟨g, 1, none⟩ (.int .u64 ((wd f 0 : Nat) : Int))).setCell ⟨g, 2, none⟩ (.int .u64 ((wd f 1 : Nat) : Int))).setCell ⟨g, 3, none⟩ (.int .u64 ((wd f 2 : Nat) : Int))).setCell ⟨g, 4, none⟩ (.int .u64 ((wd f 3 : Nat) : Int))).setCell ⟨g, 5, none⟩ (.int .i64 mn)).setCell ⟨g, 6, none⟩ (.int .i64 mx)).setCell ⟨g, 7, none⟩ kv
theorem putN_at {w : World} {g T : Nat} {a b c d e f' i j : Value} (h : AtG w g T #[a, b, c, d, e, f', i, j]) (op : Int) (f : Nat → Bool) (mn mx : Int) (kv : Value) : AtG (putN w g op f mn mx kv) g T #[.int .i64 op, .int .u64 ((wd f 0 : Nat) : Int), .int .u64 ((wd f 1 : Nat) : Int), .int .u64 ((wd f 2 : Nat) : Int), .int .u64 ((wd f 3 : Nat) : Int), .int .i64 mn, .int .i64 mx, kv] := by
  have key : ∀ (w : World) (a b c d e f' i j : Value) (A B C D E F I J : Value), AtG w g T #[a, b, c, d, e, f', i, j] → AtG ((((((((w.setCell ⟨g, 0, none⟩ A).setCell ⟨g, 1, none⟩ B).setCell ⟨g, 2, none⟩ C).setCell ⟨g, 3, none⟩ D).setCell ⟨g, 4, none⟩ E).setCell ⟨g, 5, none⟩ F).setCell ⟨g, 6, none⟩ I).setCell ⟨g, 7, none⟩ J) g T #[A, B, C, D, E, F, I, J] := by
    intro w a b c d e f' i j A B C D E F I J h
    have h0 : AtG (w.setCell ⟨g, 0, none⟩ A) g T #[A, b, c, d, e, f', i, j] := h.set 0 A
    have h1 : AtG ((w.setCell ⟨g, 0, none⟩ A).setCell ⟨g, 1, none⟩ B) g T #[A, B, c, d, e, f', i, j] := h0.set 1 B
    have h2 : AtG (((w.setCell ⟨g, 0, none⟩ A).setCell ⟨g, 1, none⟩ B).setCell ⟨g, 2, none⟩ C) g T #[A, B, C, d, e, f', i, j] := h1.set 2 C
    have h3 : AtG ((((w.setCell ⟨g, 0, none⟩ A).setCell ⟨g, 1, none⟩ B).setCell ⟨g, 2, none⟩ C).setCell ⟨g, 3, none⟩ D) g T #[A, B, C, D, e, f', i, j] := h2.set 3 D
    have h4 : AtG (((((w.setCell ⟨g, 0, none⟩ A).setCell ⟨g, 1, none⟩ B).setCell ⟨g, 2, none⟩ C).setCell ⟨g, 3, none⟩ D).setCell ⟨g, 4, none⟩ E) g T #[A, B, C, D, E, f', i, j] := h3.set 4 E
    have h5 : AtG ((((((w.setCell ⟨g, 0, none⟩ A).setCell ⟨g, 1, none⟩ B).setCell ⟨g, 2, none⟩ C).setCell ⟨g, 3, none⟩ D).setCell ⟨g, 4, none⟩ E).setCell ⟨g, 5, none⟩ F) g T #[A, B, C, D, E, F, i, j] := h4.set 5 F
    have h6 : AtG (((((((w.setCell ⟨g, 0, none⟩ A).setCell ⟨g, 1, none⟩ B).setCell ⟨g, 2, none⟩ C).setCell ⟨g, 3, none⟩ D).setCell ⟨g, 4, none⟩ E).setCell ⟨g, 5, none⟩ F).setCell ⟨g, 6, none⟩ I) g T #[A, B, C, D, E, F, I, j] := h5.set 6 I
    have h7 : AtG ((((((((w.setCell ⟨g, 0, none⟩ A).setCell ⟨g, 1, none⟩ B).setCell ⟨g, 2, none⟩ C).setCell ⟨g, 3, none⟩ D).setCell ⟨g, 4, none⟩ E).setCell ⟨g, 5, none⟩ F).setCell ⟨g, 6, none⟩ I).setCell ⟨g, 7, none⟩ J) g T #[A, B, C, D, E, F, I, J] := h6.set 7 J
    exact h7
  exact key w _ _ _ _ _ _ _ _ _ _ _ _ _ _ _ _ h
theorem putN_far {w : World} {g g' T : Nat} {cs : Array Value} (h : AtG w g' T cs) (hg : g' ≠ g) (op : Int) (f : Nat → Bool) (mn mx : Int) (kv : Value) : AtG (putN w g op f mn mx kv) g' T cs :=
  (((((((h.far hg _).far hg _).far hg _).far hg _).far hg _).far hg _).far hg _).far hg _
theorem putN_size (w : World) (g : Nat) (op : Int) (f : Nat → Bool) (mn mx : Int) (kv : Value) : (putN w g op f mn mx kv).heap.size = w.heap.size := by simp [putN]
theorem Only.pN {S : Nat → Prop} {w w1 : World} (h : Only S w w1) (g : Nat) (hg : S g ∨ w.heap.size ≤ g) (op : Int) (f : Nat → Bool) (mn mx : Int) (kv : Value) : Only S w (putN w1 g op f mn mx kv) :=
  (((((((h.st g 0 _ hg).st g 1 _ hg).st g 2 _ hg).st g 3 _ hg).st g 4 _ hg).st g 5 _ hg).st g 6 _ hg).st g 7 _ hg
theorem putN_block (w : World) (g : Nat) (op : Int) (f : Nat → Bool) (mn mx : Int) (kv : Value) (b : Nat) (hb : b ≠ g) (hl : b < w.heap.size) : (putN w g op f mn mx kv).heap[b]? = w.heap[b]? :=
  ((Only.refl (S := fun k => k = g) w).pN g (.inl rfl) op f mn mx kv).block b hl hb
theorem StR.alloc {α : Type} {s : ByteArray} {g : Nat} {o x : Int} {r : Re α} {w : World} (h : StR s g o x r w) (ob : Obj) : StR s g o x r (w.alloc ob) := StR.below h ((Below.refl _ _).alloc (Nat.le_refl _) ob)
theorem StR.map {α β : Type} {s : ByteArray} {g : Nat} {o x : Int} {r : Re α} {w : World} (f : α → β) (h : StR s g o x r w) : StR s g o x (r.map f) w := by cases r <;> exact h
theorem kat_one (D : Nat → Prop) (w : World) (op : Int) (f : Nat → Bool) (mn mx : Int) : KAt D w (.node op f mn mx []) (.slice none 0 0) := by rw [KAt]; exact .inl ⟨rfl, none, 0, rfl⟩
structure AtM (s : ByteArray) (g : Nat) (o x : Int) (r : Re Unit) (w wn : World) : Prop where
  st : StR s g o x r wn
  cell : AtG wn w.heap.size 41 nodeZ
  only : Only (fun k => k = g) w wn
namespace AtM
variable {s : ByteArray} {g : Nat} {o x : Int} {r : Re Unit} {w wn w2 : World}
theorem below (h : AtM s g o x r w wn) (hb : Below wn.heap.size wn w2) : AtM s g o x r w w2 := ⟨StR.below h.st hb, h.cell.below hb, h.only.tb hb⟩
theorem al (h : AtM s g o x r w wn) (ob : Obj) : AtM s g o x r w (wn.alloc ob) := h.below ((Below.refl _ _).alloc (Nat.le_refl _) ob)
theorem next {r' : Re Unit} {o' : Int} (h : AtM s g o x r w wn) (hg : g < w.heap.size) (hO : Only (fun k => k = g) wn w2) (hs : StR s g o' x r' w2) : AtM s g o' x r' w w2 := ⟨hs, h.cell.only hO (by show ¬ (w.heap.size = g); omega), h.only.tr hO⟩
end AtM
end Go.Proofs.YtgjcibhhffkemaaGreatDoor
namespace Go.Proofs.YtgjcibhhffkemaaGreatDoor
open Go.RowKit Bt
theorem wd_emp (i : Nat) : ((wd emp i : Nat) : Int) = 0 := by unfold emp; rw [wd_none]; rfl
theorem StR.g {α : Type} {s : ByteArray} {g : Nat} {o x : Int} {r : Re α} {w : World} (h : StR s g o x r w) : ∃ p c y, AtG w g 114 (rdr s p o c y) := by
  cases r with
  | ok a q => exact ⟨_, _, _, h⟩
  | no c y => obtain ⟨p, h⟩ := h; exact ⟨p, _, _, h⟩
end Go.Proofs.YtgjcibhhffkemaaGreatDoor
namespace Go.Proofs.YtgjcibhhffkemaaGreatDoor
open Go.RowKit Bt
abbrev nodeC (op : Int) (f : Nat → Bool) (mn mx : Int) (kv : Value) : Array Value := #[.int .i64 op, .int .u64 ((wd f 0 : Nat) : Int), .int .u64 ((wd f 1 : Nat) : Int), .int .u64 ((wd f 2 : Nat) : Int), .int .u64 ((wd f 3 : Nat) : Int), .int .i64 mn, .int .i64 mx, kv]
def DB (w wr : World) (b3 : Nat) : Nat → Prop := fun b => Iv (w.heap.size + 1) wr.heap.size b ∧ b ≠ b3
structure Held (g : Nat) (w : World) (b3 : Nat) (t : Tree) (kv : Value) (wr : World) : Prop where
  node : AtG wr b3 41 (nodeL t kv).toArray
  kids : KAt (DB w wr b3) wr t kv
  cell : AtG wr w.heap.size 41 nodeZ
  only : Only (fun k => k = g) w wr
namespace Held
variable {g : Nat} {w wr w2 : World} {b3 : Nat} {t : Tree} {kv : Value}
theorem next (h : Held g w b3 t kv wr) (hg : g < w.heap.size) (hb : w.heap.size < b3) (hO : Only (fun k => k = g) wr w2) : Held g w b3 t kv w2 :=
  ⟨h.node.only hO (by show ¬ (b3 = g); omega), KAt.keep (fun b hb => hO.block b hb.1.2 (by have := hb.1.1; show ¬ (b = g); omega)) (fun b hb => ⟨⟨hb.1.1, Nat.lt_of_lt_of_le hb.1.2 hO.size⟩, hb.2⟩) _ _ h.kids,
    h.cell.only hO (by show ¬ (w.heap.size = g); omega), h.only.tr hO⟩
theorem below (h : Held g w b3 t kv wr) (hg : g < w.heap.size) (hb : w.heap.size < b3) (hO : Below wr.heap.size wr w2) : Held g w b3 t kv w2 := h.next hg hb (Only.of_below hO)
theorem step {op : Int} {f : Nat → Bool} {mn mx : Int} {kids : List Tree} {ka : Option Addr} {kn kc : Nat} (h : Held g w b3 (.node op f mn mx kids) (.slice ka kn kc) wr) (hg : g < w.heap.size) (hb : w.heap.size < b3) (low high : Int) :
    Held g w b3 (repT low high (.node op f mn mx kids)) (.slice (some ⟨wr.heap.size, 0, none⟩) 1 1) ((putN wr b3 4 emp low high (.slice (some ⟨wr.heap.size, 0, none⟩) 1 1)).alloc (.cells (nodeC op f mn mx (.slice ka kn kc)) 41)) := by
  have hl := h.node.lt
  have hP : AtG (putN wr b3 4 emp low high (.slice (some ⟨wr.heap.size, 0, none⟩) 1 1)) b3 41 (nodeC 4 emp low high (.slice (some ⟨wr.heap.size, 0, none⟩) 1 1)) := putN_at h.node 4 emp low high _
  have hN2 : AtG ((putN wr b3 4 emp low high (.slice (some ⟨wr.heap.size, 0, none⟩) 1 1)).alloc (.cells (nodeC op f mn mx (.slice ka kn kc)) 41)) wr.heap.size 41 (nodeC op f mn mx (.slice ka kn kc)) := by
    have := AtG.new (putN wr b3 4 emp low high (.slice (some ⟨wr.heap.size, 0, none⟩) 1 1)) 41 (nodeC op f mn mx (.slice ka kn kc))
    rw [putN_size] at this; exact this
  refine ⟨hP.alloc _, ?_, (putN_far h.cell (by omega) _ _ _ _ _).alloc _, (h.only.pN _ (.inr (by omega)) _ _ _ _ _).al _⟩
  have hsz : ((putN wr b3 4 emp low high (.slice (some ⟨wr.heap.size, 0, none⟩) 1 1)).alloc (.cells (nodeC op f mn mx (.slice ka kn kc)) 41)).heap.size = wr.heap.size + 1 := by simp [putN_size]
  have hws : w.heap.size < wr.heap.size := by have := h.cell.lt; exact this
  unfold repT
  rw [KAt]
  refine .inr ⟨by simp, by simp, wr.heap.size, 0, 1, rfl, by simp, ⟨⟨hws, by rw [hsz]; omega⟩, by omega⟩, ?_⟩
  rw [KRow]
  refine ⟨⟨.slice ka kn kc, fun i hi => ?_, ?_⟩, by rw [KRow]; trivial⟩
  · rw [Nat.zero_add]
    have hi2 : i < (nodeL (.node op f mn mx kids) (.slice ka kn kc)).length := by rw [nodeL_len]; exact hi
    rw [List.getElem?_eq_getElem hi2]
    exact hN2.cell i _ (by
      show (nodeL (.node op f mn mx kids) (.slice ka kn kc)).toArray[i]? = _
      rw [List.getElem?_toArray, List.getElem?_eq_getElem hi2])
  · refine KAt.keep (fun b hb' => ?_) (fun b hb' => ⟨⟨hb'.1.1, by rw [hsz]; have := hb'.1.2; omega⟩, hb'.2⟩) _ _ h.kids
    have h1 := putN_block wr b3 4 emp low high (.slice (some ⟨wr.heap.size, 0, none⟩) 1 1) b hb'.2 hb'.1.2
    rw [← h1]
    exact ((Below.refl (putN wr b3 4 emp low high (.slice (some ⟨wr.heap.size, 0, none⟩) 1 1)).heap.size _).alloc (Nat.le_refl _) _).block b (by rw [putN_size]; exact hb'.1.2)
end Held
end Go.Proofs.YtgjcibhhffkemaaGreatDoor
namespace Go.Proofs.YtgjcibhhffkemaaGreatDoor
open Go.RowKit Bt
structure Kids (g : Nat) (w : World) (v : Value) (ps : List (Tree × Value)) (wr : World) : Prop where
  row : wr.ownsRow (w.heap.size + 1) 41 8 v ps.length (flatN ps)
  kids : AllK (IvB (w.heap.size + 1) wr.heap.size v) wr ps
  cell : AtG wr w.heap.size 41 nodeZ
  only : Only (fun k => k = g) w wr
namespace Kids
variable {g : Nat} {w wr w2 : World} {v : Value} {ps : List (Tree × Value)}
theorem keepAll {D D' : Nat → Prop} {w w' : World} {ps : List (Tree × Value)} (hk : ∀ b, D b → w'.heap[b]? = w.heap[b]?) (hD : ∀ b, D b → D' b) (h : AllK D w ps) : AllK D' w' ps := fun p hp => KAt.keep hk hD _ _ (h p hp)
theorem next (h : Kids g w v ps wr) (hg : g < w.heap.size) (hO : Only (fun k => k = g) wr w2) : Kids g w v ps w2 :=
  ⟨own_only h.row hO (fun k hk => by have := own_base h.row k hk; show ¬ (k = g); omega), keepAll (fun b hb => hO.block b hb.1.2 (by have := hb.1.1; show ¬ (b = g); omega)) (fun b hb => ⟨⟨hb.1.1, Nat.lt_of_lt_of_le hb.1.2 hO.size⟩, hb.2⟩) h.kids,
    h.cell.only hO (by show ¬ (w.heap.size = g); omega), h.only.tr hO⟩
theorem below (h : Kids g w v ps wr) (hg : g < w.heap.size) (hO : Below wr.heap.size wr w2) : Kids g w v ps w2 := h.next hg (Only.of_below hO)
theorem start {op : Int} {f : Nat → Bool} {mn mx : Int} {kids : List Tree} {kv : Value} (hc : AtG wr w.heap.size 41 nodeZ) (ho : Only (fun k => k = g) w wr) (hK : KAt (Iv (w.heap.size + 1) wr.heap.size) wr (.node op f mn mx kids) kv) :
    Kids g w (.slice (some ⟨wr.heap.size, 0, none⟩) 1 1) [(.node op f mn mx kids, kv)] (wr.alloc (.cells (nodeC op f mn mx kv) 41)) := by
  refine ⟨own_node (AtG.new _ _ _) (by have := hc.lt; omega), ?_, hc.alloc _, ho.al _⟩
  intro p hp
  simp only [List.mem_singleton] at hp
  subst hp
  exact KAt.keep (fun b hb => ((Below.refl wr.heap.size wr).alloc (Nat.le_refl _) _).block b hb.2) (fun b hb => ⟨⟨hb.1, by have := hb.2; simp; omega⟩, fun e => by have := hb.2; have e2 : wr.heap.size = b := Option.some.inj e; omega⟩) _ _ hK
theorem more {w4 : World} {v' : Value} {op : Int} {f : Nat → Bool} {mn mx : Int} {kids : List Tree} {kv : Value} (h : Kids g w v ps wr) (hg : g < w.heap.size) (hO : Only (fun k => k = g) wr w2) (hK : KAt (Iv wr.heap.size w2.heap.size) w2 (.node op f mn mx kids) kv)
    (hown : w4.ownsRow (w.heap.size + 1) 41 8 v' (ps.length + 1) (flatN ps ++ nodeL (.node op f mn mx kids) kv)) (hgr : (w2.alloc (.cells (nodeC op f mn mx kv) 41)).grownBy w4 v.ownBlock) (hbk : v'.ownBlock = v.ownBlock ∨ v'.ownBlock = some (w2.alloc (.cells (nodeC op f mn mx kv) 41)).heap.size) :
    Kids g w v' (ps ++ [(.node op f mn mx kids, kv)]) w4 := by
  have h3 := (h.next hg hO).below hg ((Below.refl w2.heap.size w2).alloc (Nat.le_refl _) (.cells (nodeC op f mn mx kv) 41))
  have hws : w.heap.size + 1 ≤ wr.heap.size := by have := h.cell.lt; omega
  have hblk : ∀ b, b < (w2.alloc (.cells (nodeC op f mn mx kv) 41)).heap.size → v.ownBlock ≠ some b → w4.heap[b]? = (w2.alloc (.cells (nodeC op f mn mx kv) 41)).heap[b]? := fun b hb hv => hgr.block b hb (fun e => hv e.symm)
  have hne : ∀ b, b < (w2.alloc (.cells (nodeC op f mn mx kv) 41)).heap.size → v.ownBlock ≠ some b → v'.ownBlock ≠ some b := fun b hb hv e => by
    rcases hbk with h1 | h1
    · rw [h1] at e; exact hv e
    · rw [h1] at e; injection e with e; omega
  have hlt : ∀ k, v.ownBlock = some k → k < wr.heap.size := fun k hk => own_lt h.row k hk
  refine ⟨by rw [List.length_append, flatN_snoc]; exact hown, ?_, h3.cell.grown hgr (fun e => by have := own_base h.row _ e; omega), h3.only.trans (Only.of_grown (S := fun k => v.ownBlock = some k) hgr (fun k hk => hk)) (fun k hk => .inr (by have := own_base h.row k hk; omega))⟩
  intro p hp
  rcases List.mem_append.1 hp with hp | hp
  · exact KAt.keep (fun b hb => hblk b hb.1.2 hb.2) (fun b hb => ⟨⟨hb.1.1, Nat.lt_of_lt_of_le hb.1.2 hgr.size⟩, hne b hb.1.2 hb.2⟩) _ _ (h3.kids p hp)
  · simp only [List.mem_singleton] at hp
    subst hp
    have hsz : (w2.alloc (.cells (nodeC op f mn mx kv) 41)).heap.size = w2.heap.size + 1 := by simp
    have hv : ∀ b, Iv wr.heap.size w2.heap.size b → v.ownBlock ≠ some b := fun b hb e => by have := hlt b e; have := hb.1; omega
    refine KAt.keep (fun b hb => ?_) (fun b hb => ⟨⟨by have := hb.1; omega, by have := hb.2; have := hgr.size; omega⟩, hne b (by have := hb.2; omega) (hv b hb)⟩) _ _ hK
    rw [hblk b (by have := hb.2; omega) (hv b hb)]
    exact ((Below.refl w2.heap.size w2).alloc (Nat.le_refl _) _).block b hb.2
end Kids
end Go.Proofs.YtgjcibhhffkemaaGreatDoor
namespace Go.Proofs.YtgjcibhhffkemaaGreatDoor
open Go.RowKit Bt
theorem putN_below {B : Nat} {w w1 : World} (h : Below B w w1) {g : Nat} (hg : B ≤ g) (op : Int) (f : Nat → Bool) (mn mx : Int) (kv : Value) : Below B w (putN w1 g op f mn mx kv) :=
  (((((((h.setCell (p := ⟨g, 0, none⟩) hg _).setCell (p := ⟨g, 1, none⟩) hg _).setCell (p := ⟨g, 2, none⟩) hg _).setCell (p := ⟨g, 3, none⟩) hg _).setCell (p := ⟨g, 4, none⟩) hg _).setCell (p := ⟨g, 5, none⟩) hg _).setCell (p := ⟨g, 6, none⟩) hg _).setCell (p := ⟨g, 7, none⟩) hg _
def putZ (w : World) (g : Nat) : World :=
  (((((((w.setCell ⟨g, 0, none⟩ (.int .i64 0)).setCell ⟨g, 1, none⟩ (.int .u64 0)).setCell ⟨g, 2, none⟩ (.int .u64 0)).setCell ⟨g, 3, none⟩ (.int .u64 0)).setCell ⟨g, 4, none⟩ (.int .u64 0)).setCell ⟨g, 5, none⟩ (.int .i64 0)).setCell ⟨g, 6, none⟩ (.int .i64 0)).setCell ⟨g, 7, none⟩ (.slice none 0 0)
theorem putZ_eq (w : World) (g : Nat) : putZ w g = putN w g 0 emp 0 0 (.slice none 0 0) := by unfold putZ putN; rw [wd_emp, wd_emp, wd_emp, wd_emp]
theorem putZ_at {w : World} {g T : Nat} (h : AtG w g T nodeZ) : AtG (putZ w g) g T nodeZ := by
  rw [putZ_eq]
  have := putN_at h 0 emp 0 0 (.slice none 0 0)
  rw [wd_emp, wd_emp, wd_emp, wd_emp] at this
  exact this
def zeroN : Value := .agg #[.int .i64 0, .int .u64 0, .int .u64 0, .int .u64 0, .int .u64 0, .int .i64 0, .int .i64 0, .slice none 0 0]
end Go.Proofs.YtgjcibhhffkemaaGreatDoor
namespace Go.Proofs.YtgjcibhhffkemaaGreatDoor
inductive Pat where
  | one (s : Nat → Bool)
  | cat (l : List Pat)
  | alt (l : List Pat)
  | rep (mn mx : Nat) (p : Pat)
def It (R : Nat → Nat → Prop) : Nat → Nat → Nat → Prop
  | 0, j, i => i = j
  | t + 1, j, i => ∃ k, It R t j k ∧ R k i
mutual
def Mt (b : Nat → Nat) (n : Nat) : Pat → Nat → Nat → Prop
  | .one s, j, i => i = j + 1 ∧ j < n ∧ s (b j) = true
  | .cat l, j, i => MtC b n l j i
  | .alt l, j, i => MtA b n l j i
  | .rep mn mx p, j, i => ∃ t, mn ≤ t ∧ t ≤ mx ∧ It (Mt b n p) t j i
def MtC (b : Nat → Nat) (n : Nat) : List Pat → Nat → Nat → Prop
  | [], j, i => i = j
  | p :: l, j, i => ∃ k, Mt b n p j k ∧ MtC b n l k i
def MtA (b : Nat → Nat) (n : Nat) : List Pat → Nat → Nat → Prop
  | [], _, _ => False
  | p :: l, j, i => Mt b n p j i ∨ MtA b n l j i
end
def img (R : Nat → Nat → Prop) (S : Nat → Prop) : Nat → Prop := fun i => ∃ j, S j ∧ R j i
def imgN (R : Nat → Nat → Prop) (S : Nat → Prop) : Nat → (Nat → Prop)
  | 0 => S
  | t + 1 => img R (imgN R S t)
theorem imgN_iff (R : Nat → Nat → Prop) (S : Nat → Prop) (t : Nat) : ∀ i, imgN R S t i ↔ ∃ j, S j ∧ It R t j i := by
  induction t with
  | zero => intro i; exact ⟨fun h => ⟨i, h, rfl⟩, fun ⟨j, h, e⟩ => by cases e; exact h⟩
  | succ t ih =>
    intro i
    constructor
    · rintro ⟨k, h1, h2⟩
      obtain ⟨j, h3, h4⟩ := (ih k).1 h1
      exact ⟨j, h3, k, h4, h2⟩
    · rintro ⟨j, h3, k, h4, h2⟩
      exact ⟨k, (ih k).2 ⟨j, h3, h4⟩, h2⟩
theorem img_congr {R : Nat → Nat → Prop} {S T : Nat → Prop} (h : ∀ i, S i ↔ T i) (i : Nat) : img R S i ↔ img R T i :=
  ⟨fun ⟨j, h1, h2⟩ => ⟨j, (h j).1 h1, h2⟩, fun ⟨j, h1, h2⟩ => ⟨j, (h j).2 h1, h2⟩⟩
theorem imgN_stay {R : Nat → Nat → Prop} {S : Nat → Prop} {t : Nat} (h : ∀ i, img R (imgN R S t) i ↔ imgN R S t i) (d : Nat) : ∀ i, imgN R S (t + d) i ↔ imgN R S t i := by
  induction d with
  | zero => exact fun i => Iff.rfl
  | succ d ih => exact fun i => (img_congr ih i).trans (h i)
theorem rep_stop {R : Nat → Nat → Prop} {S : Nat → Prop} {t mn mx : Nat} (h : ∀ i, img R (imgN R S t) i ↔ imgN R S t i) (ht : t ≤ mx) (hm : mn ≤ mx) (i : Nat) :
    (∃ u, mn ≤ u ∧ u ≤ mx ∧ imgN R S u i) ↔ ((∃ u, mn ≤ u ∧ u < t ∧ imgN R S u i) ∨ imgN R S t i) := by
  constructor
  · rintro ⟨u, h1, h2, h3⟩
    by_cases hu : u < t
    · exact .inl ⟨u, h1, hu, h3⟩
    · obtain ⟨d, rfl⟩ := Nat.exists_eq_add_of_le (show t ≤ u by omega)
      exact .inr ((imgN_stay h d i).1 h3)
  · rintro (⟨u, h1, h2, h3⟩ | h3)
    · exact ⟨u, h1, by omega, h3⟩
    · by_cases hu : mn ≤ t
      · exact ⟨t, hu, ht, h3⟩
      · obtain ⟨d, hd⟩ := Nat.exists_eq_add_of_le (show t ≤ mn by omega)
        subst hd
        exact ⟨t + d, Nat.le_refl _, hm, (imgN_stay h d i).2 h3⟩
theorem mt_rep (b : Nat → Nat) (n mn mx : Nat) (p : Pat) (S : Nat → Prop) (i : Nat) : img (Mt b n (.rep mn mx p)) S i ↔ ∃ u, mn ≤ u ∧ u ≤ mx ∧ imgN (Mt b n p) S u i := by
  constructor
  · rintro ⟨j, h1, h2⟩
    rw [Mt] at h2
    obtain ⟨t, h3, h4, h5⟩ := h2
    exact ⟨t, h3, h4, (imgN_iff _ _ _ _).2 ⟨j, h1, h5⟩⟩
  · rintro ⟨u, h1, h2, h3⟩
    obtain ⟨j, h4, h5⟩ := (imgN_iff _ _ _ _).1 h3
    exact ⟨j, h4, by rw [Mt]; exact ⟨u, h1, h2, h5⟩⟩
theorem mt_cat_nil (b : Nat → Nat) (n : Nat) (S : Nat → Prop) (i : Nat) : img (MtC b n []) S i ↔ S i := by
  constructor
  · rintro ⟨j, h1, h2⟩
    rw [MtC] at h2
    subst h2; exact h1
  · exact fun h => ⟨i, h, by rw [MtC]⟩
theorem mt_cat_cons (b : Nat → Nat) (n : Nat) (p : Pat) (l : List Pat) (S : Nat → Prop) (i : Nat) : img (MtC b n (p :: l)) S i ↔ img (MtC b n l) (img (Mt b n p) S) i := by
  constructor
  · rintro ⟨j, h1, h2⟩
    rw [MtC] at h2
    obtain ⟨k, h3, h4⟩ := h2
    exact ⟨k, ⟨j, h1, h3⟩, h4⟩
  · rintro ⟨k, ⟨j, h1, h3⟩, h4⟩
    exact ⟨j, h1, by rw [MtC]; exact ⟨k, h3, h4⟩⟩
end Go.Proofs.YtgjcibhhffkemaaGreatDoor
namespace Go.Proofs.YtgjcibhhffkemaaGreatDoor
theorem P.det {s : ByteArray} {q : Q} {o p : Nat} {r : Re Tree} (h : P s q o p r) : ∀ r', P s q o p r' → r = r' := by
  induction h with
  | plain h => intro r' h'; cases h' with | plain => rfl | deep h1 => exact absurd h1 h | sub h1 => exact absurd h1 h
  | deep h h1 => intro r' h'; cases h' with | plain h2 => exact absurd h h2 | deep => rfl | sub h2 h3 => exact absurd h1 h3
  | sub h h1 h2 ih => intro r' h'; cases h' with | plain h3 => exact absurd h h3 | deep h3 h4 => exact absurd h4 h1 | sub h3 h4 h5 => rw [ih _ h5]
  | pieceNo h ih => intro r' h'; cases h' with | pieceNo h1 => exact ih _ h1 | pieceOk h1 h2 => cases ih _ h1
  | pieceOk h h1 ih ih1 => intro r' h'; cases h' with | pieceNo h2 => cases ih _ h2 | pieceOk h2 h3 => cases ih _ h2; exact ih1 _ h3
  | opt h h1 ih => intro r' h'; cases h' with | opt h2 h3 => exact ih _ h3 | times h2 => omega | timesNo h2 => omega | pieceEnd h2 => exact absurd h h2
  | times h h1 h2 ih => intro r' h'; cases h' with | opt h3 => omega | times h3 h4 h5 => rw [h1] at h4; cases h4; exact ih _ h5 | timesNo h3 h4 => rw [h1] at h4; cases h4 | pieceEnd h3 h4 => exact absurd h h4
  | timesNo h h1 => intro r' h'; cases h' with | opt h3 => omega | times h3 h4 h5 => rw [h1] at h4; cases h4 | timesNo h3 h4 => rw [h1] at h4; cases h4; rfl | pieceEnd h3 h4 => exact absurd h h4
  | pieceEnd h h1 => intro r' h'; cases h' with | opt h3 => exact absurd h3 h | times h3 => exact absurd h3 h1 | timesNo h3 => exact absurd h3 h1 | pieceEnd => rfl
  | partNo h ih => intro r' h'; cases h' with | partNo h1 => exact ih _ h1 | partOk h1 h2 => cases ih _ h1
  | partOk h h1 ih ih1 => intro r' h'; cases h' with | partNo h2 => cases ih _ h2 | partOk h2 h3 => cases ih _ h2; exact ih1 _ h3
  | partMore h h1 h2 ih ih1 => intro r' h'; cases h' with | partMore h3 h4 h5 => cases ih _ h4; exact ih1 _ h5 | partBad h3 h4 => cases ih _ h4 | partEnd h3 => exact absurd h h3
  | partBad h h1 ih => intro r' h'; cases h' with | partMore h3 h4 h5 => cases ih _ h4 | partBad h3 h4 => exact ih _ h4 | partEnd h3 => exact absurd h h3
  | partEnd h => intro r' h'; cases h' with | partMore h3 => exact absurd h3 h | partBad h3 => exact absurd h3 h | partEnd => rfl
  | patNo h ih => intro r' h'; cases h' with | patNo h1 => exact ih _ h1 | patOk h1 h2 => cases ih _ h1
  | patOk h h1 ih ih1 => intro r' h'; cases h' with | patNo h2 => cases ih _ h2 | patOk h2 h3 => cases ih _ h2; exact ih1 _ h3
  | patMore h h1 h2 ih ih1 => intro r' h'; cases h' with | patMore h3 h4 h5 => cases ih _ h4; exact ih1 _ h5 | patBad h3 h4 => cases ih _ h4 | patEnd h3 => exact absurd h h3
  | patBad h h1 ih => intro r' h'; cases h' with | patMore h3 h4 h5 => cases ih _ h4 | patBad h3 h4 => exact ih _ h4 | patEnd h3 => exact absurd h h3
  | patEnd h => intro r' h'; cases h' with | patMore h3 => exact absurd h3 h | patBad h3 => exact absurd h3 h | patEnd => rfl
mutual
def Pat.tree : Pat → Tree
  | .one f => .node 1 f 0 0 []
  | .cat l => catT (Pat.trees l)
  | .alt l => altT (Pat.trees l)
  | .rep mn mx p => repT (mn : Int) (mx : Int) (Pat.tree p)
def Pat.trees : List Pat → List Tree
  | [] => []
  | p :: l => Pat.tree p :: Pat.trees l
end
theorem Pat.trees_map (l : List Pat) : Pat.trees l = l.map Pat.tree := by
  induction l with
  | nil => rfl
  | cons p l ih => rw [Pat.trees, ih]; rfl
theorem Pat.ind {M : Pat → Prop} (h1 : ∀ f, M (.one f)) (h2 : ∀ l, (∀ p ∈ l, M p) → M (.cat l)) (h3 : ∀ l, (∀ p ∈ l, M p) → M (.alt l)) (h4 : ∀ mn mx p, M p → M (.rep mn mx p)) : ∀ p, M p
  | .one f => h1 f
  | .cat l => h2 l fun p hp => Pat.ind h1 h2 h3 h4 p
  | .alt l => h3 l fun p hp => Pat.ind h1 h2 h3 h4 p
  | .rep mn mx p => h4 mn mx p (Pat.ind h1 h2 h3 h4 p)
inductive Wf : Pat → Prop where
  | one (f) : Wf (.one f)
  | cat (l) (h : ∀ p ∈ l, Wf p) (hl : 2 ≤ l.length) (hm : l.length ≤ 1000) : Wf (.cat l)
  | alt (l) (h : ∀ p ∈ l, Wf p) (hl : 2 ≤ l.length) (hm : l.length ≤ 1000) : Wf (.alt l)
  | rep (mn mx p) (h : Wf p) (h1 : mn ≤ mx) (h2 : 1 ≤ mx) (h3 : mx ≤ 32) : Wf (.rep mn mx p)
def Good (t : Tree) : Prop := ∃ p, Wf p ∧ t = p.tree
theorem good_one (f : Nat → Bool) : Good (one f) := ⟨.one f, .one f, rfl⟩
theorem good_rep {t : Tree} (h : Good t) {mn mx : Int} (h0 : 0 ≤ mn) (h1 : mn ≤ mx) (h2 : 1 ≤ mx) (h3 : mx ≤ 32) : Good (repT mn mx t) := by
  obtain ⟨p, hp, rfl⟩ := h
  exact ⟨.rep mn.toNat mx.toNat p, .rep _ _ _ hp (by omega) (by omega) (by omega), by rw [Pat.tree, Int.toNat_of_nonneg h0, Int.toNat_of_nonneg (by omega)]⟩
theorem goods {l : List Tree} (h : ∀ t ∈ l, Good t) : ∃ ps : List Pat, (∀ p ∈ ps, Wf p) ∧ l = Pat.trees ps := by
  induction l with
  | nil => exact ⟨[], by simp, rfl⟩
  | cons t l ih =>
    obtain ⟨p, hp, ht⟩ := h t (by simp)
    obtain ⟨ps, hps, hl⟩ := ih fun u hu => h u (by simp [hu])
    exact ⟨p :: ps, by intro q hq; rcases List.mem_cons.1 hq with rfl | hq; exact hp; exact hps q hq, by rw [Pat.trees, ht, hl]⟩
theorem trees_len (ps : List Pat) : (Pat.trees ps).length = ps.length := by rw [Pat.trees_map]; simp
theorem good_many {l : List Tree} (h : ∀ t ∈ l, Good t) (hn : l ≠ []) (hm : l.length ≤ 1000) : Good (many 2 l) ∧ Good (many 3 l) := by
  match l, hn with
  | [t], _ => exact ⟨h t (by simp), h t (by simp)⟩
  | a :: b :: r, _ =>
    obtain ⟨ps, hps, hl⟩ := goods h
    have hlen : 2 ≤ ps.length := by rw [← trees_len, ← hl]; simp
    have hlen2 : ps.length ≤ 1000 := by rw [← trees_len, ← hl]; exact hm
    exact ⟨⟨.cat ps, .cat ps hps hlen hlen2, by rw [Pat.tree, ← hl]; rfl⟩, ⟨.alt ps, .alt ps hps hlen hlen2, by rw [Pat.tree, ← hl]; rfl⟩⟩
def Q.good : Q → Nat → Prop
  | .pieceL t, _ => Good t
  | .partL l, p => (∀ t ∈ l, Good t) ∧ l ≠ [] ∧ l.length ≤ p
  | .patL l, p => (∀ t ∈ l, Good t) ∧ l ≠ [] ∧ l.length ≤ p
  | _, _ => True
theorem re_good {r : Re (Nat → Bool)} {t : Tree} {q : Nat} (h : r.map one = .ok t q) : Good t := by
  cases r with
  | ok f q' => injection h with h; subst h; exact good_one _
  | no c x => cases h
theorem atomF_good {s : ByteArray} {p : Nat} {t : Tree} {q : Nat} (h : atomF s p = .ok t q) : Good t := by
  unfold atomF at h
  split at h
  · cases h
  split at h
  · exact re_good h
  split at h
  · injection h with h; subst h; exact good_one _
  split at h
  · split at h
    · injection h with h; subst h; exact good_one _
    · cases he : escF s (p + 1) with
      | ok a b => rw [he] at h; injection h with h; subst h; exact good_one _
      | no c x => rw [he] at h; cases h
  split at h
  · cases h
  split at h
  · cases h
  · injection h with h; subst h; exact good_one _
theorem P.good {s : ByteArray} (hm : s.size ≤ 1000) {q : Q} {o p : Nat} {r : Re Tree} (h : P s q o p r) : p ≤ s.size → q.good p → ∀ t q', r = .ok t q' → Good t := by
  induction h with
  | plain h => intro _ _ t q' e; exact atomF_good e
  | deep => intro _ _ t q' e; cases e
  | @sub o p r h h1 h2 ih =>
    intro hp _ t q' e
    cases r with
    | no c x => cases e
    | ok t2 q2 =>
      have := ih (ch_ge (by omega)) trivial t2 q2 rfl
      rw [closeF] at e
      split at e
      · injection e with e; subst e; exact this
      · cases e
  | pieceNo h ih => intro _ _ t q' e; cases e
  | @pieceOk o p t q r h h1 ih ih1 => intro hp _ t' q' e; exact ih1 (P.in h hp).2 (ih hp trivial t q rfl) t' q' e
  | @opt o p t r h h1 ih => intro hp hg t' q' e; exact ih (ch_ge (by omega)) (good_rep hg (by omega) (by omega) (by omega) (by omega)) t' q' e
  | @times o p t m n q r h h1 h2 ih =>
    intro hp hg t' q' e
    obtain ⟨h3, h4⟩ := timesF_in s (p + 1) (ch_ge (by omega))
    obtain ⟨a1, a2, a3, a4⟩ := h4 m n q h1
    rw [h1] at h3
    exact ih h3.2 (good_rep hg a1 a4 a2 a3) t' q' e
  | timesNo => intro _ _ t q' e; cases e
  | pieceEnd => intro _ hg t q' e; injection e with e; subst e; exact hg
  | partNo => intro _ _ t q' e; cases e
  | @partOk o p t q r h h1 ih ih1 =>
    intro hp _ t' q' e
    have hin := P.in h hp
    have hin1 := hin.1
    simp [Q.far] at hin1
    exact ih1 hin.2 ⟨by intro u hu; rw [show u = t from by simpa using hu]; exact ih hp trivial t q rfl, by simp, by simp; omega⟩ t' q' e
  | @partMore o p l t q r h h1 h2 ih ih1 =>
    intro hp hg t' q' e
    have hin := P.in h1 hp
    have hin1 := hin.1
    simp [Q.far] at hin1
    refine ih1 hin.2 ⟨fun u hu => ?_, by simp, by have := hg.2.2; simp; omega⟩ t' q' e
    rcases List.mem_append.1 hu with hu | hu
    · exact hg.1 u hu
    · rw [show u = t from by simpa using hu]; exact ih hp trivial t q rfl
  | partBad => intro _ _ t q' e; cases e
  | partEnd => intro hp hg t q' e; injection e with e; subst e; exact (good_many hg.1 hg.2.1 (by have := hg.2.2; omega)).1
  | patNo => intro _ _ t q' e; cases e
  | @patOk o p t q r h h1 ih ih1 =>
    intro hp _ t' q' e
    have hin := P.in h hp
    have hin1 := hin.1
    simp [Q.far] at hin1
    exact ih1 hin.2 ⟨by intro u hu; rw [show u = t from by simpa using hu]; exact ih hp trivial t q rfl, by simp, by simp; omega⟩ t' q' e
  | @patMore o p l t q r h h1 h2 ih ih1 =>
    intro hp hg t' q' e
    have hin := P.in h1 (ch_ge (s := s) (p := p) (by omega))
    have hin1 := hin.1
    simp [Q.far] at hin1
    refine ih1 hin.2 ⟨fun u hu => ?_, by simp, by have := hg.2.2; simp; omega⟩ t' q' e
    rcases List.mem_append.1 hu with hu | hu
    · exact hg.1 u hu
    · rw [show u = t from by simpa using hu]; exact ih (ch_ge (s := s) (p := p) (by omega)) trivial t q rfl
  | patBad => intro _ _ t q' e; cases e
  | patEnd => intro hp hg t q' e; injection e with e; subst e; exact (good_many hg.1 hg.2.1 (by have := hg.2.2; omega)).2
end Go.Proofs.YtgjcibhhffkemaaGreatDoor
namespace Go.Proofs.YtgjcibhhffkemaaGreatDoor
theorem mt_alt_cons (b : Nat → Nat) (n : Nat) (p : Pat) (l : List Pat) (S : Nat → Prop) (i : Nat) : img (MtA b n (p :: l)) S i ↔ img (Mt b n p) S i ∨ img (MtA b n l) S i := by
  constructor
  · rintro ⟨j, h1, h2⟩
    rw [MtA] at h2
    exact h2.imp (fun h => ⟨j, h1, h⟩) (fun h => ⟨j, h1, h⟩)
  · rintro (⟨j, h1, h2⟩ | ⟨j, h1, h2⟩)
    · exact ⟨j, h1, by rw [MtA]; exact .inl h2⟩
    · exact ⟨j, h1, by rw [MtA]; exact .inr h2⟩
mutual
def leastP : Pat → Nat
  | .one _ => 1
  | .cat l => min (leastC l) 1000
  | .alt l => min (leastA l) 1000
  | .rep mn _ p => min (mn * leastP p) 1000
def leastC : List Pat → Nat
  | [] => 0
  | p :: l => leastP p + leastC l
def leastA : List Pat → Nat
  | [] => 1000
  | p :: l => min (leastP p) (leastA l)
end
mutual
def mostP : Pat → Nat
  | .one _ => 1
  | .cat l => min (mostC l) 1000
  | .alt l => min (mostA l) 1000
  | .rep _ mx p => min (mx * mostP p) 1000
def mostC : List Pat → Nat
  | [] => 0
  | p :: l => mostP p + mostC l
def mostA : List Pat → Nat
  | [] => 0
  | p :: l => max (mostP p) (mostA l)
end
mutual
/-- all bytes of all sets -/
def anyP : Pat → Nat → Bool
  | .one s => s
  | .cat l => anyL l
  | .alt l => anyL l
  | .rep _ _ p => anyP p
def anyL : List Pat → Nat → Bool
  | [] => fun _ => false
  | p :: l => fun c => anyP p c || anyL l c
end
theorem it_len {R : Nat → Nat → Prop} {lo hi : Nat} (h : ∀ j i, R j i → j ≤ i ∧ lo ≤ i - j ∧ min (i - j) 1000 ≤ hi) (t : Nat) : ∀ j i, It R t j i → j ≤ i ∧ t * lo ≤ i - j ∧ min (i - j) 1000 ≤ t * hi := by
  induction t with
  | zero => intro j i e; cases e; simp
  | succ t ih =>
    rintro j i ⟨k, h1, h2⟩
    have a := ih j k h1
    have c := h k i h2
    rw [Nat.succ_mul, Nat.succ_mul]
    omega
theorem mt_len (b : Nat → Nat) (n : Nat) (p : Pat) : ∀ j i, Mt b n p j i → j ≤ i ∧ leastP p ≤ i - j ∧ min (i - j) 1000 ≤ mostP p := by
  refine Pat.rec (motive_1 := fun p => ∀ j i, Mt b n p j i → j ≤ i ∧ leastP p ≤ i - j ∧ min (i - j) 1000 ≤ mostP p)
    (motive_2 := fun l => (∀ j i, MtC b n l j i → j ≤ i ∧ leastC l ≤ i - j ∧ min (i - j) 1000 ≤ mostC l) ∧ (∀ j i, MtA b n l j i → j ≤ i ∧ leastA l ≤ i - j ∧ min (i - j) 1000 ≤ mostA l)) ?_ ?_ ?_ ?_ ?_ ?_ p
  · intro s j i h
    rw [Mt] at h
    obtain ⟨rfl, _, _⟩ := h
    rw [leastP, mostP]; omega
  · intro l ih j i h
    rw [Mt] at h
    have := ih.1 j i h
    rw [leastP, mostP]; omega
  · intro l ih j i h
    rw [Mt] at h
    have := ih.2 j i h
    rw [leastP, mostP]; omega
  · intro mn mx p ih j i h
    rw [Mt] at h
    obtain ⟨t, h1, h2, h3⟩ := h
    have h4 := it_len ih t j i h3
    rw [leastP, mostP]
    have h5 := Nat.mul_le_mul_right (leastP p) h1
    have h6 := Nat.mul_le_mul_right (mostP p) h2
    omega
  · refine ⟨fun j i h => ?_, fun j i h => ?_⟩
    · rw [MtC] at h; subst h; rw [leastC, mostC]; omega
    · rw [MtA] at h; exact h.elim
  · intro p l ih ih2
    refine ⟨fun j i h => ?_, fun j i h => ?_⟩
    · rw [MtC] at h
      obtain ⟨k, h1, h2⟩ := h
      have a := ih j k h1
      have c := ih2.1 k i h2
      rw [leastC, mostC]; omega
    · rw [MtA] at h
      rw [leastA, mostA]
      rcases h with h | h
      · have := ih j i h; omega
      · have := ih2.2 j i h; omega
theorem it_any {R : Nat → Nat → Prop} {P : Nat → Prop} (hR : ∀ j i, R j i → j ≤ i) (h : ∀ j i, R j i → ∀ c, j ≤ c → c < i → P c) (t : Nat) : ∀ j i, It R t j i → j ≤ i ∧ ∀ c, j ≤ c → c < i → P c := by
  induction t with
  | zero => intro j i e; cases e; exact ⟨Nat.le_refl _, fun c h1 h2 => by omega⟩
  | succ t ih =>
    rintro j i ⟨k, h1, h2⟩
    have a := ih j k h1
    have d := hR k i h2
    refine ⟨by omega, fun c h3 h4 => ?_⟩
    by_cases hc : c < k
    · exact a.2 c h3 hc
    · exact h k i h2 c (by omega) h4
theorem mt_any (b : Nat → Nat) (n : Nat) (p : Pat) : ∀ j i, Mt b n p j i → ∀ c, j ≤ c → c < i → anyP p (b c) = true := by
  refine Pat.rec (motive_1 := fun p => ∀ j i, Mt b n p j i → ∀ c, j ≤ c → c < i → anyP p (b c) = true)
    (motive_2 := fun l => (∀ j i, MtC b n l j i → ∀ c, j ≤ c → c < i → anyL l (b c) = true) ∧ (∀ j i, MtA b n l j i → ∀ c, j ≤ c → c < i → anyL l (b c) = true)) ?_ ?_ ?_ ?_ ?_ ?_ p
  · intro s j i h c h1 h2
    rw [Mt] at h
    obtain ⟨rfl, _, h3⟩ := h
    obtain rfl : c = j := by omega
    rw [anyP]; exact h3
  · intro l ih j i h c h1 h2
    rw [Mt] at h
    rw [anyP]; exact ih.1 j i h c h1 h2
  · intro l ih j i h c h1 h2
    rw [Mt] at h
    rw [anyP]; exact ih.2 j i h c h1 h2
  · intro mn mx p ih j i h c h1 h2
    rw [Mt] at h
    obtain ⟨t, _, _, h3⟩ := h
    rw [anyP]
    exact (it_any (fun j i h => (mt_len b n p j i h).1) ih t j i h3).2 c h1 h2
  · refine ⟨fun j i h c h1 h2 => ?_, fun j i h => ?_⟩
    · rw [MtC] at h; omega
    · rw [MtA] at h; exact h.elim
  · intro p l ih ih2
    refine ⟨fun j i h c h1 h2 => ?_, fun j i h c h1 h2 => ?_⟩
    · rw [MtC] at h
      obtain ⟨k, h3, h4⟩ := h
      rw [anyL]; dsimp only
      by_cases hc : c < k
      · rw [ih j k h3 c h1 hc]; rfl
      · rw [ih2.1 k i h4 c (by omega) h2]; simp
    · rw [MtA] at h
      rw [anyL]; dsimp only
      rcases h with h | h
      · rw [ih j i h c h1 h2]; rfl
      · rw [ih2.2 j i h c h1 h2]; simp
end Go.Proofs.YtgjcibhhffkemaaGreatDoor
namespace Go.Proofs.YtgjcibhhffkemaaGreatDoor
open Go.RowKit Bt
def NAt (w : World) (t : Tree) (kv : Value) : Prop := KAt (fun _ => True) w t kv
mutual
theorem KAt.lt {D : Nat → Prop} {w : World} : ∀ (t : Tree) (kv : Value), KAt D w t kv → KAt (fun b => D b ∧ b < w.heap.size) w t kv
  | .node op f mn mx kids, kv, h => by
    rw [KAt] at h ⊢
    rcases h with h | ⟨h1, hl, b, off, cap, h2, h3, h4, h5⟩
    · exact .inl h
    · have hb : b < w.heap.size := by
        match kids, h1 with
        | t :: l, _ =>
          rw [KRow] at h5
          obtain ⟨⟨kv', h6, _⟩, _⟩ := h5
          have h7 := h6 0 (by omega)
          rw [List.getElem?_eq_getElem (by rw [nodeL_len]; omega)] at h7
          exact World.block_lt_of_cell? w _ h7
      exact .inr ⟨h1, hl, b, off, cap, h2, h3, ⟨h4, hb⟩, KRow.lt kids b off h5⟩
theorem KRow.lt {D : Nat → Prop} {w : World} : ∀ (l : List Tree) (b off : Nat), KRow D w l b off → KRow (fun b => D b ∧ b < w.heap.size) w l b off
  | [], b, off, h => by rw [KRow]; trivial
  | t :: l, b, off, h => by
    rw [KRow] at h ⊢
    obtain ⟨⟨kv, h1, h2⟩, h3⟩ := h
    exact ⟨⟨kv, h1, KAt.lt t kv h2⟩, KRow.lt l b (off + 8) h3⟩
end
theorem NAt.below {w w' : World} {t : Tree} {kv : Value} (h : NAt w t kv) (hb : Below w.heap.size w w') : NAt w' t kv :=
  KAt.keep (fun b hb' => hb.block b hb'.2) (fun _ _ => trivial) t kv (KAt.lt t kv h)
theorem NAt.of {D : Nat → Prop} {w : World} {t : Tree} {kv : Value} (h : KAt D w t kv) : NAt w t kv := KAt.mono h fun _ _ => trivial
theorem NAt.alloc {w : World} {t : Tree} {kv : Value} (h : NAt w t kv) (o : Obj) : NAt (w.alloc o) t kv := h.below ((Below.refl _ _).alloc (Nat.le_refl _) o)
structure Cell8 (w : World) (b o : Nat) (op : Int) (f : Nat → Bool) (mn mx : Int) (kv : Value) : Prop where
  c0 : w.cell? ⟨b, o, none⟩ = some (.int .i64 op)
  c1 : w.cell? ⟨b, o + 1, none⟩ = some (.int .u64 ((wd f 0 : Nat) : Int))
  c2 : w.cell? ⟨b, o + 2, none⟩ = some (.int .u64 ((wd f 1 : Nat) : Int))
  c3 : w.cell? ⟨b, o + 3, none⟩ = some (.int .u64 ((wd f 2 : Nat) : Int))
  c4 : w.cell? ⟨b, o + 4, none⟩ = some (.int .u64 ((wd f 3 : Nat) : Int))
  c5 : w.cell? ⟨b, o + 5, none⟩ = some (.int .i64 mn)
  c6 : w.cell? ⟨b, o + 6, none⟩ = some (.int .i64 mx)
  c7 : w.cell? ⟨b, o + 7, none⟩ = some kv
theorem kid_at {w : World} {op : Int} {f : Nat → Bool} {mn mx : Int} {kids : List Tree} {kv : Value} (h : NAt w (.node op f mn mx kids) kv) {j : Nat} {t : Tree} (hj : kids[j]? = some t) :
    ∃ b off cap, kv = .slice (some ⟨b, off, none⟩) kids.length cap ∧ kids.length ≤ cap ∧ ∃ op' f' mn' mx' kids' ka kc, t = .node op' f' mn' mx' kids' ∧ Cell8 w b (off + j * 8) op' f' mn' mx' (.slice ka kids'.length kc) ∧ NAt w t (.slice ka kids'.length kc) := by
  unfold NAt at h
  rw [KAt] at h
  rcases h with ⟨h, _⟩ | ⟨h1, hl, b, off, cap, h2, h3, h4, h5⟩
  · rw [h] at hj; simp at hj
  obtain ⟨kv', h6, h7⟩ := KRow.get _ _ _ _ _ h5 hj
  obtain ⟨op', f', mn', mx', kids'⟩ := t
  obtain ⟨ka, kc, rfl⟩ := KAt.slice h7
  refine ⟨b, off, cap, h2, h3, op', f', mn', mx', kids', ka, kc, rfl, ?_, h7⟩
  have hm : 8 * j = j * 8 := Nat.mul_comm _ _
  rw [hm] at h6
  exact ⟨h6 0 (by omega), h6 1 (by omega), h6 2 (by omega), h6 3 (by omega), h6 4 (by omega), h6 5 (by omega), h6 6 (by omega), h6 7 (by omega)⟩
theorem trees_get {l : List Pat} {k : Nat} (h : k < l.length) : (Pat.trees l)[k]? = some (l[k].tree) := by rw [Pat.trees_map, List.getElem?_map, List.getElem?_eq_getElem h]; rfl
theorem leastC_snoc (l : List Pat) (k : Nat) (h : k < l.length) : leastC (l.take (k + 1)) = leastC (l.take k) + leastP l[k] := by
  have key : ∀ (a b : List Pat), leastC (a ++ b) = leastC a + leastC b := fun a b => by
    induction a with
    | nil => simp [leastC]
    | cons p a ih => rw [List.cons_append, leastC, leastC, ih]; omega
  rw [List.take_succ_eq_append_getElem h, key, leastC, leastC]; omega
theorem mostC_snoc (l : List Pat) (k : Nat) (h : k < l.length) : mostC (l.take (k + 1)) = mostC (l.take k) + mostP l[k] := by
  have key : ∀ (a b : List Pat), mostC (a ++ b) = mostC a + mostC b := fun a b => by
    induction a with
    | nil => simp [mostC]
    | cons p a ih => rw [List.cons_append, mostC, mostC, ih]; omega
  rw [List.take_succ_eq_append_getElem h, key, mostC, mostC]; omega
theorem leastP_le (p : Pat) : leastP p ≤ 1000 := by cases p <;> rw [leastP] <;> omega
theorem mostP_le (p : Pat) : mostP p ≤ 1000 := by cases p <;> rw [mostP] <;> omega
theorem leastC_le (l : List Pat) : leastC l ≤ l.length * 1000 := by
  induction l with
  | nil => simp [leastC]
  | cons p l ih => rw [leastC, List.length_cons]; have := leastP_le p; omega
theorem mostC_le (l : List Pat) : mostC l ≤ l.length * 1000 := by
  induction l with
  | nil => simp [mostC]
  | cons p l ih => rw [mostC, List.length_cons]; have := mostP_le p; omega
theorem leastA_le (l : List Pat) : leastA l ≤ 1000 := by
  induction l with
  | nil => simp [leastA]
  | cons p l ih => rw [leastA]; omega
theorem mostA_le (l : List Pat) : mostA l ≤ 1000 := by
  induction l with
  | nil => simp [mostA]
  | cons p l ih => rw [mostA]; have := mostP_le p; omega
theorem leastA_snoc (l : List Pat) (k : Nat) (h : k < l.length) : leastA (l.take (k + 1)) = min (leastA (l.take k)) (leastP l[k]) := by
  have key : ∀ (a b : List Pat), leastA (a ++ b) = min (leastA a) (leastA b) := fun a b => by
    induction a with
    | nil => have := leastA_le b; simp [leastA]; omega
    | cons p a ih => rw [List.cons_append, leastA, leastA, ih]; omega
  rw [List.take_succ_eq_append_getElem h, key, leastA, leastA]; have := leastP_le l[k]; omega
theorem mostA_snoc (l : List Pat) (k : Nat) (h : k < l.length) : mostA (l.take (k + 1)) = max (mostA (l.take k)) (mostP l[k]) := by
  have key : ∀ (a b : List Pat), mostA (a ++ b) = max (mostA a) (mostA b) := fun a b => by
    induction a with
    | nil => simp [mostA]
    | cons p a ih => rw [List.cons_append, mostA, mostA, ih]; omega
  rw [List.take_succ_eq_append_getElem h, key, mostA, mostA]; omega
end Go.Proofs.YtgjcibhhffkemaaGreatDoor
namespace Go.Proofs.YtgjcibhhffkemaaGreatDoor
open Go.RowKit Bt
theorem Cell8.below {w w' : World} {b o : Nat} {op : Int} {f : Nat → Bool} {mn mx : Int} {kv : Value} (h : Cell8 w b o op f mn mx kv) (hb : Below w.heap.size w w') : Cell8 w' b o op f mn mx kv := by
  have hl : b < w.heap.size := World.block_lt_of_cell? w _ h.c0
  have e : ∀ i, w'.cell? ⟨b, i, none⟩ = w.cell? ⟨b, i, none⟩ := fun i => hb.cell (p := ⟨b, i, none⟩) hl
  exact ⟨(e _).trans h.c0, (e _).trans h.c1, (e _).trans h.c2, (e _).trans h.c3, (e _).trans h.c4, (e _).trans h.c5, (e _).trans h.c6, (e _).trans h.c7⟩
theorem anyL_snoc (l : List Pat) (k : Nat) (h : k < l.length) (x : Nat) : anyL (l.take (k + 1)) x = (anyL (l.take k) x || anyP l[k] x) := by
  have key : ∀ (a b : List Pat), anyL (a ++ b) x = (anyL a x || anyL b x) := fun a b => by
    induction a with
    | nil => simp [anyL]
    | cons p a ih => rw [List.cons_append, anyL, anyL]; show (anyP p x || anyL (a ++ b) x) = ((anyP p x || anyL a x) || anyL b x); rw [ih, Bool.or_assoc]
  rw [List.take_succ_eq_append_getElem h, key]; simp [anyL]
def pAnyC (p : Pat) : Prop := ∀ (w : World) (a : Option Addr) (n c : Nat), NAt w p.tree (.slice a n c) → Calls Tryz.prog 19 #[nodeV p.tree (.slice a n c)] w fun e w' => e = .returned (setOf (anyP p)) ∧ Below w.heap.size w w'
set_option maxRecDepth 100000 in
set_option maxHeartbeats 1600000 in
theorem pAny_node (op : Int) (f : Nat → Bool) (mn mx : Int) (ps : List Pat) (hl : ps.length ≤ 1000) (ih : ∀ p ∈ ps, pAnyC p) (w : World) (a : Option Addr) (c : Nat) (h : NAt w (.node op f mn mx (Pat.trees ps)) (.slice a ps.length c)) :
    Calls Tryz.prog 19 #[.agg #[.int .i64 op, .int .u64 ((wd f 0 : Nat) : Int), .int .u64 ((wd f 1 : Nat) : Int), .int .u64 ((wd f 2 : Nat) : Int), .int .u64 ((wd f 3 : Nat) : Int), .int .i64 mn, .int .i64 mx, .slice a ps.length c]] w fun e w' => e = .returned (setOf fun x => f x || anyL ps x) ∧ Below w.heap.size w w' := by
  obtain ⟨w0, hw0⟩ : ∃ w0 : World, w0 = ((w.alloc (.cells (nodeC op f mn mx (.slice a ps.length c)) 41)).alloc (.cells (setC 0 0 0 0) 38)).alloc (.cells (cellsOf f) 38) := ⟨_, rfl⟩
  have H := Lib.hid h
  have HA : Hid (AtG w0 w.heap.size 41 (nodeC op f mn mx (.slice a ps.length c))) := Lib.hid (by rw [hw0]; exact ((AtG.new _ _ _).alloc _).alloc _)
  have HR : Hid (AtG w0 (w.heap.size + 1) 38 (setC 0 0 0 0)) := Lib.hid (by
    rw [hw0]
    have := (AtG.new (w.alloc (.cells (nodeC op f mn mx (.slice a ps.length c)) 41)) 38 (setC 0 0 0 0)).alloc (.cells (cellsOf f) 38)
    simpa using this)
  have HS : Hid (AtG w0 (w.heap.size + 1 + 1) 38 (cellsOf fun x => f x || anyL (ps.take 0) x)) := Lib.hid (by
    rw [hw0, show (cellsOf fun x => f x || anyL (ps.take 0) x) = cellsOf f from cellsOf_ext fun x _ => by simp [anyL]]
    have := AtG.new ((w.alloc (.cells (nodeC op f mn mx (.slice a ps.length c)) 41)).alloc (.cells (setC 0 0 0 0) 38)) 38 (cellsOf f)
    simpa using this)
  have HB0 : Hid (Below w.heap.size w w0) := Lib.hid (by rw [hw0]; go_grown)
  have hlI : (ps.length : Int) ≤ 1000 := by omega
  have hw0' : ((w.alloc (.cells #[.int .i64 op, .int .u64 ((wd f 0 : Nat) : Int), .int .u64 ((wd f 1 : Nat) : Int), .int .u64 ((wd f 2 : Nat) : Int), .int .u64 ((wd f 3 : Nat) : Int), .int .i64 mn, .int .i64 mx, .slice a ps.length c] 41)).alloc (.cells (setC 0 0 0 0) 38)).alloc (.cells #[.int .u64 ((wd f 0 : Nat) : Int), .int .u64 ((wd f 1 : Nat) : Int), .int .u64 ((wd f 2 : Nat) : Int), .int .u64 ((wd f 3 : Nat) : Int)] 38) = w0 := hw0.symm
  have m0 : w0.cell? ⟨w.heap.size, 0, none⟩ = some (.int .i64 op) := HA.out.cell 0 _ rfl
  have m1 : w0.cell? ⟨w.heap.size, 1, none⟩ = some (.int .u64 ((wd f 0 : Nat) : Int)) := HA.out.cell 1 _ rfl
  have m2 : w0.cell? ⟨w.heap.size, 2, none⟩ = some (.int .u64 ((wd f 1 : Nat) : Int)) := HA.out.cell 2 _ rfl
  have m3 : w0.cell? ⟨w.heap.size, 3, none⟩ = some (.int .u64 ((wd f 2 : Nat) : Int)) := HA.out.cell 3 _ rfl
  have m4 : w0.cell? ⟨w.heap.size, 4, none⟩ = some (.int .u64 ((wd f 3 : Nat) : Int)) := HA.out.cell 4 _ rfl
  have m5 : w0.cell? ⟨w.heap.size, 5, none⟩ = some (.int .i64 mn) := HA.out.cell 5 _ rfl
  have m6 : w0.cell? ⟨w.heap.size, 6, none⟩ = some (.int .i64 mx) := HA.out.cell 6 _ rfl
  have m7 : w0.cell? ⟨w.heap.size, 7, none⟩ = some (.slice a ps.length c) := HA.out.cell 7 _ rfl
  clear h hw0
  unfold setOf
  go_enter Tryz.func19, Tryz.ntmps19
  go_wp2_with fail
  clear hw0' m0 m1 m2 m3 m4 m5 m6 m7
  go_loopw [11] (fun i wr => ∃ k : Nat, k ≤ ps.length ∧ i = .int .i64 k ∧ AtG wr w.heap.size 41 (nodeC op f mn mx (.slice a ps.length c)) ∧ AtG wr (w.heap.size + 1) 38 (setC 0 0 0 0) ∧ AtG wr (w.heap.size + 1 + 1) 38 (cellsOf fun x => f x || anyL (ps.take k) x) ∧ Below w.heap.size w wr) (fun i _ => ps.length - (intOf i).toNat)
  case atStart => exact ⟨0, Nat.zero_le _, rfl, HA.out, HR.out, HS.out, HB0.out⟩
  case round =>
    clear HA HR HS HB0
    obtain ⟨k, hk, rfl, hat, hrs, hst, hb⟩ := hrel
    have HAT := Lib.hid hat; have HB := Lib.hid hb; have HRS := Lib.hid hrs; have HST := Lib.hid hst
    have m7 : wr.cell? ⟨w.heap.size, 7, none⟩ = some (.slice a ps.length c) := hat.cell 7 _ rfl
    clear hat hb hrs hst
    by_cases hlt : k < ps.length
    · obtain ⟨b, off, cap, heq, hcap, op', f', mn', mx', kids', ka, kc, ht, hc8, hkn⟩ := kid_at H.out (trees_get hlt)
      injection heq with e1 e2 e3
      subst e1; subst e3
      clear e2
      rw [trees_len] at hcap
      have hI := ih ps[k] (List.getElem_mem hlt)
      unfold pAnyC at hI
      rw [ht] at hI hkn
      have hI2 := fun w h => hI w ka kids'.length kc h
      unfold nodeV at hI2
      have HE : Hid ((fun x => (f x || anyL (ps.take k) x) || anyP ps[k] x) = fun x => f x || anyL (ps.take (k + 1)) x) := Lib.hid (by
        funext x; rw [anyL_snoc ps k hlt, Bool.or_assoc])
      generalize anyP ps[k] = G at *
      obtain ⟨F, hF⟩ : ∃ F : Nat → Bool, F = fun x => f x || anyL (ps.take k) x := ⟨_, rfl⟩
      have HE2 : Hid ((fun x => F x || G x) = fun x => f x || anyL (ps.take (k + 1)) x) := Lib.hid (by rw [← HE.out, hF])
      rw [← hF] at HST
      have HI := Lib.hid hI2; have HKN := Lib.hid hkn
      obtain ⟨kn, hkl⟩ : ∃ kn, kn = kids'.length := ⟨_, rfl⟩
      rw [← hkl] at HKN HI hc8
      have HC8 := Lib.hid hc8
      have hlb : b < w.heap.size := World.block_lt_of_cell? w _ hc8.c0
      have HWS := Lib.hid HB.out.size
      clear hkn hI hI2 hkl ht hF HE hc8
      obtain ⟨c0, c1, c2, c3, c4, c5, c6, c7⟩ := Cell8.below HC8.out HB.out
      go_upto_region 5 with (fail)
      have HAT1 := Lib.hid (HAT.out.alloc (.cells (nodeC op' f' mn' mx' (.slice ka kn kc)) 41)); have HRS1 := Lib.hid (HRS.out.alloc (.cells (nodeC op' f' mn' mx' (.slice ka kn kc)) 41)); have HST1 := Lib.hid (HST.out.alloc (.cells (nodeC op' f' mn' mx' (.slice ka kn kc)) 41)); have HB1 := Lib.hid (HB.out.alloc HB.out.size (.cells (nodeC op' f' mn' mx' (.slice ka kn kc)) 41)); have HC1 := Lib.hid (AtG.new wr 41 (nodeC op' f' mn' mx' (.slice ka kn kc)))
      have HNE : Hid (wr.heap.size ≠ w.heap.size + 1 + 1) := Lib.hid (by have := HST.out.lt; omega)
      clear c0 c1 c2 c3 c4 c5 c6 c7
      refine RgX.start (by kernel_rfl) [(4, fun w5 w6 => ∃ g, w6 = putS w5 (w.heap.size + 1 + 1) g)] [⟨fun w5 => AtG w5 w.heap.size 41 (nodeC op f mn mx (.slice (some ⟨b, off, none⟩) ps.length c)) ∧ AtG w5 (w.heap.size + 1) 38 (setC 0 0 0 0) ∧ Below w.heap.size w w5 ∧ AtG w5 wr.heap.size 41 (nodeC op' f' mn' mx' (.slice ka kn kc)), none⟩, ⟨fun w5 => AtG w5 (w.heap.size + 1 + 1) 38 (cellsOf F), some 4⟩] ⟨⟨fun _ _ h hb => ⟨h.1.below hb, h.2.1.below hb, h.2.2.1.trans (hb.mono h.2.2.1.size), h.2.2.2.below hb⟩, ⟨fun _ _ _ _ => (fun w5 w6 h he => by obtain ⟨g, rfl⟩ := he; exact ⟨putS_far h.1 (by omega) _, putS_far h.2.1 (by omega) _, putS_below h.2.2.1 (by omega) _, putS_far h.2.2.2 HNE.out _⟩), trivial⟩⟩, ⟨fun _ _ h hb => h.below hb, ⟨fun _ h _ _ => absurd rfl h, trivial⟩⟩, trivial⟩ (by kernel_rfl) (by kernel_rfl) ⟨⟨HAT1.out.drew, HRS1.out.drew, HB1.out.drew, HC1.out.drew⟩, HST1.out.drew, trivial⟩ ?_
      show RgX.Build _ _ _ _ _ _ 0 [_, _, _, _, _] []
      refine RgX.build_cons (m := 1) (r := RgX.eq _) (RgX.one_plain (by rfl) (by (intro ax wx hk Kx hK; have k3 := hk.base 3 _ rfl rfl; have hL := hk.fact 0 0 _ rfl rfl; (try dsimp only at hL); have hs := hk.fact 1 1 _ rfl rfl; (try dsimp only at hs); clear hk; have z0 : wx.cell? ⟨w.heap.size + 1 + 1, 0, none⟩ = some (.int .u64 ((wd (F) 0 : Nat) : Int)) := hs.cell 0 _ rfl; have z1 : wx.cell? ⟨w.heap.size + 1 + 1, 1, none⟩ = some (.int .u64 ((wd (F) 1 : Nat) : Int)) := hs.cell 1 _ rfl; have z2 : wx.cell? ⟨w.heap.size + 1 + 1, 2, none⟩ = some (.int .u64 ((wd (F) 2 : Nat) : Int)) := hs.cell 2 _ rfl; have z3 : wx.cell? ⟨w.heap.size + 1 + 1, 3, none⟩ = some (.int .u64 ((wd (F) 3 : Nat) : Int)) := hs.cell 3 _ rfl; go_simp; refine hK _ _ (fun h => by cases h) (fun _ _ => ?_) (Below.refl _ _); apply RgX.mk))) ?_ rfl RgX.keep_eq (fun _ h => by cases h)
      refine RgX.build_cons (m := 2) (r := RgX.eq _) (RgX.one_plain (by rfl) (by (intro ax wx hk Kx hK; have k5 := hk.base 5 _ rfl rfl; have hL := hk.fact 0 0 _ rfl rfl; (try dsimp only at hL); have hs := hk.fact 1 1 _ rfl rfl; (try dsimp only at hs); clear hk; have q0 : wx.cell? ⟨wr.heap.size, 0, none⟩ = some (.int .i64 op') := hL.2.2.2.cell 0 _ rfl; have q1 : wx.cell? ⟨wr.heap.size, 1, none⟩ = some (.int .u64 ((wd f' 0 : Nat) : Int)) := hL.2.2.2.cell 1 _ rfl; have q2 : wx.cell? ⟨wr.heap.size, 2, none⟩ = some (.int .u64 ((wd f' 1 : Nat) : Int)) := hL.2.2.2.cell 2 _ rfl; have q3 : wx.cell? ⟨wr.heap.size, 3, none⟩ = some (.int .u64 ((wd f' 2 : Nat) : Int)) := hL.2.2.2.cell 3 _ rfl; have q4 : wx.cell? ⟨wr.heap.size, 4, none⟩ = some (.int .u64 ((wd f' 3 : Nat) : Int)) := hL.2.2.2.cell 4 _ rfl; have q5 : wx.cell? ⟨wr.heap.size, 5, none⟩ = some (.int .i64 mn') := hL.2.2.2.cell 5 _ rfl; have q6 : wx.cell? ⟨wr.heap.size, 6, none⟩ = some (.int .i64 mx') := hL.2.2.2.cell 6 _ rfl; have q7 : wx.cell? ⟨wr.heap.size, 7, none⟩ = some (.slice ka kn kc) := hL.2.2.2.cell 7 _ rfl; go_simp; refine hK _ _ (fun h => by cases h) (fun _ _ => ?_) (Below.refl _ _); apply RgX.mk))) ?_ rfl RgX.keep_eq (fun _ h => by cases h)
      refine RgX.build_cons (m := 3) (r := RgX.eq _) (RgX.one_plain (by rfl) (by (intro ax wx hk Kx hK; obtain ⟨v16, k16, h16⟩ := hk.dep 0 1 16 _ rfl rfl rfl; (first | (replace h16 := h16 9 undef rfl rfl; first | (cases (h16 : v16 = _)) | (obtain ⟨rfl, h16⟩ := h16) | skip) | skip); have hL := hk.fact 0 0 _ rfl rfl; (try dsimp only at hL); have hs := hk.fact 1 1 _ rfl rfl; (try dsimp only at hs); clear hk; go_simp; refine (HI.out _ (NAt.below HKN.out hL.2.2.1)).mono ?_; rintro e w' ⟨rfl, hb⟩; refine hK _ _ (fun h => by cases h) (fun _ _ => ?_) hb; apply RgX.mk))) ?_ rfl RgX.keep_eq (fun _ h => by cases h)
      refine RgX.build_cons (m := 4) (r := RgX.eq _) (RgX.one_plain (by rfl) (by (intro ax wx hk Kx hK; obtain ⟨v15, k15, h15⟩ := hk.dep 0 0 15 _ rfl rfl rfl; (first | (replace h15 := h15 9 undef rfl rfl; first | (cases (h15 : v15 = _)) | (obtain ⟨rfl, h15⟩ := h15) | skip) | skip); obtain ⟨v17, k17, h17⟩ := hk.dep 0 2 17 _ rfl rfl rfl; (first | (replace h17 := h17 9 undef rfl rfl; first | (cases (h17 : v17 = _)) | (obtain ⟨rfl, h17⟩ := h17) | skip) | skip); have hL := hk.fact 0 0 _ rfl rfl; (try dsimp only at hL); have hs := hk.fact 1 1 _ rfl rfl; (try dsimp only at hs); clear hk; go_simp; refine (or_any F G _).mono ?_; rintro e w' ⟨rfl, hb⟩; refine hK _ _ (fun h => by cases h) (fun _ _ => ?_) hb; apply RgX.mk))) ?_ rfl RgX.keep_eq (fun _ h => by cases h)
      refine RgX.build_cons (m := 5) (r := (⟨fun _ _ w5 => AtG w5 (w.heap.size + 1 + 1) 38 (cellsOf fun x => F x || G x), none, none⟩ : RgX.Rl)) (RgX.one_plain (by rfl) (by (intro ax wx hk Kx hK; have k3 := hk.base 3 _ rfl rfl; obtain ⟨v18, k18, h18⟩ := hk.dep 0 3 18 _ rfl rfl rfl; (first | (replace h18 := h18 9 undef rfl rfl; first | (cases (h18 : v18 = _)) | (obtain ⟨rfl, h18⟩ := h18) | skip) | skip); have hL := hk.fact 0 0 _ rfl rfl; (try dsimp only at hL); have hs := hk.fact 1 0 _ rfl rfl; (try dsimp only at hs); clear hk; (have d0 : wx.cell? ⟨w.heap.size + 1 + 1, 0, none⟩ = some (.int .u64 ((wd (F) 0 : Nat) : Int)) := hs.cell 0 _ rfl; have d1 : wx.cell? ⟨w.heap.size + 1 + 1, 1, none⟩ = some (.int .u64 ((wd (F) 1 : Nat) : Int)) := hs.cell 1 _ rfl; have d2 : wx.cell? ⟨w.heap.size + 1 + 1, 2, none⟩ = some (.int .u64 ((wd (F) 2 : Nat) : Int)) := hs.cell 2 _ rfl; have d3 : wx.cell? ⟨w.heap.size + 1 + 1, 3, none⟩ = some (.int .u64 ((wd (F) 3 : Nat) : Int)) := hs.cell 3 _ rfl; have f0 := hs.frozen 0; have f1 := hs.frozen 1; have f2 := hs.frozen 2; have f3 := hs.frozen 3; unfold setOf at k18; go_simp; exact hK undef _ (fun _ => rfl) (fun u hu => putS_at hs _) ⟨_, rfl⟩)))) ?_ rfl (RgX.keep_r (fun _ _ _ _ h hb => h.below hb) (fun _ _ => ⟨fun h _ _ _ => absurd rfl h, trivial⟩)) (fun _ h => by cases h)
      refine RgX.build_end fun wx hj => ?_
      have hL := hj 0 _ rfl rfl
      clear hj
      refine RgX.fin_eq rfl ?_
      refine RgX.fin_eq rfl ?_
      refine RgX.fin_eq rfl ?_
      refine RgX.fin_eq rfl ?_
      refine RgX.fin_none rfl fun s4 => ?_
      refine RgX.fin_nil ?_
      simp only [List.set_cons_zero, List.set_cons_succ]
      have hs5 := s4 rfl undef rfl
      rw [HE2.out] at hs5
      have HL := Lib.hid hL; have HS5 := Lib.hid hs5
      clear s4 hL hs5
      go_wp2_with fail
      exact ⟨⟨k + 1, by omega, by go_num, HL.out.1, HL.out.2.1, HS5.out, HL.out.2.2.1⟩, by simp [intOf]; omega⟩
    · obtain rfl : k = ps.length := by omega
      rw [List.take_length] at HST
      obtain ⟨F, hF⟩ : ∃ F : Nat → Bool, F = fun x => f x || anyL ps x := ⟨_, rfl⟩
      rw [← hF] at HST
      have HF := Lib.hid hF
      clear hF
      have z0 : wr.cell? ⟨w.heap.size + 1 + 1, 0, none⟩ = some (.int .u64 ((wd (F) 0 : Nat) : Int)) := HST.out.cell 0 _ rfl
      have z1 : wr.cell? ⟨w.heap.size + 1 + 1, 1, none⟩ = some (.int .u64 ((wd (F) 1 : Nat) : Int)) := HST.out.cell 1 _ rfl
      have z2 : wr.cell? ⟨w.heap.size + 1 + 1, 2, none⟩ = some (.int .u64 ((wd (F) 2 : Nat) : Int)) := HST.out.cell 2 _ rfl
      have z3 : wr.cell? ⟨w.heap.size + 1 + 1, 3, none⟩ = some (.int .u64 ((wd (F) 3 : Nat) : Int)) := HST.out.cell 3 _ rfl
      have d0 := (HRS.out).cell 0 _ rfl; have d1 := (HRS.out).cell 1 _ rfl; have d2 := (HRS.out).cell 2 _ rfl; have d3 := (HRS.out).cell 3 _ rfl
      have f0 := (HRS.out).frozen 0; have f1 := (HRS.out).frozen 1; have f2 := (HRS.out).frozen 2; have f3 := (HRS.out).frozen 3
      go_wp2_with fail
      refine bodyPost_ret (v := setOf F) (by simp [results, Tryz.results19, go_sem, d0, d1, d2, d3]; try rfl) rfl ⟨by rw [HF.out]; rfl, ?_⟩
      exact putS_below HB.out (by omega) F
theorem pAny_any (p : Pat) : Wf p → pAnyC p := by
  refine Pat.ind (M := fun p => Wf p → pAnyC p) ?_ ?_ ?_ ?_ p
  · intro f _ w a n c h
    obtain rfl : n = 0 := by
      obtain ⟨a', c', hn⟩ := KAt.slice h
      injection hn with _ hn _
    have := pAny_node 1 f 0 0 [] (by simp) (by simp) w a c h
    rw [show (fun x => f x || anyL [] x) = anyP (.one f) from by funext x; simp [anyL, anyP]] at this
    exact this
  · intro l ih hw w a n c h
    cases hw with | cat _ h1 h2 h3 =>
    obtain rfl : n = l.length := by
      obtain ⟨a', c', hn⟩ := KAt.slice h
      injection hn with _ hn _
      rw [trees_len] at hn; exact hn
    have := pAny_node 2 emp 0 0 l h3 (fun p hp => ih p hp (h1 p hp)) w a c h
    rw [show (fun x => emp x || anyL l x) = anyP (.cat l) from by funext x; simp [emp, anyP]] at this
    exact this
  · intro l ih hw w a n c h
    cases hw with | alt _ h1 h2 h3 =>
    obtain rfl : n = l.length := by
      obtain ⟨a', c', hn⟩ := KAt.slice h
      injection hn with _ hn _
      rw [trees_len] at hn; exact hn
    have := pAny_node 3 emp 0 0 l h3 (fun p hp => ih p hp (h1 p hp)) w a c h
    rw [show (fun x => emp x || anyL l x) = anyP (.alt l) from by funext x; simp [emp, anyP]] at this
    exact this
  · intro mn mx p ih hw w a n c h
    cases hw with | rep _ _ _ h1 h2 h3 h4 =>
    obtain rfl : n = 1 := by
      obtain ⟨a', c', hn⟩ := KAt.slice h
      injection hn with _ hn _
    have := pAny_node 4 emp (mn : Int) (mx : Int) [p] (by simp) (fun q hq => by simp at hq; subst hq; exact ih h1) w a c h
    rw [show (fun x => emp x || anyL [p] x) = anyP (.rep mn mx p) from by funext x; simp [emp, anyL, anyP]] at this
    exact this
end Go.Proofs.YtgjcibhhffkemaaGreatDoor
namespace Go.Proofs.YtgjcibhhffkemaaGreatDoor
open Go.RowKit
theorem madeCells_one (z : Value) (n : Nat) : madeCells #[z] n = Array.replicate n z := by
  refine Array.ext (by simp [madeCells]) fun i h1 h2 => ?_
  simp [madeCells, Nat.mod_one]
theorem make_one {P : Program} (t e : TypeId) (z : Value) (bytes : Nat) (ht : P.underlying t = some (.slice e)) (hinfo : (P.info? e).map (fun i => (i.zero, i.size, i.bytes)) = some (some z, 1, bytes)) (hz1 : z.cells = #[z])
    (kl kc : IntKind) (n : Nat) (hb : bytes * n ≤ 281474976710656) (h63 : n ≤ 9223372036854775807) (w : World) :
    (Instr.makeSlice t (.int kl (n : Int)) (.int kc (n : Int))).run P w = .ok (.slice (some ⟨w.heap.size, 0, none⟩) n n) (w.alloc (.cells (Array.replicate n z) e)) := by
  obtain ⟨i, hi, hz, hs, hby⟩ := info_parts hinfo
  have hbb : (i.bytes : Int) * (n : Int) ≤ 281474976710656 := by
    have h : ((bytes * n : Nat) : Int) ≤ 281474976710656 := by omega
    rw [hby]; rwa [Int.natCast_mul] at h
  have h := run_make (P := P) w t e i z ht hi hz kl kc n n (by omega) (Int.le_refl _) hbb (by omega)
  rw [Int.toNat_natCast, hs, Nat.mul_one, hz1, madeCells_one] at h
  exact h
end Go.Proofs.YtgjcibhhffkemaaGreatDoor
namespace Go.Proofs.YtgjcibhhffkemaaGreatDoor
open Go.RowKit Bt
def barr (f : Nat → Bool) (n : Nat) : Array Value := (Array.range n).map fun i => .bool (f i)
theorem barr_size (f : Nat → Bool) (n : Nat) : (barr f n).size = n := by unfold barr; simp
theorem barr_get (f : Nat → Bool) (n i : Nat) (h : i < n) : (barr f n)[i]? = some (.bool (f i)) := by unfold barr; simp [h]
def updB (f : Nat → Bool) (i : Nat) (v : Bool) : Nat → Bool := fun j => if j = i then v else f j
theorem barr_set (f : Nat → Bool) (n i : Nat) (v : Bool) : (barr f n).setIfInBounds i (.bool v) = barr (updB f i v) n := by
  refine Array.ext (by simp [barr_size]) fun j h1 h2 => ?_
  have hj : j < n := by rw [barr_size] at h2; exact h2
  have e2 := barr_get (updB f i v) n j hj
  rw [Array.getElem?_eq_getElem h2] at e2
  have e1 := barr_get f n j hj
  rw [Array.getElem_setIfInBounds (by rw [barr_size]; exact hj)]
  rw [Array.getElem?_eq_getElem (by rw [barr_size]; exact hj)] at e1
  injection e1 with e1; injection e2 with e2
  rw [e2]
  unfold updB
  by_cases h : i = j
  · subst h; simp
  · rw [if_neg h, if_neg (fun e => h e.symm)]; exact e1
theorem barr_zero (n : Nat) : Array.replicate n (Value.bool false) = barr (fun _ => false) n := by
  refine Array.ext (by simp [barr_size]) fun j h1 h2 => ?_
  have hj : j < n := by rw [barr_size] at h2; exact h2
  have e2 := barr_get (fun _ => false) n j hj
  rw [Array.getElem?_eq_getElem h2] at e2
  injection e2 with e2
  rw [e2]; simp
def BRow (w : World) (v : Value) (n : Nat) (f : Nat → Bool) : Prop := ∃ b, v = .slice (some ⟨b, 0, none⟩) n n ∧ AtG w b 4 (barr f n)
theorem BRow.below {w w' : World} {v : Value} {n : Nat} {f : Nat → Bool} (h : BRow w v n f) (hb : Below w.heap.size w w') : BRow w' v n f := by
  obtain ⟨b, h1, h2⟩ := h; exact ⟨b, h1, h2.below hb⟩
theorem AtG.bool {w : World} {b n : Nat} {f : Nat → Bool} (h : AtG w b 4 (barr f n)) (i : Nat) (hi : i < n) : w.cell? ⟨b, i, none⟩ = some (.bool (f i)) := h.cell i _ (barr_get f n i hi)
theorem AtG.setB {w : World} {b n : Nat} {f : Nat → Bool} (h : AtG w b 4 (barr f n)) (i : Nat) (v : Bool) : AtG (w.setCell ⟨b, i, none⟩ (.bool v)) b 4 (barr (updB f i v) n) := by
  have := h.set i (.bool v)
  rw [← barr_set]; exact this
set_option maxRecDepth 100000 in
theorem indexB_any (b n : Nat) (f : Nat → Bool) (t : Bool) (w : World) (hn : n ≤ 1000000) (h : AtG w b 4 (barr f n)) :
    Calls Tryz.prog 74 #[.slice (some ⟨b, 0, none⟩) n n, .bool t] w fun e w' => w' = w ∧ ∃ r : Int, e = .returned (.int .i64 r) ∧ (0 ≤ r ↔ ∃ i, i < n ∧ f i = t) := by
  have H := Lib.hid h
  have hnI : (n : Int) ≤ 1000000 := by omega
  clear h
  go_enter Tryz.func74, Tryz.ntmps74
  go_wp2_with fail
  go_loopw [8] (fun i wr => ∃ k : Nat, k ≤ n ∧ i = .int .i64 k ∧ wr = w ∧ ∀ j, j < k → f j ≠ t) (fun i _ => n - (intOf i).toNat)
  case atStart => exact ⟨0, Nat.zero_le _, rfl, by first | rfl | trivial, fun j h => absurd h (Nat.not_lt_zero _)⟩
  case round =>
    obtain ⟨k, hk, rfl, hw, hno⟩ := hrel
    subst hw
    have HNO := Lib.hid hno; clear hno
    by_cases hlt : k < n
    · have hc := H.out.bool k hlt
      by_cases hq : f k = t
      · have e1 : (t == f k) = true := by rw [hq]; simp
        have HQ := Lib.hid hq; clear hq
        go_wp2_with fail
        go_returns
        exact ⟨rfl, k, rfl, ⟨fun _ => ⟨k, hlt, HQ.out⟩, fun _ => by omega⟩⟩
      · have e1 : (t == f k) = false := by rw [beq_eq_false_iff_ne]; exact fun e => hq e.symm
        have HQ := Lib.hid hq; clear hq
        go_wp2_with fail
        exact ⟨⟨k + 1, by omega, by go_num, by first | rfl | trivial, fun j hj => by
          rcases Nat.lt_succ_iff_lt_or_eq.1 hj with h1 | rfl
          · exact HNO.out j h1
          · exact HQ.out⟩, by simp [intOf]; omega⟩
    · go_wp2_with fail
      go_returns
      exact ⟨rfl, -1, rfl, ⟨(fun h => by omega), fun ⟨i, hi, hf⟩ => absurd hf (HNO.out i (by omega))⟩⟩
set_option maxRecDepth 100000 in
theorem containsB_any (b n : Nat) (f : Nat → Bool) (t : Bool) (w : World) (hn : n ≤ 1000000) (h : AtG w b 4 (barr f n)) :
    Calls Tryz.prog 52 #[.slice (some ⟨b, 0, none⟩) n n, .bool t] w fun e w' => w' = w ∧ ∃ r : Bool, e = .returned (.bool r) ∧ (r = true ↔ ∃ i, i < n ∧ f i = t) := by
  have HI := Lib.hid (indexB_any b n f t w hn h)
  clear h
  go_enter Tryz.func52, Tryz.ntmps52
  go_wp2_with fail
  refine (HI.out).mono ?_
  rintro e9 w9 ⟨rfl, r, rfl, hr⟩
  have HR := Lib.hid hr; clear hr
  go_wp2_with fail
  go_returns
  exact ⟨rfl, decide (0 ≤ r), rfl, by rw [decide_eq_true_iff]; exact HR.out⟩
set_option maxRecDepth 100000 in
theorem equalB_any (b b' n : Nat) (f g : Nat → Bool) (w : World) (hn : n ≤ 1000000) (h : AtG w b 4 (barr f n)) (h' : AtG w b' 4 (barr g n)) :
    Calls Tryz.prog 53 #[.slice (some ⟨b, 0, none⟩) n n, .slice (some ⟨b', 0, none⟩) n n] w fun e w' => Below w.heap.size w w' ∧ ∃ r : Bool, e = .returned (.bool r) ∧ (r = true ↔ ∀ i, i < n → f i = g i) := by
  have H := Lib.hid h; have H' := Lib.hid h'
  have hnI : (n : Int) ≤ 1000000 := by omega
  clear h h'
  go_enter Tryz.func53, Tryz.ntmps53
  go_wp2_with fail
  go_loopw [13] (fun i wr => ∃ k : Nat, k ≤ n ∧ i = .int .i64 k ∧ Below w.heap.size w wr ∧ ∀ j, j < k → f j = g j) (fun i _ => n - (intOf i).toNat)
  case atStart => exact ⟨0, Nat.zero_le _, rfl, Below.refl _ _, fun j h => absurd h (Nat.not_lt_zero _)⟩
  case round =>
    obtain ⟨k, hk, rfl, hb, hno⟩ := hrel
    have HNO := Lib.hid hno; have HB := Lib.hid hb; clear hno hb
    by_cases hlt : k < n
    · have HLT := Lib.hid hlt
      go_upto_region 6 with (fail)
      obtain ⟨wz, rfl⟩ : ∃ wz : World, wz = wr := ⟨_, rfl⟩
      refine Rg.wp_region_each (by kernel_rfl) (fun w' => Below w.heap.size w w') (fun w1 w2 h hb => h.trans (hb.mono h.size)) (by kernel_rfl) (by kernel_rfl) (HB.out) ?_
      show Rg.Build _ _ _ _ _ 0 [_, _, _, _, _, _, _, _, _] []
      refine Rg.build_cons (m := 1) (r := Rg.eq _) (Rg.one_plain (by rfl) (by (intro ax wx hk Kx hK; have k0 := hk.base 0 _ rfl rfl; have hj := hk.j; clear hk; have c1 := ((H.out.below hj)).bool k HLT.out; have c2 := ((H'.out.below hj)).bool k HLT.out; go_simp; refine hK _ _ ?_ (Below.refl _ _); apply Rg.mk))) ?_ rfl
      refine Rg.build_cons (m := 2) (r := Rg.eq _) (Rg.one_plain (by rfl) (by (intro ax wx hk Kx hK; have k5 := hk.base 5 _ rfl rfl; have hj := hk.j; clear hk; have c1 := ((H.out.below hj)).bool k HLT.out; have c2 := ((H'.out.below hj)).bool k HLT.out; go_simp; refine hK _ _ ?_ (Below.refl _ _); apply Rg.mk))) ?_ rfl
      refine Rg.build_cons (m := 3) (r := Rg.eq _) (Rg.one_plain (by rfl) (by (intro ax wx hk Kx hK; obtain ⟨v16, k16, h16⟩ := hk.dep 0 16 _ rfl rfl rfl; (first | (cases (h16 : v16 = _)) | (obtain ⟨rfl, h16⟩ := h16) | skip); obtain ⟨v17, k17, h17⟩ := hk.dep 1 17 _ rfl rfl rfl; (first | (cases (h17 : v17 = _)) | (obtain ⟨rfl, h17⟩ := h17) | skip); have hj := hk.j; clear hk; have c1 := ((H.out.below hj)).bool k HLT.out; have c2 := ((H'.out.below hj)).bool k HLT.out; go_simp; refine hK _ _ ?_ (Below.refl _ _); apply Rg.mk))) ?_ rfl
      refine Rg.build_cons (m := 4) (r := Rg.eq _) (Rg.one_plain (by rfl) (by (intro ax wx hk Kx hK; obtain ⟨v18, k18, h18⟩ := hk.dep 2 18 _ rfl rfl rfl; (first | (cases (h18 : v18 = _)) | (obtain ⟨rfl, h18⟩ := h18) | skip); have hj := hk.j; clear hk; have c1 := ((H.out.below hj)).bool k HLT.out; have c2 := ((H'.out.below hj)).bool k HLT.out; go_simp; refine hK _ _ ?_ (Below.refl _ _); apply Rg.mk))) ?_ rfl
      refine Rg.build_cons (m := 5) (r := Rg.eq _) (Rg.one_plain (by rfl) (by (intro ax wx hk Kx hK; have k1 := hk.base 1 _ rfl rfl; have hj := hk.j; clear hk; have c1 := ((H.out.below hj)).bool k HLT.out; have c2 := ((H'.out.below hj)).bool k HLT.out; go_simp; refine hK _ _ ?_ (Below.refl _ _); apply Rg.mk))) ?_ rfl
      refine Rg.build_cons (m := 6) (r := Rg.eq _) (Rg.one_plain (by rfl) (by (intro ax wx hk Kx hK; have k5 := hk.base 5 _ rfl rfl; have hj := hk.j; clear hk; have c1 := ((H.out.below hj)).bool k HLT.out; have c2 := ((H'.out.below hj)).bool k HLT.out; go_simp; refine hK _ _ ?_ (Below.refl _ _); apply Rg.mk))) ?_ rfl
      refine Rg.build_cons (m := 7) (r := Rg.eq _) (Rg.one_plain (by rfl) (by (intro ax wx hk Kx hK; obtain ⟨v20, k20, h20⟩ := hk.dep 4 20 _ rfl rfl rfl; (first | (cases (h20 : v20 = _)) | (obtain ⟨rfl, h20⟩ := h20) | skip); obtain ⟨v21, k21, h21⟩ := hk.dep 5 21 _ rfl rfl rfl; (first | (cases (h21 : v21 = _)) | (obtain ⟨rfl, h21⟩ := h21) | skip); have hj := hk.j; clear hk; have c1 := ((H.out.below hj)).bool k HLT.out; have c2 := ((H'.out.below hj)).bool k HLT.out; go_simp; refine hK _ _ ?_ (Below.refl _ _); apply Rg.mk))) ?_ rfl
      refine Rg.build_cons (m := 8) (r := Rg.eq _) (Rg.one_plain (by rfl) (by (intro ax wx hk Kx hK; obtain ⟨v22, k22, h22⟩ := hk.dep 6 22 _ rfl rfl rfl; (first | (cases (h22 : v22 = _)) | (obtain ⟨rfl, h22⟩ := h22) | skip); have hj := hk.j; clear hk; have c1 := ((H.out.below hj)).bool k HLT.out; have c2 := ((H'.out.below hj)).bool k HLT.out; go_simp; refine hK _ _ ?_ (Below.refl _ _); apply Rg.mk))) ?_ rfl
      refine Rg.build_cons (m := 9) (r := Rg.eq _) (Rg.one_plain (by rfl) (by (intro ax wx hk Kx hK; obtain ⟨v19, k19, h19⟩ := hk.dep 3 19 _ rfl rfl rfl; (first | (cases (h19 : v19 = _)) | (obtain ⟨rfl, h19⟩ := h19) | skip); obtain ⟨v23, k23, h23⟩ := hk.dep 7 23 _ rfl rfl rfl; (first | (cases (h23 : v23 = _)) | (obtain ⟨rfl, h23⟩ := h23) | skip); have hj := hk.j; clear hk; have c1 := ((H.out.below hj)).bool k HLT.out; have c2 := ((H'.out.below hj)).bool k HLT.out; go_simp; refine hK _ _ ?_ (Below.refl _ _); apply Rg.mk))) ?_ rfl
      refine Rg.build_end fun wx hj => ?_
      refine Rg.fin_eq rfl ?_
      refine Rg.fin_eq rfl ?_
      refine Rg.fin_eq rfl ?_
      refine Rg.fin_eq rfl ?_
      refine Rg.fin_eq rfl ?_
      refine Rg.fin_eq rfl ?_
      refine Rg.fin_eq rfl ?_
      refine Rg.fin_eq rfl ?_
      refine Rg.fin_eq rfl ?_
      refine Rg.fin_nil ?_
      simp only [List.set_cons_zero, List.set_cons_succ]
      have HJ := Lib.hid hj; clear hj
      go_wp2_with fail
      · rename_i hx
        go_returns
        exact ⟨HJ.out, false, rfl, ⟨(fun h => by cases h), fun h => by rw [h k HLT.out] at hx; simp at hx⟩⟩
      · rename_i hx
        have hq : f k = g k := by simpa using hx
        exact ⟨⟨k + 1, by omega, by go_num, HJ.out, fun j hj => by
          rcases Nat.lt_succ_iff_lt_or_eq.1 hj with h1 | rfl
          · exact HNO.out j h1
          · exact hq⟩, by simp [intOf]; omega⟩
    · go_wp2_with fail
      go_returns
      exact ⟨HB.out, true, rfl, ⟨fun _ j hj => HNO.out j (by omega), fun _ => rfl⟩⟩
end Go.Proofs.YtgjcibhhffkemaaGreatDoor
namespace Go.Proofs.YtgjcibhhffkemaaGreatDoor
open Go.RowKit Bt
def InS (n : Nat) (S : Nat → Bool) : Nat → Prop := fun j => j ≤ n ∧ S j = true
def byt (xs : List Int) : Nat → Nat := fun i => (xs.getD i 0).toNat
theorem it_le {R : Nat → Nat → Prop} {n : Nat} (h : ∀ j i, j ≤ n → R j i → i ≤ n) (t : Nat) : ∀ j i, j ≤ n → It R t j i → i ≤ n := by
  induction t with
  | zero => intro j i hj h; rw [It] at h; omega
  | succ t ih => intro j i hj h1; rw [It] at h1; obtain ⟨k, h2, h3⟩ := h1; exact h k i (ih j k hj h2) h3
theorem mt_le (b : Nat → Nat) (n : Nat) (p : Pat) : ∀ j i, j ≤ n → Mt b n p j i → i ≤ n := by
  refine Pat.ind (M := fun p => ∀ j i, j ≤ n → Mt b n p j i → i ≤ n) ?_ ?_ ?_ ?_ p
  · intro f j i hj h; rw [Mt] at h; omega
  · intro l ih j i hj h
    rw [Mt] at h
    induction l generalizing j with
    | nil => rw [MtC] at h; omega
    | cons p l ih2 =>
      rw [MtC] at h
      obtain ⟨k, h1, h2⟩ := h
      exact ih2 (fun q hq => ih q (List.mem_cons_of_mem _ hq)) k (ih p (List.mem_cons_self ..) j k hj h1) h2
  · intro l ih j i hj h
    rw [Mt] at h
    induction l with
    | nil => rw [MtA] at h; exact h.elim
    | cons p l ih2 =>
      rw [MtA] at h
      rcases h with h | h
      · exact ih p (List.mem_cons_self ..) j i hj h
      · exact ih2 (fun q hq => ih q (List.mem_cons_of_mem _ hq)) h
  · intro mn mx p ih j i hj h
    rw [Mt] at h
    obtain ⟨t, _, _, h⟩ := h
    exact it_le (fun j i hj h => ih j i hj h) t j i hj h
theorem mtC_snoc (b : Nat → Nat) (n : Nat) (l : List Pat) (k : Nat) (hk : k < l.length) (S : Nat → Prop) (i : Nat) : img (MtC b n (l.take (k + 1))) S i ↔ img (Mt b n l[k]) (img (MtC b n (l.take k)) S) i := by
  have key : ∀ (a : List Pat) (p : Pat) (S : Nat → Prop) (i : Nat), img (MtC b n (a ++ [p])) S i ↔ img (Mt b n p) (img (MtC b n a) S) i := by
    intro a p
    induction a with
    | nil =>
      intro S i
      rw [List.nil_append, mt_cat_cons]
      exact (mt_cat_nil b n _ i).trans (img_congr (fun j => (mt_cat_nil b n S j).symm) i)
    | cons q a ih =>
      intro S i
      rw [List.cons_append, mt_cat_cons, ih]
      exact img_congr (fun j => (mt_cat_cons b n q a S j).symm) i
  rw [List.take_succ_eq_append_getElem hk]
  exact key _ _ _ _
theorem mtA_snoc (b : Nat → Nat) (n : Nat) (l : List Pat) (k : Nat) (hk : k < l.length) (S : Nat → Prop) (i : Nat) : img (MtA b n (l.take (k + 1))) S i ↔ img (MtA b n (l.take k)) S i ∨ img (Mt b n l[k]) S i := by
  have key : ∀ (a : List Pat) (p : Pat), img (MtA b n (a ++ [p])) S i ↔ img (MtA b n a) S i ∨ img (Mt b n p) S i := by
    intro a p
    induction a with
    | nil =>
      rw [List.nil_append, mt_alt_cons]
      have hn : ¬ img (MtA b n []) S i := fun ⟨j, _, h⟩ => by rw [MtA] at h; exact h
      exact ⟨fun h => h.elim .inr (fun h => absurd h hn), fun h => h.elim (fun h => absurd h hn) .inl⟩
    | cons q a ih =>
      rw [List.cons_append, mt_alt_cons, ih, mt_alt_cons, or_assoc]
  rw [List.take_succ_eq_append_getElem hk]
  exact key _ _
def EndsC (p : Pat) : Prop := ∀ (w : World) (a : Option Addr) (m c : Nat) (wv : Value) (xs : List Int) (bf : Nat) (S : Nat → Bool), NAt w p.tree (.slice a m c) → RdB w wv xs → xs.length ≤ 1000 → AtG w bf 4 (barr S (xs.length + 1)) →
  Calls Tryz.prog 34 #[nodeV p.tree (.slice a m c), wv, .slice (some ⟨bf, 0, none⟩) (xs.length + 1) (xs.length + 1)] w fun e w' => Below w.heap.size w w' ∧ ∃ b g, e = .returned (.slice (some ⟨b, 0, none⟩) (xs.length + 1) (xs.length + 1)) ∧ AtG w' b 4 (barr g (xs.length + 1)) ∧ (b = bf ∨ w.heap.size ≤ b) ∧ ∀ i, i ≤ xs.length → (g i = true ↔ img (Mt (byt xs) xs.length p) (InS xs.length S) i)
theorem rdB_slice {w : World} {v : Value} {xs : List Int} (h : RdB w v xs) : ∃ A c, v = .slice A xs.length c := by
  rcases h with ⟨rfl, a, c, rfl⟩ | ⟨b, off, cap, rfl, _⟩
  · exact ⟨a, c, rfl⟩
  · exact ⟨_, cap, rfl⟩
theorem rdB_at {w : World} {A : Option Addr} {n c : Nat} {xs : List Int} (h : RdB w (.slice A n c) xs) (j : Nat) (hj : j < xs.length) : ∃ b off, A = some ⟨b, off, none⟩ ∧ xs.length ≤ c ∧ w.cell? ⟨b, off + j, none⟩ = some (.int .u8 (xs.getD j 0)) ∧ 0 ≤ xs.getD j 0 ∧ xs.getD j 0 ≤ 255 := by
  rcases h with ⟨rfl, _⟩ | ⟨b, off, cap, h1, h2, h3, h4, h5⟩
  · simp at hj
  · injection h1 with e1 e2 e3
    subst e1; subst e3
    exact ⟨b, off, rfl, h2, h4 j hj, h5 j⟩
theorem infoBool : (Tryz.prog.info? 4).map (fun i => (i.zero, i.size, i.bytes)) = some (some (.bool false), 1, 1) := by kernel_rfl
set_option maxRecDepth 100000 in
set_option maxHeartbeats 1600000 in
theorem ends_one (f : Nat → Bool) : EndsC (.one f) := by
  intro w a m c wv xs bf S hn hx hl hfa
  obtain ⟨A, wc, rfl⟩ := rdB_slice hx
  have HX := Lib.hid hx; have HF := Lib.hid hfa
  have hnI : (xs.length : Int) ≤ 1000 := by omega
  have hmk := make_one (P := Tryz.prog) 84 4 (.bool false) 1 Tryz.underlying84 infoBool rfl .i64 .i64 (xs.length + 1) (by omega) (by omega)
  rw [show ((xs.length + 1 : Nat) : Int) = (xs.length : Int) + 1 from by omega, barr_zero] at hmk
  obtain ⟨w0, hw0⟩ : ∃ w0 : World, w0 = (w.alloc (.cells (nodeC 1 f 0 0 (.slice a m c)) 41)).alloc (.cells (barr (fun _ => false) (xs.length + 1)) 4) := ⟨_, rfl⟩
  have HA : Hid (AtG w0 w.heap.size 41 (nodeC 1 f 0 0 (.slice a m c))) := Lib.hid (by rw [hw0]; exact (AtG.new _ _ _).alloc _)
  have HO : Hid (AtG w0 (w.heap.size + 1) 4 (barr (fun _ => false) (xs.length + 1))) := Lib.hid (by
    rw [hw0]
    have := AtG.new (w.alloc (.cells (nodeC 1 f 0 0 (.slice a m c)) 41)) 4 (barr (fun _ => false) (xs.length + 1))
    simpa using this)
  have HB0 : Hid (Below w.heap.size w w0) := Lib.hid (by rw [hw0]; go_grown)
  have hw0' : (w.alloc (.cells #[.int .i64 1, .int .u64 ((wd f 0 : Nat) : Int), .int .u64 ((wd f 1 : Nat) : Int), .int .u64 ((wd f 2 : Nat) : Int), .int .u64 ((wd f 3 : Nat) : Int), .int .i64 0, .int .i64 0, .slice a m c] 41)).alloc (.cells (barr (fun _ => false) (xs.length + 1)) 4) = w0 := hw0.symm
  have m0 : w0.cell? ⟨w.heap.size, 0, none⟩ = some (.int .i64 1) := HA.out.cell 0 _ rfl
  have HLF := Lib.hid hfa.lt
  clear hn hx hfa hw0
  show Calls Tryz.prog 34 #[.agg #[.int .i64 1, .int .u64 ((wd f 0 : Nat) : Int), .int .u64 ((wd f 1 : Nat) : Int), .int .u64 ((wd f 2 : Nat) : Int), .int .u64 ((wd f 3 : Nat) : Int), .int .i64 0, .int .i64 0, .slice a m c], _, _] w _
  go_enter Tryz.func34, Tryz.ntmps34
  go_wp2_with fail
  go_loopw [31] (fun i wr => ∃ k : Nat, k ≤ xs.length ∧ i = .int .i64 k ∧ AtG wr w.heap.size 41 (nodeC 1 f 0 0 (.slice a m c)) ∧ Below w.heap.size w wr ∧ ∃ g, AtG wr (w.heap.size + 1) 4 (barr g (xs.length + 1)) ∧ g 0 = false ∧ (∀ j, j < k → g (j + 1) = (S j && f (byt xs j))) ∧ ∀ j, k ≤ j → g (j + 1) = false) (fun i _ => xs.length - (intOf i).toNat)
  case atStart => exact ⟨0, Nat.zero_le _, rfl, HA.out, HB0.out, _, HO.out, rfl, fun j h => absurd h (Nat.not_lt_zero _), fun _ _ => rfl⟩
  case round =>
    clear hw0' m0 HA HO HB0 hmk
    obtain ⟨k, hk, rfl, ha, hb, g, hg, hg0, hg1, hg2⟩ := hrel
    by_cases hlt : k < xs.length
    · obtain ⟨bw, ow, rfl, hcap, hcell, hc0, hc1⟩ := rdB_at HX.out k hlt
      have hcw : wr.cell? ⟨bw, ow + k, none⟩ = some (.int .u8 (xs.getD k 0)) := (hb.cell (p := ⟨bw, ow + k, none⟩) (World.block_lt_of_cell? w _ hcell)).trans hcell
      have hcf : wr.cell? ⟨bf, k, none⟩ = some (.bool (S k)) := (HF.out.below hb).bool k (by omega)
      have HH := Lib.hid (has_any f (xs.getD k 0) wr hc0 hc1)
      have hby : byt xs k = (xs.getD k 0).toNat := rfl
      have HG1 := Lib.hid hg1; have HG2 := Lib.hid hg2; have HG0 := Lib.hid hg0; have HB := Lib.hid hb; have HA := Lib.hid ha; have HG := Lib.hid hg
      have hws := hb.size
      have hsz : w.heap.size + 1 < wr.heap.size := hg.lt
      have n1 : wr.cell? ⟨w.heap.size, 1, none⟩ = some (.int .u64 ((wd f 0 : Nat) : Int)) := ha.cell 1 _ rfl
      have n2 : wr.cell? ⟨w.heap.size, 2, none⟩ = some (.int .u64 ((wd f 1 : Nat) : Int)) := ha.cell 2 _ rfl
      have n3 : wr.cell? ⟨w.heap.size, 3, none⟩ = some (.int .u64 ((wd f 2 : Nat) : Int)) := ha.cell 3 _ rfl
      have n4 : wr.cell? ⟨w.heap.size, 4, none⟩ = some (.int .u64 ((wd f 3 : Nat) : Int)) := ha.cell 4 _ rfl
      have o1 := hg.frozen (k + 1)
      have oc := hg.bool (k + 1) (by omega)
      generalize xs.getD k 0 = x at *
      clear hg1 hg2 hg0 hb ha hg hcell
      cases hS : S k with
      | false =>
        rw [hS] at hcf
        go_wp2_with fail
        refine ⟨⟨k + 1, by omega, by go_num, HA.out.far (p := ⟨w.heap.size + 1, k + 1, none⟩) (by show w.heap.size ≠ w.heap.size + 1; omega) _, HB.out.setCell (by simp) _, updB g (k + 1) false, HG.out.setB (k + 1) false, ?_, ?_, ?_⟩, by simp [intOf]; omega⟩
        · unfold updB; rw [if_neg (by omega)]; exact HG0.out
        · intro j hj
          unfold updB
          by_cases e : j = k
          · subst e; rw [if_pos rfl, hS]; rfl
          · rw [if_neg (by omega)]; exact HG1.out j (by omega)
        · intro j hj
          unfold updB
          rw [if_neg (by omega)]; exact HG2.out j (by omega)
      | true =>
        rw [hS] at hcf
        unfold setOf at HH
        go_wp2_with fail
        refine (HH.out).mono ?_
        rintro e9 w9 ⟨rfl, hb9⟩
        have HA9 := Lib.hid (HA.out.below hb9); have HB9 := Lib.hid (HB.out.trans (hb9.mono HB.out.size)); have HG9 := Lib.hid (HG.out.below hb9)
        have o2 := HG9.out.frozen (k + 1)
        have oc2 := HG9.out.bool (k + 1) (by omega)
        clear hb9
        generalize hfx : f x.toNat = fx at *
        go_wp2_with fail
        refine ⟨⟨k + 1, by omega, by go_num, HA9.out.far (p := ⟨w.heap.size + 1, k + 1, none⟩) (by show w.heap.size ≠ w.heap.size + 1; omega) _, HB9.out.setCell (by simp) _, updB g (k + 1) fx, HG9.out.setB (k + 1) fx, ?_, ?_, ?_⟩, by simp [intOf]; omega⟩
        · unfold updB; rw [if_neg (by omega)]; exact HG0.out
        · intro j hj
          unfold updB
          by_cases e : j = k
          · subst e; rw [if_pos rfl, hS, hby, hfx]; rfl
          · rw [if_neg (by omega)]; exact HG1.out j (by omega)
        · intro j hj
          unfold updB
          rw [if_neg (by omega)]; exact HG2.out j (by omega)
    · obtain rfl : k = xs.length := by omega
      have HG1 := Lib.hid hg1; have HG0 := Lib.hid hg0; have HB := Lib.hid hb; have HG := Lib.hid hg
      clear hg1 hg2 hg0 hb ha hg
      go_wp2_with fail
      go_returns
      refine ⟨HB.out, w.heap.size + 1, g, rfl, HG.out, .inr (by omega), fun i hi => ?_⟩
      constructor
      · intro h
        cases i with
        | zero => rw [HG0.out] at h; cases h
        | succ j =>
          rw [HG1.out j (by omega), Bool.and_eq_true] at h
          exact ⟨j, ⟨by omega, h.1⟩, by rw [Mt]; exact ⟨rfl, by omega, h.2⟩⟩
      · rintro ⟨j, ⟨hj, hSj⟩, hm⟩
        rw [Mt] at hm
        obtain ⟨rfl, hj2, hfj⟩ := hm
        rw [HG1.out j hj2, hSj, hfj]; rfl
end Go.Proofs.YtgjcibhhffkemaaGreatDoor
namespace Go.Proofs.YtgjcibhhffkemaaGreatDoor
open Go.RowKit Bt
theorem img_le (b : Nat → Nat) (n : Nat) (l : List Pat) (S : Nat → Bool) (k i : Nat) (h : img (MtC b n (l.take k)) (InS n S) i) : i ≤ n := by
  obtain ⟨j, hj, h2⟩ := h
  have h3 : Mt b n (.cat (l.take k)) j i := by rw [Mt]; exact h2
  exact mt_le b n _ j i hj.1 h3
theorem inS_iff {n : Nat} {g : Nat → Bool} {Q : Nat → Prop} (h : ∀ i, i ≤ n → (g i = true ↔ Q i)) (hQ : ∀ i, Q i → i ≤ n) (i : Nat) : InS n g i ↔ Q i :=
  ⟨fun ⟨h1, h2⟩ => (h i h1).1 h2, fun h1 => ⟨hQ i h1, (h i (hQ i h1)).2 h1⟩⟩
set_option maxRecDepth 100000 in
set_option maxHeartbeats 1600000 in
theorem ends_cat (l : List Pat) (hl2 : l.length ≤ 1000) (ih : ∀ p ∈ l, EndsC p) : EndsC (.cat l) := by
  intro w a m c wv xs bf S hn hx hl hfa
  obtain rfl : m = l.length := by
    obtain ⟨a', c', hh⟩ := KAt.slice hn
    injection hh with _ hh _
    rw [trees_len] at hh; exact hh
  obtain ⟨A, wc, rfl⟩ := rdB_slice hx
  have HX := Lib.hid hx; have HF := Lib.hid hfa; have HN := Lib.hid hn
  have hnI : (xs.length : Int) ≤ 1000 := by omega
  have hlI : (l.length : Int) ≤ 1000 := by omega
  have hmk := make_one (P := Tryz.prog) 84 4 (.bool false) 1 Tryz.underlying84 infoBool rfl .i64 .i64 (xs.length + 1) (by omega) (by omega)
  rw [show ((xs.length + 1 : Nat) : Int) = (xs.length : Int) + 1 from by omega, barr_zero] at hmk
  obtain ⟨w0, hw0⟩ : ∃ w0 : World, w0 = (w.alloc (.cells (nodeC 2 emp 0 0 (.slice a l.length c)) 41)).alloc (.cells (barr (fun _ => false) (xs.length + 1)) 4) := ⟨_, rfl⟩
  have HA : Hid (AtG w0 w.heap.size 41 (nodeC 2 emp 0 0 (.slice a l.length c))) := Lib.hid (by rw [hw0]; exact (AtG.new _ _ _).alloc _)
  have HO : Hid (AtG w0 (w.heap.size + 1) 4 (barr (fun _ => false) (xs.length + 1))) := Lib.hid (by
    rw [hw0]
    have := AtG.new (w.alloc (.cells (nodeC 2 emp 0 0 (.slice a l.length c)) 41)) 4 (barr (fun _ => false) (xs.length + 1))
    simpa using this)
  have HB0 : Hid (Below w.heap.size w w0) := Lib.hid (by rw [hw0]; go_grown)
  have hw0' : (w.alloc (.cells #[.int .i64 2, .int .u64 ((wd emp 0 : Nat) : Int), .int .u64 ((wd emp 1 : Nat) : Int), .int .u64 ((wd emp 2 : Nat) : Int), .int .u64 ((wd emp 3 : Nat) : Int), .int .i64 0, .int .i64 0, .slice a l.length c] 41)).alloc (.cells (barr (fun _ => false) (xs.length + 1)) 4) = w0 := hw0.symm
  have m0 : w0.cell? ⟨w.heap.size, 0, none⟩ = some (.int .i64 2) := HA.out.cell 0 _ rfl
  have m7 : w0.cell? ⟨w.heap.size, 7, none⟩ = some (.slice a l.length c) := HA.out.cell 7 _ rfl
  have HLF := Lib.hid hfa.lt
  clear hn hx hfa hw0
  show Calls Tryz.prog 34 #[.agg #[.int .i64 2, .int .u64 ((wd emp 0 : Nat) : Int), .int .u64 ((wd emp 1 : Nat) : Int), .int .u64 ((wd emp 2 : Nat) : Int), .int .u64 ((wd emp 3 : Nat) : Int), .int .i64 0, .int .i64 0, .slice a l.length c], _, _] w _
  go_enter Tryz.func34, Tryz.ntmps34
  go_wp2_with fail
  go_loopw [7, 57] (fun t7 i wr => ∃ k : Nat, k ≤ l.length ∧ i = .int .i64 k ∧ Below w.heap.size w wr ∧ ∃ bo g, t7 = .slice (some ⟨bo, 0, none⟩) (xs.length + 1) (xs.length + 1) ∧ AtG wr bo 4 (barr g (xs.length + 1)) ∧ (bo = bf ∨ w.heap.size ≤ bo) ∧ ∀ i, i ≤ xs.length → (g i = true ↔ img (MtC (byt xs) xs.length (l.take k)) (InS xs.length S) i)) (fun _ i _ => l.length - (intOf i).toNat)
  case atStart => exact ⟨0, Nat.zero_le _, rfl, HB0.out, bf, S, rfl, HF.out.below ((HB0.out).mono (by omega)), .inl rfl, fun i hi => by
    rw [List.take_zero]
    exact ⟨fun h => (mt_cat_nil _ _ _ _).2 ⟨hi, h⟩, fun h => ((mt_cat_nil _ _ _ _).1 h).2⟩⟩
  case round =>
    clear hw0' m0 m7 HA HO HB0 hmk
    obtain ⟨k, hk, rfl, hb, bo, g, rfl, hg, hbo, hgi⟩ := hrel
    have HB := Lib.hid hb; have HG := Lib.hid hg; have HBO := Lib.hid hbo; have HGI := Lib.hid hgi
    clear hb hg hbo hgi
    by_cases hlt : k < l.length
    · obtain ⟨b, off, cap, heq, hcap, op', f', mn', mx', kids', ka, kc, ht, hc8, hkn⟩ := kid_at HN.out (trees_get hlt)
      injection heq with e1 e2 e3
      subst e1; subst e3
      clear e2
      rw [trees_len] at hcap
      have hI := ih l[k] (List.getElem_mem hlt)
      unfold EndsC at hI
      rw [ht] at hI hkn
      have hI2 := fun w bf S h1 h2 h3 => hI w ka kids'.length kc (.slice A xs.length wc) xs bf S h1 h2 hl h3
      unfold nodeV at hI2
      have HI := Lib.hid hI2; have HKN := Lib.hid hkn
      obtain ⟨kn, hkl⟩ : ∃ kn, kn = kids'.length := ⟨_, rfl⟩
      rw [← hkl] at HKN HI hc8
      obtain ⟨c0, c1, c2, c3, c4, c5, c6, c7⟩ := Cell8.below hc8 HB.out
      clear hI hI2 hkn hkl ht hc8
      go_wp2_with fail
      refine (HI.out _ bo g (NAt.below HKN.out (HB.out.alloc HB.out.size (.cells (nodeC op' f' mn' mx' (.slice ka kn kc)) 41))) (rdB_below HX.out (HB.out.alloc HB.out.size _)) (HG.out.alloc _)).mono ?_
      rintro e9 w9 ⟨hb9, b9, g9, rfl, hg9, hbo9, hgi9⟩
      have HB9 := Lib.hid ((HB.out.alloc HB.out.size (.cells (nodeC op' f' mn' mx' (.slice ka kn kc)) 41)).trans (hb9.mono (by have := HB.out.size; simp; omega)))
      have HG9 := Lib.hid hg9
      have HBO9 : Hid (b9 = bf ∨ w.heap.size ≤ b9) := Lib.hid (by
        rcases hbo9 with h | h
        · rw [h]; exact HBO.out
        · have := HB.out.size; simp at h; omega)
      have HGI9 := Lib.hid hgi9
      clear hb9 hg9 hbo9 hgi9
      go_wp2_with fail
      exact ⟨⟨k + 1, by omega, by go_num, HB9.out, b9, g9, rfl, HG9.out, HBO9.out, fun i hi => (HGI9.out i hi).trans ((img_congr (inS_iff HGI.out (img_le _ _ _ _ _)) i).trans (mtC_snoc _ _ l k hlt _ i).symm)⟩, by simp [intOf]; omega⟩
    · obtain rfl : k = l.length := by omega
      rw [List.take_length] at HGI
      go_wp2_with fail
      go_returns
      exact ⟨HB.out, bo, g, rfl, HG.out, HBO.out, HGI.out⟩
set_option maxRecDepth 100000 in
set_option maxHeartbeats 1600000 in
theorem ends_alt (l : List Pat) (hl2 : l.length ≤ 1000) (ih : ∀ p ∈ l, EndsC p) : EndsC (.alt l) := by
  intro w a m c wv xs bf S hn hx hl hfa
  obtain rfl : m = l.length := by
    obtain ⟨a', c', hh⟩ := KAt.slice hn
    injection hh with _ hh _
    rw [trees_len] at hh; exact hh
  obtain ⟨A, wc, rfl⟩ := rdB_slice hx
  have HX := Lib.hid hx; have HF := Lib.hid hfa; have HN := Lib.hid hn
  have hnI : (xs.length : Int) ≤ 1000 := by omega
  have hlI : (l.length : Int) ≤ 1000 := by omega
  have hmk := make_one (P := Tryz.prog) 84 4 (.bool false) 1 Tryz.underlying84 infoBool rfl .i64 .i64 (xs.length + 1) (by omega) (by omega)
  rw [show ((xs.length + 1 : Nat) : Int) = (xs.length : Int) + 1 from by omega, barr_zero] at hmk
  obtain ⟨w0, hw0⟩ : ∃ w0 : World, w0 = (w.alloc (.cells (nodeC 3 emp 0 0 (.slice a l.length c)) 41)).alloc (.cells (barr (fun _ => false) (xs.length + 1)) 4) := ⟨_, rfl⟩
  have HA : Hid (AtG w0 w.heap.size 41 (nodeC 3 emp 0 0 (.slice a l.length c))) := Lib.hid (by rw [hw0]; exact (AtG.new _ _ _).alloc _)
  have HO : Hid (AtG w0 (w.heap.size + 1) 4 (barr (fun _ => false) (xs.length + 1))) := Lib.hid (by
    rw [hw0]
    have := AtG.new (w.alloc (.cells (nodeC 3 emp 0 0 (.slice a l.length c)) 41)) 4 (barr (fun _ => false) (xs.length + 1))
    simpa using this)
  have HB0 : Hid (Below w.heap.size w w0) := Lib.hid (by rw [hw0]; go_grown)
  have hw0' : (w.alloc (.cells #[.int .i64 3, .int .u64 ((wd emp 0 : Nat) : Int), .int .u64 ((wd emp 1 : Nat) : Int), .int .u64 ((wd emp 2 : Nat) : Int), .int .u64 ((wd emp 3 : Nat) : Int), .int .i64 0, .int .i64 0, .slice a l.length c] 41)).alloc (.cells (barr (fun _ => false) (xs.length + 1)) 4) = w0 := hw0.symm
  have m0 : w0.cell? ⟨w.heap.size, 0, none⟩ = some (.int .i64 3) := HA.out.cell 0 _ rfl
  have m7 : w0.cell? ⟨w.heap.size, 7, none⟩ = some (.slice a l.length c) := HA.out.cell 7 _ rfl
  have HLF := Lib.hid hfa.lt
  clear hn hx hfa hw0
  show Calls Tryz.prog 34 #[.agg #[.int .i64 3, .int .u64 ((wd emp 0 : Nat) : Int), .int .u64 ((wd emp 1 : Nat) : Int), .int .u64 ((wd emp 2 : Nat) : Int), .int .u64 ((wd emp 3 : Nat) : Int), .int .i64 0, .int .i64 0, .slice a l.length c], _, _] w _
  go_enter Tryz.func34, Tryz.ntmps34
  go_wp2_with fail
  go_loopw [71] (fun i wr => ∃ k : Nat, k ≤ l.length ∧ i = .int .i64 k ∧ Below w.heap.size w wr ∧ ∃ g, AtG wr (w.heap.size + 1) 4 (barr g (xs.length + 1)) ∧ ∀ i, i ≤ xs.length → (g i = true ↔ img (MtA (byt xs) xs.length (l.take k)) (InS xs.length S) i)) (fun i _ => l.length - (intOf i).toNat)
  case atStart => exact ⟨0, Nat.zero_le _, rfl, HB0.out, _, HO.out, fun i hi => by
    rw [List.take_zero]
    exact ⟨(fun h => by cases h), fun ⟨j, _, h⟩ => by rw [MtA] at h; exact h.elim⟩⟩
  case round =>
    clear hw0' m0 m7 HA HO HB0 hmk
    obtain ⟨k, hk, rfl, hb, g, hg, hgi⟩ := hrel
    have HB := Lib.hid hb; have HG := Lib.hid hg; have HGI := Lib.hid hgi
    have hsz : w.heap.size + 1 < wr.heap.size := hg.lt
    have HSZ := Lib.hid hsz
    clear hb hg hgi hsz
    by_cases hlt : k < l.length
    · obtain ⟨b, off, cap, heq, hcap, op', f', mn', mx', kids', ka, kc, ht, hc8, hkn⟩ := kid_at HN.out (trees_get hlt)
      injection heq with e1 e2 e3
      subst e1; subst e3
      clear e2
      rw [trees_len] at hcap
      have hI := ih l[k] (List.getElem_mem hlt)
      unfold EndsC at hI
      rw [ht] at hI hkn
      have hI2 := fun w bf S h1 h2 h3 => hI w ka kids'.length kc (.slice A xs.length wc) xs bf S h1 h2 hl h3
      unfold nodeV at hI2
      have HI := Lib.hid hI2; have HKN := Lib.hid hkn
      obtain ⟨kn, hkl⟩ : ∃ kn, kn = kids'.length := ⟨_, rfl⟩
      rw [← hkl] at HKN HI hc8
      obtain ⟨c0, c1, c2, c3, c4, c5, c6, c7⟩ := Cell8.below hc8 HB.out
      clear hI hI2 hkn hkl ht hc8
      go_wp2_with fail
      refine (HI.out _ bf S (NAt.below HKN.out (HB.out.alloc HB.out.size (.cells (nodeC op' f' mn' mx' (.slice ka kn kc)) 41))) (rdB_below HX.out (HB.out.alloc HB.out.size _)) (HF.out.below (HB.out.alloc HB.out.size _))).mono ?_
      rintro e9 w9 ⟨hb9, b9, g9, rfl, hg9, hbo9, hgi9⟩
      have HB9 := Lib.hid ((HB.out.alloc HB.out.size (.cells (nodeC op' f' mn' mx' (.slice ka kn kc)) 41)).trans (hb9.mono (by have := HB.out.size; simp; omega)))
      have HR9 := Lib.hid hg9
      have HO9 := Lib.hid ((HG.out.alloc (.cells (nodeC op' f' mn' mx' (.slice ka kn kc)) 41)).below hb9)
      have HNE : Hid (b9 ≠ w.heap.size + 1) := Lib.hid (by
        have := HLF.out; have := HSZ.out
        rcases hbo9 with h | h
        · omega
        · simp at h; omega)
      have HGI9 := Lib.hid hgi9
      clear hb9 hg9 hbo9 hgi9 c0 c1 c2 c3 c4 c5 c6 c7
      go_wp2_with fail
      go_loopw [80] (fun i wq => ∃ q : Nat, q ≤ xs.length + 1 ∧ i = .int .i64 q ∧ Below w.heap.size w wq ∧ AtG wq b9 4 (barr g9 (xs.length + 1)) ∧ ∃ h, AtG wq (w.heap.size + 1) 4 (barr h (xs.length + 1)) ∧ (∀ j, j < q → h j = (g j || g9 j)) ∧ ∀ j, q ≤ j → h j = g j) (fun i _ => xs.length + 1 - (intOf i).toNat)
      case atStart => exact ⟨0, Nat.zero_le _, rfl, HB9.out, HR9.out, g, HO9.out, fun j h => absurd h (Nat.not_lt_zero _), fun _ _ => rfl⟩
      case round =>
        clear HB9 HR9 HO9
        obtain ⟨q, hq, rfl, hb, hr, h, hh, h1, h2⟩ := hrel
        have HBq := Lib.hid hb; have HRq := Lib.hid hr; have HHq := Lib.hid hh; have H1 := Lib.hid h1; have H2 := Lib.hid h2
        clear hb hr hh h1 h2
        by_cases hltq : q < xs.length + 1
        · have hqI : (q : Int) < (xs.length : Int) + 1 := by omega
          have r1 := HRq.out.bool q hltq
          have o1 := HHq.out.bool q hltq
          have y1 := HHq.out.frozen q
          have hh2 := H2.out q (Nat.le_refl _)
          cases hgq : h q with
          | true =>
            rw [hgq] at o1
            go_wp2_with fail
            refine ⟨⟨q + 1, by omega, by go_num, HBq.out.setCell (by simp) _, HRq.out.far (p := ⟨w.heap.size + 1, q, none⟩) HNE.out _, updB h q true, HHq.out.setB q true, ?_, ?_⟩, by simp [intOf]; omega⟩
            · intro j hj
              unfold updB
              by_cases e : j = q
              · subst e; rw [if_pos rfl, ← hh2, hgq]; rfl
              · rw [if_neg e]; exact H1.out j (by omega)
            · intro j hj
              unfold updB
              rw [if_neg (by omega)]; exact H2.out j (by omega)
          | false =>
            rw [hgq] at o1
            go_wp2_with fail
            refine ⟨⟨q + 1, by omega, by go_num, HBq.out.setCell (by simp) _, HRq.out.far (p := ⟨w.heap.size + 1, q, none⟩) HNE.out _, updB h q (g9 q), HHq.out.setB q (g9 q), ?_, ?_⟩, by simp [intOf]; omega⟩
            · intro j hj
              unfold updB
              by_cases e : j = q
              · subst e; rw [if_pos rfl, ← hh2, hgq]; rfl
              · rw [if_neg e]; exact H1.out j (by omega)
            · intro j hj
              unfold updB
              rw [if_neg (by omega)]; exact H2.out j (by omega)
        · obtain rfl : q = xs.length + 1 := by omega
          go_wp2_with fail
          exact ⟨⟨k + 1, by omega, by go_num, HBq.out, h, HHq.out, fun i hi => by
            rw [H1.out i (by omega), Bool.or_eq_true, mtA_snoc _ _ l k hlt]
            exact or_congr (HGI.out i hi) (HGI9.out i hi)⟩, by simp [intOf]; omega⟩
    · obtain rfl : k = l.length := by omega
      rw [List.take_length] at HGI
      go_wp2_with fail
      go_returns
      exact ⟨HB.out, w.heap.size + 1, g, rfl, HG.out, .inr (by omega), HGI.out⟩
end Go.Proofs.YtgjcibhhffkemaaGreatDoor
