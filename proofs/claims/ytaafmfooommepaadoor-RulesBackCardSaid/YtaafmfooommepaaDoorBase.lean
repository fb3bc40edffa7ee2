/- Small lemmas that the walks of this seat share: errors compared, ends of walks, worlds. -/
import Derived.Test.YtaafmfooommepaaDoorProg
import Derived.Below
import Derived.WalkKit
import Derived.WalkSmall
import Derived.KernelRfl
import Derived.LaidEql
import Derived.WideLaws
import Derived.Lib.Hide
import Derived.Outline
import Derived.Handy
import Derived.Deep.QuietTactic
import Derived.BigQuiet
import Derived.OwnWalk
import Derived.WalkLawsBesides
import Derived.WalkSpells
import Derived.RegionTactic
import Derived.ChangeAlike
import Derived.BigRegion
namespace Go.Proofs.YtaafmfooommepaaDoor
open Go.RowKit

theorem ret_int {k : IntKind} {a b : Int} (h : a = b) : Ending.returned (.int k a) = .returned (.int k b) := by rw [h]
theorem ret_bool {a b : Bool} (h : a = b) : Ending.returned (.bool a) = .returned (.bool b) := by rw [h]
theorem ret_v {a b : Value} (h : a = b) : Ending.returned a = .returned b := by rw [h]

section
variable {P : Program} (w : World)
theorem run_equalIn_iface_int (d : Nat) {ti tn : TypeId} {ms : Array (String × TypeId)} {i : TypeInfo} {k : IntKind} (a b : Int)
    (hi : P.underlying ti = some (.interface ms)) (hn : P.underlying tn = some (.int k)) (hinfo : P.info? tn = some i) (hcomp : i.comparable = true) :
    (Op.equalIn (d + 2) ti (.iface tn (.int k a)) (.iface tn (.int k b))).run P w = .ok (a == b) w := by
  simp [Op.equalIn, run_underlying hi, run_underlying hn, typeInfo, hinfo, hcomp]
theorem run_eql_iface_int {ti tn : TypeId} {ms : Array (String × TypeId)} {i : TypeInfo} {k : IntKind} (a b : Int)
    (hi : P.underlying ti = some (.interface ms)) (hn : P.underlying tn = some (.int k)) (hinfo : P.info? tn = some i) (hcomp : i.comparable = true) :
    (binOp .eql ti (.iface tn (.int k a)) (.iface tn (.int k b))).run P w = .ok (.bool (a == b)) w := by
  simp only [binOp]
  simp [Op.equal, Op.maxDepth, run_equalIn_iface_int w 9998 a b hi hn hinfo hcomp]
end
/-- The same, its facts closed ones. -/
theorem eql_code {P : Program} {ti tn : TypeId} (a b : Int)
    (hi : (P.underlying ti).map (fun d => match d with | .interface _ => true | _ => false) = some true) (hn : P.underlying tn = some (.int .i64)) (hc : (P.info? tn).map (·.comparable) = some true) (w : World) :
    (binOp .eql ti (.iface tn (.int .i64 a)) (.iface tn (.int .i64 b))).run P w = .ok (.bool (a == b)) w := by
  obtain ⟨i, hinfo, hcomp⟩ := Option.map_eq_some_iff.1 hc
  obtain ⟨d, hd, hx⟩ := Option.map_eq_some_iff.1 hi
  cases d with
  | interface ms => exact run_eql_iface_int w a b hd hn hinfo hcomp
  | _ => simp at hx

/-! ### a block of cells known whole -/
/-- Block g is a row of just these cells. -/
def AtG (w : World) (g T : Nat) (cs : Array Value) : Prop := w.heap[g]? = some (.cells cs T (0, 0))
namespace AtG
variable {w w' : World} {g T : Nat} {cs : Array Value}
theorem lt (h : AtG w g T cs) : g < w.heap.size := (Array.getElem?_eq_some_iff.1 h).1
theorem cell (h : AtG w g T cs) (i : Nat) (v : Value) (hi : cs[i]? = some v) : w.cell? ⟨g, i, none⟩ = some v := by
  unfold AtG at h; simp [World.cell?, h, hi]
theorem frozen (h : AtG w g T cs) (i : Nat) : w.frozen? ⟨g, i, none⟩ = false := by
  unfold AtG at h; simp [World.frozen?, h]
theorem drew (h : AtG w g T cs) : AtG w.drew g T cs := h
theorem drewN (h : AtG w g T cs) (n : Nat) : AtG (w.drewN n) g T cs := h
theorem alloc (h : AtG w g T cs) (o : Obj) : AtG (w.alloc o) g T cs := by
  have := h.lt; unfold AtG at *; rw [Below.heap_alloc w o g this]; exact h
theorem new (w : World) (T : Nat) (cs : Array Value) : AtG (w.alloc (.cells cs T)) w.heap.size T cs := heap_alloc_new w _
theorem set (h : AtG w g T cs) (i : Nat) (v : Value) : AtG (w.setCell ⟨g, i, none⟩ v) g T (cs.setIfInBounds i v) := by
  have hl := h.lt
  unfold AtG at *
  simp [World.setCell, Array.getElem?_modify, h]
theorem far (h : AtG w g T cs) {p : Addr} (hp : g ≠ p.block) (v : Value) : AtG (w.setCell p v) g T cs := by
  unfold AtG at *; rw [Below.heap_setCell w p v g hp]; exact h
theorem below (h : AtG w g T cs) (hb : Below w.heap.size w w') : AtG w' g T cs := (hb.block g h.lt).trans h
theorem grown (h : AtG w g T cs) {row : Option Nat} (hg : w.grownBy w' row) (hr : row ≠ some g) : AtG w' g T cs := (hg.block g h.lt (fun e => hr e.symm)).trans h
theorem same (h : AtG w g T cs) (hw : w'.heap = w.heap) : AtG w' g T cs := by unfold AtG; rw [hw]; exact h
end AtG
theorem gb_refl (w : World) (r : Option Nat) : w.grownBy w r := ⟨rfl, rfl, rfl, Nat.le_refl _, fun _ _ _ => rfl⟩
theorem gb_drew {a w : World} {r : Option Nat} (h : a.grownBy w r) : a.grownBy w.drew r := ⟨h.os, h.tape, h.output, h.size, h.block⟩
theorem gb_drewN {a w : World} {r : Option Nat} (h : a.grownBy w r) (n : Nat) : a.grownBy (w.drewN n) r := ⟨h.os, h.tape, h.output, h.size, h.block⟩
theorem gb_alloc {a w : World} {r : Option Nat} (h : a.grownBy w r) (o : Obj) : a.grownBy (w.alloc o) r := World.grownBy.trans h (World.grownBy_alloc w o r)
theorem gb_set {a w : World} {g : Nat} (h : a.grownBy w (some g)) (i : Nat) (v : Value) : a.grownBy (w.setCell ⟨g, i, none⟩ v) (some g) :=
  World.grownBy.trans h ⟨rfl, rfl, rfl, by simp, fun k _ hk => Below.heap_setCell w _ v k (fun e => hk (by rw [e]))⟩
theorem gb_below {a w w' : World} {r : Option Nat} (h : a.grownBy w r) (hb : Below w.heap.size w w') : a.grownBy w' r :=
  World.grownBy.trans h ⟨hb.os, hb.tape, hb.output, hb.size, fun k hk _ => hb.block k hk⟩
/-- a block that is new since w0 was written -/
theorem gb_setNew {a w : World} {r : Option Nat} (h : a.grownBy w r) {p : Addr} (hp : a.heap.size ≤ p.block) (v : Value) : a.grownBy (w.setCell p v) r :=
  ⟨h.os, h.tape, h.output, by simpa using h.size, fun k hk hr => (Below.heap_setCell w p v k (by omega)).trans (h.block k hk hr)⟩
theorem below_of_gb {B : Nat} {a w w' : World} {r : Option Nat} (h : Below B a w) (hg : w.grownBy w' r) (hB : B ≤ w.heap.size) (hr : ∀ k, r = some k → B ≤ k) : Below B a w' := h.grown hg hB hr

/-! ### snafflelaw00.Code -/
theorem code_nil (w : World) : Calls Tryd.prog 18 #[.nilIface] w fun e w' => e = .returned (.int .i64 0) ∧ w' = w := by
  go_enter Tryd.func18, Tryd.ntmps18
  go_wp2
  go_ret
  exact ⟨rfl, rfl⟩
/-- what Code tells of an error that is a Code -/
def codeOf (v : Int) : Int := if 1 ≤ v ∧ v ≤ 11 then v else -1
theorem codeOf_in {v : Int} (h1 : 1 ≤ v) (h2 : v ≤ 11) : codeOf v = v := if_pos ⟨h1, h2⟩
set_option maxHeartbeats 400000 in
theorem code_some (v : Int) (w : World) : Calls Tryd.prog 18 #[.iface 41 (.int .i64 v)] w fun e w' => e = .returned (.int .i64 (codeOf v)) ∧ w' = w := by
  have he := fun (x : Int) => eql_code (P := Tryd.prog) (ti := 25) (tn := 41) v x (by kernel_rfl) (by kernel_rfl) (by kernel_rfl) w
  go_enter Tryd.func18, Tryd.ntmps18
  go_wp2
  go_loop [3] (fun c => ∃ k : Nat, 1 ≤ k ∧ k ≤ 12 ∧ c = .int .i64 k ∧ (v < 1 ∨ (k : Int) ≤ v)) (fun c => 12 - (intOf c).toNat)
  case atStart => exact ⟨1, by omega, by omega, rfl, by omega⟩
  case round =>
    obtain ⟨k, hk1, hk2, rfl, hv⟩ := hrel
    go_wp2
    · have hvk : (v == (k : Int)) = true := by assumption
      have hvk' : v = k := by simpa using hvk
      go_ret
      exact ⟨ret_int (by unfold codeOf; rw [if_pos (by omega), hvk']), rfl⟩
    · have hvk : (v == (k : Int)) = false := by assumption
      have hvk' : ¬ v = k := by simpa using hvk
      exact ⟨⟨k + 1, by omega, by omega, by go_num, by omega⟩, by simp [intOf]; omega⟩
    · go_ret
      exact ⟨ret_int (by unfold codeOf; rw [if_neg (by omega)]), rfl⟩
end Go.Proofs.YtaafmfooommepaaDoor
