/- Own texts, pruned and joined by a program (prune.py). -/
import Derived.Test.YtgjcibhhffkemaaGreatDoorVs3
import Derived.Stop.Asserts
import Derived.RowKitTokens
import Derived.Laws.StructEq
import Derived.KernelRfl
import Derived.WideShapes
import Derived.SizedLaws
import Derived.ChangeSlices
import Derived.ChangeArms
import Derived.ChangeShapes
import Derived.DataReads
import Derived.Test.YtgjcibhhffkemaaGreatDoorRows
import Derived.Test.YtgjcibhhffkemaaGreatDoorCards
import Derived.Test.YtgjcibhhffkemaaGreatDoorTie
import Derived.LaidLaws
import Derived.LaidHandle
import Derived.WalkKit
import Derived.ProofKit
import Derived.OpenShut
import Derived.ShutString
import Derived.ChangeOld
import Derived.Below
import Derived.Lib.SmallJoins
import Derived.Lay
import Derived.LaidMore
import Derived.SevenTiedAt
import Derived.Stop.Joined
set_option linter.unusedVariables false
set_option linter.unusedSimpArgs false
namespace Go.Proofs.YtgjcibhhffkemaaGreatDoor.Ve
open Go.RowKit Bt Fl
inductive Vd (L M : Int) : List Ru.Rl → Nat → List (Pat × Bool) → (List (Pat × Bool)) ⊕ (Int × Nat) → Prop
  | done {i out} : Vd L M [] i out (.inl out)
  | bad {r l i out c x} : RxRes r.pat (.no c x) → Vd L M (r :: l) i out (.inr (c, i))
  | amiss {r l i out p q c} : RxRes r.pat (.ok p.tree q) → Wf p → AmRes p L M c → c ≠ 0 → Vd L M (r :: l) i out (.inr (c, i))
  | next {r l i out p q R} : RxRes r.pat (.ok p.tree q) → Wf p → AmRes p L M 0 → Vd L M l (i + 1) (out ++ [(p, r.luhn)]) R → Vd L M (r :: l) i out R
inductive Ck where
  | arg
  | no (c : Int) (x : Nat)
  | ok (out : List (Pat × Bool))
def CkRes (s : ByteArray) (L Q C : Int) (R : Nat) (M : Int) : Ck → Prop
  | .arg => ¬ CfgOk L Q C R
  | .no c x => CfgOk L Q C R ∧ (Ru.RuRes s (.no c x) ∨ ∃ l, Ru.RuRes s (.ok l) ∧ Vd L M l 0 [] (.inr (c, x)))
  | .ok out => CfgOk L Q C R ∧ ∃ l, Ru.RuRes s (.ok l) ∧ Vd L M l 0 [] (.inl out)
def ruL (x : (Pat × Bool) × Value) : List Value := nodeL x.1.1.tree x.2 ++ [.bool x.1.2]
def flatV (ps : List ((Pat × Bool) × Value)) : List Value := ps.flatMap ruL
theorem ruL_len (x : (Pat × Bool) × Value) : (ruL x).length = 9 := by unfold ruL; rw [List.length_append, nodeL_len]; rfl
theorem flatV_snoc (ps : List ((Pat × Bool) × Value)) (x) : flatV (ps ++ [x]) = flatV ps ++ ruL x := by unfold flatV; rw [List.flatMap_append]; simp
theorem flatV_get : ∀ (ps : List ((Pat × Bool) × Value)) (j : Nat) (x : (Pat × Bool) × Value), ps[j]? = some x → ∀ i, i < 9 → (flatV ps)[j * 9 + i]? = (ruL x)[i]?
  | f :: l, j, x, hj, i, hi => by
    rw [show flatV (f :: l) = ruL f ++ flatV l from rfl]
    cases j with
    | zero =>
      simp at hj
      subst hj
      rw [List.getElem?_append_left (by rw [ruL_len]; omega)]; simp
    | succ j =>
      rw [List.getElem?_append_right (by rw [ruL_len]; omega), ruL_len, show (j + 1) * 9 + i - 9 = j * 9 + i from by omega]
      exact flatV_get l j x (by simpa using hj) i hi
def OutAt (w : World) (v : Value) (rs : List (Pat × Bool)) : Prop := (rs = [] ∧ ∃ a c, v = .slice a 0 c) ∨ ∃ b off cap, v = .slice (some ⟨b, off, none⟩) rs.length cap ∧ rs.length ≤ cap ∧
  ∀ (j : Nat) (r : Pat × Bool), rs[j]? = some r → ∃ kv, (∀ i, i < 8 → w.cell? ⟨b, off + j * 9 + i, none⟩ = (nodeL r.1.tree kv)[i]?) ∧ w.cell? ⟨b, off + j * 9 + 8, none⟩ = some (.bool r.2) ∧ NAt w r.1.tree kv
theorem OutAt.form {w : World} {v : Value} {rs : List (Pat × Bool)} (h : OutAt w v rs) : ∃ a c, v = .slice a rs.length c := by
  rcases h with ⟨rfl, a, c, rfl⟩ | ⟨b, off, c, rfl, _⟩
  · exact ⟨_, _, rfl⟩
  · exact ⟨_, _, rfl⟩
theorem OutAt.below {w w' : World} {v : Value} {rs : List (Pat × Bool)} (h : OutAt w v rs) (hb : Below w.heap.size w w') : OutAt w' v rs := by
  rcases h with h | ⟨b, off, c, h1, h2, h3⟩
  · exact .inl h
  · refine .inr ⟨b, off, c, h1, h2, fun j r hj => ?_⟩
    obtain ⟨kv, a1, a2, a3⟩ := h3 j r hj
    have hlt : b < w.heap.size := World.block_lt_of_cell? _ _ a2
    exact ⟨kv, fun i hi => (hb.cell (p := ⟨b, off + j * 9 + i, none⟩) hlt).trans (a1 i hi), (hb.cell (p := ⟨b, off + j * 9 + 8, none⟩) hlt).trans a2, a3.below hb⟩
theorem out_own {w : World} {base E : Nat} {v : Value} {ps : List ((Pat × Bool) × Value)} (h : w.ownsRow base E 9 v ps.length (flatV ps)) (ha : ∀ x ∈ ps, NAt w x.1.1.tree x.2) : OutAt w v (ps.map (·.1)) := by
  obtain ⟨hl, h⟩ := h
  rcases h with ⟨rfl, h0⟩ | ⟨g, cap, cur, rfl, hb, hh, hnc, hcm, hcs, hct⟩
  · exact .inl ⟨by rw [List.eq_nil_of_length_eq_zero h0]; rfl, _, _, by rfl⟩
  · refine .inr ⟨g, 0, cap, by simp, by simpa using hnc, fun j r hj => ?_⟩
    rw [List.getElem?_map] at hj
    obtain ⟨x, hx, rfl⟩ := Option.map_eq_some_iff.1 hj
    have hc : ∀ i, i < 9 → w.cell? ⟨g, 0 + j * 9 + i, none⟩ = (ruL x)[i]? := fun i hi => by
      have h1 := flatV_get ps j x hx i hi
      rw [← hct, List.getElem?_take] at h1
      have hlen := ruL_len x
      split at h1
      · rw [← h1]; simp [World.cell?, hh]
      · rw [List.getElem?_eq_getElem (by omega)] at h1; cases h1
    refine ⟨x.2, fun i hi => ?_, ?_, ha x (List.mem_of_getElem? hx)⟩
    · rw [hc i (by omega)]; unfold ruL; rw [List.getElem?_append_left (by rw [nodeL_len]; exact hi)]
    · rw [hc 8 (by omega)]; unfold ruL; rw [List.getElem?_append_right (by rw [nodeL_len]; omega), nodeL_len]; rfl
theorem tree_kv {w : World} {p : Pat} {kv : Value} (h : NAt w p.tree kv) : ∃ a n c, kv = .slice a n c := by
  rcases hpt : p.tree with ⟨op, f, mn, mx, kids⟩
  rw [hpt] at h
  obtain ⟨a, c, h⟩ := KAt.slice h
  exact ⟨a, _, c, h⟩
def CkX (s : ByteArray) (L Q C : Int) (R : Nat) (M : Int) (w : World) (e : Ending) (w' : World) : Prop :=
  Below w.heap.size w w' ∧ ∃ V, CkRes s L Q C R M V ∧ match V with
    | .arg => e = .returned (.tuple #[.slice none 0 0, .int .i64 0, errCode 1])
    | .no c x => ∃ b, e = .returned (.tuple #[.slice none 0 0, .int .i64 0, spotV b]) ∧ AtG w' b 73 #[.int .i64 (x : Int), .int .i64 c]
    | .ok out => ∃ v, e = .returned (.tuple #[v, .int .i64 (flo R), .nilIface]) ∧ OutAt w' v out
end Go.Proofs.YtgjcibhhffkemaaGreatDoor.Ve
namespace Go.Proofs.YtgjcibhhffkemaaGreatDoor.As
open Go.RowKit Go.Extern.Stop Go.Stop Go.Extern
set_option maxRecDepth 100000 in
theorem as_nil (t : Value) (w : World) : Calls Tryz.prog 24 #[.nilIface, t] w fun e w' => e = .returned (.bool false) ∧ w' = w := by
  have h1 : (binOp BinOp.eql 28 .nilIface .nilIface).run Tryz.prog w = .ok (.bool true) w := by rfl
  go_enter Tryz.func24, Tryz.ntmps24
  go_wp2
  go_ret
  exact ⟨rfl, rfl⟩
theorem valueOfP (t : Addr) (w : World) : (ReflectliteValue.unpack (.iface 70 (.pointer (some t)))).run Tryz.prog w
    = .ok (.agg #[.pointer (some ⟨5, 70, none⟩), .pointer (some ⟨w.heap.size, 0, none⟩), .int .u64 150]) (w.alloc (.cells #[.pointer (some t)] 70)) := by kernel_rfl
theorem typeP (a : Addr) (w : World) : (ReflectliteValue.methodAny (ReflectliteValue.valueError "reflectlite.Value.Type" 0) (fun t _ _ _ => ReflectliteType.toType t) #[.agg #[.pointer (some ⟨5, 70, none⟩), .pointer (some a), .int .u64 150]]).run Tryz.prog w
    = .ok (.iface 129 (.agg #[.pointer (some ⟨5, 70, none⟩)])) w := by kernel_rfl
theorem kindP (w : World) : ((ReflectliteType.abiMethod fun t => (fun a : Nat => Value.int IntKind.u8 (a : Int)) <$> Rtype.kind t) #[.pointer (some ⟨5, 70, none⟩)]).run Tryz.prog w = .ok (.int .u8 22) w := by kernel_rfl
theorem kindE (w : World) : ((ReflectliteType.abiMethod fun t => (fun a : Nat => Value.int IntKind.u8 (a : Int)) <$> Rtype.kind t) #[.pointer (some ⟨5, 68, none⟩)]).run Tryz.prog w = .ok (.int .u8 22) w := by kernel_rfl
theorem rlm (z : Sem Value) (f : TypeId → Addr → Nat → Nat → Sem Value) (v : Value) :
    ReflectliteValue.method z f #[v] = (do match ← ReflectliteValue.parts v with | none => z | some (t, a, fl) => f t a fl (fl % 32)) := rfl
theorem partsP (a : Addr) (w : World) : (ReflectliteValue.parts (.agg #[.pointer (some ⟨5, 70, none⟩), .pointer (some a), .int .u64 150])).run Tryz.prog w = .ok (some (70, a, 150)) w := by kernel_rfl
theorem isNilP (a p : Addr) (W : World) (ha : W.cell? a = some (.pointer (some p))) :
    (ReflectliteValue.method (ReflectliteValue.valueError "reflectlite.Value.IsNil" 0) ReflectliteValue.isNil #[.agg #[.pointer (some ⟨5, 70, none⟩), .pointer (some a), .int .u64 150]]).run Tryz.prog W = .ok (.bool false) W := by
  rw [rlm]
  simp only [Sem.run_bind, partsP, Result.andThen]
  simp [ReflectliteValue.isNil, loadVar, isAgg, underlying, Tryz.underlying70, ha, Result.andThen]
theorem elemT (w : World) : (ReflectliteType.method ReflectliteType.elem #[.agg #[.pointer (some ⟨5, 70, none⟩)]]).run Tryz.prog w = .ok (.iface 129 (.agg #[.pointer (some ⟨5, 68, none⟩)])) w := by kernel_rfl
theorem implE (w : World) : (ReflectliteType.relation "Implements" ReflectliteType.implements_ #[.agg #[.pointer (some ⟨5, 68, none⟩)], .iface 129 (.agg #[.pointer (some ⟨5, 28, none⟩)])]).run Tryz.prog w = .ok (.bool true) w := by kernel_rfl
theorem typeOfE (v : Value) (w : World) : (ReflectliteType.typeOf #[.iface 68 v]).run Tryz.prog w = .ok (.iface 129 (.agg #[.pointer (some ⟨5, 68, none⟩)])) w := by kernel_rfl
theorem assignE (w : World) : (ReflectliteType.relation "AssignableTo" ReflectliteType.assignableTo #[.agg #[.pointer (some ⟨5, 68, none⟩)], .iface 129 (.agg #[.pointer (some ⟨5, 68, none⟩)])]).run Tryz.prog w = .ok (.bool true) w := by kernel_rfl
theorem valueOfE (e : Addr) (w : World) : (ReflectliteValue.unpack (.iface 68 (.pointer (some e)))).run Tryz.prog w
    = .ok (.agg #[.pointer (some ⟨5, 68, none⟩), .pointer (some ⟨w.heap.size, 0, none⟩), .int .u64 150]) (w.alloc (.cells #[.pointer (some e)] 68)) := by kernel_rfl
theorem elemOfP (w : World) : (Rtype.elem? 70).run Tryz.prog w = .ok (some 68) w := by kernel_rfl
theorem mkE (p : Addr) (w : World) : (ReflectliteValue.mk 68 p ReflectliteValue.flagAddr).run Tryz.prog w = .ok (.agg #[.pointer (some ⟨5, 68, none⟩), .pointer (some p), .int .u64 406]) w := by kernel_rfl
theorem elemVP (a p : Addr) (W : World) (ha : W.cell? a = some (.pointer (some p))) :
    (ReflectliteValue.method (ReflectliteValue.valueError "reflectlite.Value.Elem" 0) ReflectliteValue.elem #[.agg #[.pointer (some ⟨5, 70, none⟩), .pointer (some a), .int .u64 150]]).run Tryz.prog W
      = .ok (.agg #[.pointer (some ⟨5, 68, none⟩), .pointer (some p), .int .u64 406]) W := by
  rw [rlm]
  simp only [Sem.run_bind, partsP, Result.andThen]
  simp [ReflectliteValue.elem, loadVar, isAgg, underlying, Tryz.underlying70, ha, Result.andThen, elemOfP, mkE]
theorem rls (v x : Value) : ReflectliteValue.set #[v, x] = (do
    let (some (dst, a, fl), some (src, b, _)) := (← ReflectliteValue.parts v, ← ReflectliteValue.parts x)
      | unsupported (.noEntry "extern/(internal/reflectlite.Value).Set.zeroValue")
    if fl / ReflectliteValue.flagAddr % 2 == 0 then unsupported (.noEntry "extern/(internal/reflectlite.Value).Set.unaddressable")
    let val ← loadVar src b
    if ← Rtype.directlyAssignable dst src then storeVar dst a val
    else if ← Rtype.implements dst src then
      if (← Rtype.kind src) == 20 then
        match val with
        | .nilIface => unsupported (.noEntry "extern/reflectlite: a nil value of one interface type handed on as a value of another")
        | _ => storeVar dst a val
      else storeVar dst a (.iface src val)
    else panicString ("reflectlite.Set: value of type " ++ (← Rtype.spelt src) ++ " is not assignable to type " ++ (← Rtype.spelt dst))
    pure (.tuple #[])) := rfl
theorem partsA (a : Addr) (w : World) : (ReflectliteValue.parts (.agg #[.pointer (some ⟨5, 68, none⟩), .pointer (some a), .int .u64 406])).run Tryz.prog w = .ok (some (68, a, 406)) w := by kernel_rfl
theorem partsE (a : Addr) (w : World) : (ReflectliteValue.parts (.agg #[.pointer (some ⟨5, 68, none⟩), .pointer (some a), .int .u64 150])).run Tryz.prog w = .ok (some (68, a, 150)) w := by kernel_rfl
theorem directE (w : World) : (Rtype.directlyAssignable 68 68).run Tryz.prog w = .ok true w := by kernel_rfl
theorem setE (ta b e : Addr) (old : Value) (W : World) (hb : W.cell? b = some (.pointer (some e))) (ht : W.cell? ta = some old) (hf : W.frozen? ta = false) :
    (ReflectliteValue.set #[.agg #[.pointer (some ⟨5, 68, none⟩), .pointer (some ta), .int .u64 406], .agg #[.pointer (some ⟨5, 68, none⟩), .pointer (some b), .int .u64 150]]).run Tryz.prog W
      = .ok (.tuple #[]) (W.setCell ta (.pointer (some e))) := by
  rw [rls]
  simp only [Sem.run_bind, partsA, partsE, Result.andThen]
  simp [ReflectliteValue.flagAddr, loadVar, isAgg, underlying, Tryz.underlying68, hb, Result.andThen, directE, storeVar, Value.cells, storeCells, Addr.add]
  rw [run_store Tryz.prog W ta _ _ (by rfl)]
  simp [ht, hf]
theorem mKind (h : Value) (w : World) : (Go.method 188 129 (.agg #[h]) "Kind").run Tryz.prog w = .ok (151, h) w := by kernel_rfl
theorem mElem (h : Value) (w : World) : (Go.method 188 129 (.agg #[h]) "Elem").run Tryz.prog w = .ok (163, .agg #[h]) w := by kernel_rfl
theorem mImpl (h : Value) (w : World) : (Go.method 188 129 (.agg #[h]) "Implements").run Tryz.prog w = .ok (164, .agg #[h]) w := by kernel_rfl
theorem mAssign (h : Value) (w : World) : (Go.method 188 129 (.agg #[h]) "AssignableTo").run Tryz.prog w = .ok (161, .agg #[h]) w := by kernel_rfl
set_option maxRecDepth 100000 in
set_option maxHeartbeats 4000000 in
theorem as_hit (e t : Addr) (old : Value) (w : World) (hg : w.cell? ⟨0, 0, none⟩ = some (.iface 129 (.agg #[.pointer (some ⟨5, 28, none⟩)]))) (ht0 : w.cell? t = some old) (hf0 : w.frozen? t = false) :
    Calls Tryz.prog 24 #[.iface 68 (.pointer (some e)), .iface 70 (.pointer (some t))] w fun ev w' => ev = .returned (.bool true) ∧ w' = ((((w.alloc (.cells #[.pointer (some t)] 70)).alloc (.cells #[.pointer (some ⟨5, 70, none⟩), .pointer (some ⟨w.heap.size, 0, none⟩), .int .u64 150] 99)).alloc (.cells #[.pointer (some ⟨5, 70, none⟩), .pointer (some ⟨w.heap.size, 0, none⟩), .int .u64 150] 99)).alloc (.cells #[.pointer (some e)] 68)).setCell t (.pointer (some e)) := by
  have h6 := @run_callFunc_extern Tryz.prog 40 _ (fun args => ReflectliteValue.unpack (args.getD 0 (.tuple #[]))) Tryz.func40 (by kernel_rfl) (by kernel_rfl) (by kernel_rfl) (by kernel_rfl)
  have h7 := @run_callFunc_extern Tryz.prog 41 _ (ReflectliteValue.methodAny (ReflectliteValue.valueError "reflectlite.Value.Type" 0) (fun t _ _ _ => ReflectliteType.toType t)) Tryz.func41 (by kernel_rfl) (by kernel_rfl) (by kernel_rfl) (by kernel_rfl)
  have h8 := @run_callFunc_extern Tryz.prog 42 _ (ReflectliteValue.method (ReflectliteValue.valueError "reflectlite.Value.IsNil" 0) ReflectliteValue.isNil) Tryz.func42 (by kernel_rfl) (by kernel_rfl) (by kernel_rfl) (by kernel_rfl)
  have h27 := @run_callFunc_extern Tryz.prog 151 _ (ReflectliteType.abiMethod fun t => do pure (.int .u8 (← Rtype.kind t))) Tryz.func151 (by kernel_rfl) (by kernel_rfl) (by kernel_rfl) (by kernel_rfl)
  have h37 := @run_callFunc_extern Tryz.prog 163 _ (ReflectliteType.method ReflectliteType.elem) Tryz.func163 (by kernel_rfl) (by kernel_rfl) (by kernel_rfl) (by kernel_rfl)
  have h38 := @run_callFunc_extern Tryz.prog 164 _ (ReflectliteType.relation "Implements" ReflectliteType.implements_) Tryz.func164 (by kernel_rfl) (by kernel_rfl) (by kernel_rfl) (by kernel_rfl)
  have h10 := @run_callFunc_extern Tryz.prog 64 _ ReflectliteType.typeOf Tryz.func64 (by kernel_rfl) (by kernel_rfl) (by kernel_rfl) (by kernel_rfl)
  have h35 := @run_callFunc_extern Tryz.prog 161 _ (ReflectliteType.relation "AssignableTo" ReflectliteType.assignableTo) Tryz.func161 (by kernel_rfl) (by kernel_rfl) (by kernel_rfl) (by kernel_rfl)
  have h11 := @run_callFunc_extern Tryz.prog 65 _ (ReflectliteValue.method (ReflectliteValue.valueError "reflectlite.Value.Elem" 0) ReflectliteValue.elem) Tryz.func65 (by kernel_rfl) (by kernel_rfl) (by kernel_rfl) (by kernel_rfl)
  have h12 := @run_callFunc_extern Tryz.prog 66 _ ReflectliteValue.set Tryz.func66 (by kernel_rfl) (by kernel_rfl) (by kernel_rfl) (by kernel_rfl)
  have b1 : (binOp BinOp.eql 28 (.iface 68 (.pointer (some e))) .nilIface).run Tryz.prog w = .ok (.bool false) w := by rfl
  have tO := typeOfE
  have mA := mAssign
  have a25 := assignE
  have v25 := valueOfE
  have f6 := valueOfP
  have f7 := typeP
  have mK := mKind
  have mE := mElem
  have mI := mImpl
  have k27 := kindP
  have k25 := kindE
  have e27 := elemT
  have i25 := implE
  have n8 := isNilP ⟨w.heap.size, 0, none⟩ t ((w.alloc (.cells #[.pointer (some t)] 70)).alloc (.cells #[.pointer (some ⟨5, 70, none⟩), .pointer (some ⟨w.heap.size, 0, none⟩), .int .u64 150] 99)) (by simp)
  have hlt : 0 < w.heap.size := by
    have := World.block_lt_of_cell? _ _ hg
    exact this
  have hg2 : ((w.alloc (.cells #[.pointer (some t)] 70)).alloc (.cells #[.pointer (some ⟨5, 70, none⟩), .pointer (some ⟨w.heap.size, 0, none⟩), .int .u64 150] 99)).cell? ⟨0, 0, none⟩ = some (.iface 129 (.agg #[.pointer (some ⟨5, 28, none⟩)])) := by
    rw [World.cell?_alloc_lt _ _ ⟨0, 0, none⟩ (by simp), World.cell?_alloc_lt _ _ ⟨0, 0, none⟩ hlt]; exact hg
  have htl : t.block < w.heap.size := by
    rcases Nat.lt_or_ge t.block w.heap.size with h | h
    · exact h
    · simp [World.cell?, Array.getElem?_eq_none h] at ht0
  have el := elemVP ⟨w.heap.size, 0, none⟩ t (((w.alloc (.cells #[.pointer (some t)] 70)).alloc (.cells #[.pointer (some ⟨5, 70, none⟩), .pointer (some ⟨w.heap.size, 0, none⟩), .int .u64 150] 99)).alloc (.cells #[.pointer (some ⟨5, 70, none⟩), .pointer (some ⟨w.heap.size, 0, none⟩), .int .u64 150] 99)) (by rw [World.cell?_alloc_lt _ _ ⟨w.heap.size, 0, none⟩ (by simp; omega)]; simp)
  have st := setE t ⟨w.heap.size + 1 + 1 + 1, 0, none⟩ e old ((((w.alloc (.cells #[.pointer (some t)] 70)).alloc (.cells #[.pointer (some ⟨5, 70, none⟩), .pointer (some ⟨w.heap.size, 0, none⟩), .int .u64 150] 99)).alloc (.cells #[.pointer (some ⟨5, 70, none⟩), .pointer (some ⟨w.heap.size, 0, none⟩), .int .u64 150] 99)).alloc (.cells #[.pointer (some e)] 68))
    (by rw [World.cell?_alloc_at _ _ _ _ (by simp)]; rfl)
    (by rw [World.cell?_alloc_lt _ _ t (by simp; omega), World.cell?_alloc_lt _ _ t (by simp; omega), World.cell?_alloc_lt _ _ t (by simp; omega), World.cell?_alloc_lt _ _ t htl]; exact ht0)
    (by rw [World.frozen?_alloc_old _ _ t (by simp; omega), World.frozen?_alloc_old _ _ t (by simp; omega), World.frozen?_alloc_old _ _ t (by simp; omega), World.frozen?_alloc_old _ _ t (Nat.ne_of_lt htl)]; exact hf0)
  go_enter Tryz.func24, Tryz.ntmps24
  go_wp2
  refine wp_loop_rounds 1 ?_
  rw [rounds_succ]
  go_wp2
  go_ret
  exact ⟨rfl, rfl⟩
end Go.Proofs.YtgjcibhhffkemaaGreatDoor.As
namespace Go.Proofs.YtgjcibhhffkemaaGreatDoor.Ru
open Go.RowKit
set_option maxRecDepth 100000 in
theorem spot_some (b : Nat) (x c : Int) (w : World) (h : AtG w b 73 #[.int .i64 x, .int .i64 c]) : Calls Tryz.prog 9 #[spotV b] w fun e w' => e = .returned (.tuple #[.int .i64 c, .int .i64 x]) ∧ Below w.heap.size w w' := by
  unfold spotV
  have h1 : (binOp BinOp.eql 28 (.iface 68 (.pointer (some ⟨b, 0, none⟩))) .nilIface).run Tryz.prog w = .ok (.bool false) w := by rfl
  have h2 : (Instr.typeAssert (.iface 68 (.pointer (some ⟨b, 0, none⟩))) 28 68 true).run Tryz.prog w = .ok (.tuple #[.pointer (some ⟨b, 0, none⟩), .bool true]) w := by rfl
  have h3 : (binOp BinOp.neq 68 (.pointer (some ⟨b, 0, none⟩)) (.pointer none)).run Tryz.prog w = .ok (.bool true) w := by rfl
  have H := Lib.hid h
  have HL := Lib.hid h.lt
  clear h
  go_enter Tryz.func9, Tryz.ntmps9
  go_upto_region 5 with (fail)
  refine Rg.wp_region_each (by kernel_rfl) (fun w' => Below w.heap.size w w') (fun w1 w2 h hb => h.trans (hb.mono h.size)) (by kernel_rfl) (by kernel_rfl) (Below.refl _ _) ?_
  show Rg.Build _ _ _ _ _ 0 [_, _, _, _, _, _, _, _, _, _] []
  refine Rg.build_cons (m := 1) (r := Rg.eq _) (Rg.one_plain (by rfl) (by (intro ax wx hk Kx hK; have k4 := hk.base 4 _ rfl rfl; have hj := hk.j; clear hk; have z0 : wx.cell? ⟨b, 0, none⟩ = some (.int .i64 x) := (hj.cell (p := ⟨b, 0, none⟩) HL.out).trans (H.out.cell 0 _ rfl); have z1 : wx.cell? ⟨b, 1, none⟩ = some (.int .i64 c) := (hj.cell (p := ⟨b, 1, none⟩) HL.out).trans (H.out.cell 1 _ rfl); go_simp; refine hK _ _ ?_ (Below.refl _ _); apply Rg.mk))) ?_ rfl
  refine Rg.build_cons (m := 2) (r := Rg.eq _) (Rg.one_plain (by rfl) (by (intro ax wx hk Kx hK; obtain ⟨v18, k18, h18⟩ := hk.dep 0 18 _ rfl rfl rfl; (first | (cases (h18 : v18 = _)) | (obtain ⟨rfl, h18⟩ := h18) | skip); have hj := hk.j; clear hk; have z0 : wx.cell? ⟨b, 0, none⟩ = some (.int .i64 x) := (hj.cell (p := ⟨b, 0, none⟩) HL.out).trans (H.out.cell 0 _ rfl); have z1 : wx.cell? ⟨b, 1, none⟩ = some (.int .i64 c) := (hj.cell (p := ⟨b, 1, none⟩) HL.out).trans (H.out.cell 1 _ rfl); go_simp; refine hK _ _ ?_ (Below.refl _ _); apply Rg.mk))) ?_ rfl
  refine Rg.build_cons (m := 3) (r := Rg.eq _) (Rg.one_plain (by rfl) (by (intro ax wx hk Kx hK; obtain ⟨v19, k19, h19⟩ := hk.dep 1 19 _ rfl rfl rfl; (first | (cases (h19 : v19 = _)) | (obtain ⟨rfl, h19⟩ := h19) | skip); have hj := hk.j; clear hk; have z0 : wx.cell? ⟨b, 0, none⟩ = some (.int .i64 x) := (hj.cell (p := ⟨b, 0, none⟩) HL.out).trans (H.out.cell 0 _ rfl); have z1 : wx.cell? ⟨b, 1, none⟩ = some (.int .i64 c) := (hj.cell (p := ⟨b, 1, none⟩) HL.out).trans (H.out.cell 1 _ rfl); go_simp; refine hK _ _ ?_ (Below.refl _ _); apply Rg.mk))) ?_ rfl
  refine Rg.build_cons (m := 4) (r := Rg.eq _) (Rg.one_plain (by rfl) (by (intro ax wx hk Kx hK; obtain ⟨v20, k20, h20⟩ := hk.dep 2 20 _ rfl rfl rfl; (first | (cases (h20 : v20 = _)) | (obtain ⟨rfl, h20⟩ := h20) | skip); have hj := hk.j; clear hk; have z0 : wx.cell? ⟨b, 0, none⟩ = some (.int .i64 x) := (hj.cell (p := ⟨b, 0, none⟩) HL.out).trans (H.out.cell 0 _ rfl); have z1 : wx.cell? ⟨b, 1, none⟩ = some (.int .i64 c) := (hj.cell (p := ⟨b, 1, none⟩) HL.out).trans (H.out.cell 1 _ rfl); go_simp; refine hK _ _ ?_ (Below.refl _ _); apply Rg.mk))) ?_ rfl
  refine Rg.build_cons (m := 5) (r := Rg.eq _) (Rg.one_plain (by rfl) (by (intro ax wx hk Kx hK; have k4 := hk.base 4 _ rfl rfl; have hj := hk.j; clear hk; have z0 : wx.cell? ⟨b, 0, none⟩ = some (.int .i64 x) := (hj.cell (p := ⟨b, 0, none⟩) HL.out).trans (H.out.cell 0 _ rfl); have z1 : wx.cell? ⟨b, 1, none⟩ = some (.int .i64 c) := (hj.cell (p := ⟨b, 1, none⟩) HL.out).trans (H.out.cell 1 _ rfl); go_simp; refine hK _ _ ?_ (Below.refl _ _); apply Rg.mk))) ?_ rfl
  refine Rg.build_cons (m := 6) (r := Rg.eq _) (Rg.one_plain (by rfl) (by (intro ax wx hk Kx hK; obtain ⟨v22, k22, h22⟩ := hk.dep 4 22 _ rfl rfl rfl; (first | (cases (h22 : v22 = _)) | (obtain ⟨rfl, h22⟩ := h22) | skip); have hj := hk.j; clear hk; have z0 : wx.cell? ⟨b, 0, none⟩ = some (.int .i64 x) := (hj.cell (p := ⟨b, 0, none⟩) HL.out).trans (H.out.cell 0 _ rfl); have z1 : wx.cell? ⟨b, 1, none⟩ = some (.int .i64 c) := (hj.cell (p := ⟨b, 1, none⟩) HL.out).trans (H.out.cell 1 _ rfl); go_simp; refine hK _ _ ?_ (Below.refl _ _); apply Rg.mk))) ?_ rfl
  refine Rg.build_cons (m := 7) (r := Rg.eq _) (Rg.one_plain (by rfl) (by (intro ax wx hk Kx hK; obtain ⟨v23, k23, h23⟩ := hk.dep 5 23 _ rfl rfl rfl; (first | (cases (h23 : v23 = _)) | (obtain ⟨rfl, h23⟩ := h23) | skip); have hj := hk.j; clear hk; have z0 : wx.cell? ⟨b, 0, none⟩ = some (.int .i64 x) := (hj.cell (p := ⟨b, 0, none⟩) HL.out).trans (H.out.cell 0 _ rfl); have z1 : wx.cell? ⟨b, 1, none⟩ = some (.int .i64 c) := (hj.cell (p := ⟨b, 1, none⟩) HL.out).trans (H.out.cell 1 _ rfl); go_simp; refine hK _ _ ?_ (Below.refl _ _); apply Rg.mk))) ?_ rfl
  refine Rg.build_cons (m := 8) (r := Rg.eq _) (Rg.one_plain (by rfl) (by (intro ax wx hk Kx hK; obtain ⟨v24, k24, h24⟩ := hk.dep 6 24 _ rfl rfl rfl; (first | (cases (h24 : v24 = _)) | (obtain ⟨rfl, h24⟩ := h24) | skip); have hj := hk.j; clear hk; have z0 : wx.cell? ⟨b, 0, none⟩ = some (.int .i64 x) := (hj.cell (p := ⟨b, 0, none⟩) HL.out).trans (H.out.cell 0 _ rfl); have z1 : wx.cell? ⟨b, 1, none⟩ = some (.int .i64 c) := (hj.cell (p := ⟨b, 1, none⟩) HL.out).trans (H.out.cell 1 _ rfl); go_simp; refine hK _ _ ?_ (Below.refl _ _); apply Rg.mk))) ?_ rfl
  refine Rg.build_cons (m := 9) (r := Rg.eq _) (Rg.one_plain (by rfl) (by (intro ax wx hk Kx hK; obtain ⟨v21, k21, h21⟩ := hk.dep 3 21 _ rfl rfl rfl; (first | (cases (h21 : v21 = _)) | (obtain ⟨rfl, h21⟩ := h21) | skip); have hj := hk.j; clear hk; have z0 : wx.cell? ⟨b, 0, none⟩ = some (.int .i64 x) := (hj.cell (p := ⟨b, 0, none⟩) HL.out).trans (H.out.cell 0 _ rfl); have z1 : wx.cell? ⟨b, 1, none⟩ = some (.int .i64 c) := (hj.cell (p := ⟨b, 1, none⟩) HL.out).trans (H.out.cell 1 _ rfl); go_simp; refine hK _ _ ?_ (Below.refl _ _); apply Rg.mk))) ?_ rfl
  refine Rg.build_cons (m := 10) (r := Rg.eq _) (Rg.one_plain (by rfl) (by (intro ax wx hk Kx hK; obtain ⟨v25, k25, h25⟩ := hk.dep 7 25 _ rfl rfl rfl; (first | (cases (h25 : v25 = _)) | (obtain ⟨rfl, h25⟩ := h25) | skip); have hj := hk.j; clear hk; have z0 : wx.cell? ⟨b, 0, none⟩ = some (.int .i64 x) := (hj.cell (p := ⟨b, 0, none⟩) HL.out).trans (H.out.cell 0 _ rfl); have z1 : wx.cell? ⟨b, 1, none⟩ = some (.int .i64 c) := (hj.cell (p := ⟨b, 1, none⟩) HL.out).trans (H.out.cell 1 _ rfl); go_simp; refine hK _ _ ?_ (Below.refl _ _); apply Rg.mk))) ?_ rfl
  refine Rg.build_end fun wx hj => ?_
  refine Rg.fin_eq rfl ?_
  refine Rg.fin_eq rfl ?_
  refine Rg.fin_eq rfl ?_
  refine Rg.fin_eq rfl ?_
  refine Rg.fin_eq rfl ?_
  refine Rg.fin_eq rfl ?_
  refine Rg.fin_eq rfl ?_
  refine Rg.fin_eq rfl ?_
  refine Rg.fin_eq rfl ?_
  refine Rg.fin_eq rfl ?_
  refine Rg.fin_nil ?_
  simp only [List.set_cons_zero, List.set_cons_succ]
  have HJ := Lib.hid hj
  clear hj
  go_wp2_with fail
  go_returns
  exact ⟨rfl, HJ.out⟩
theorem RulesAt.form {B : Nat} {w : World} {v : Value} {l : List Rl} (h : RulesAt B w v l) : ∃ a c, v = .slice a l.length c := by
  rcases h with ⟨rfl, rfl⟩ | ⟨g, c, _, rfl, _⟩
  · exact ⟨_, _, rfl⟩
  · exact ⟨_, _, rfl⟩
theorem RulesAt.get {B k c : Nat} {w : World} {a : Option Addr} {l : List Rl} {q : Rl} (h : RulesAt B w (.slice a l.length c) l) (hk : l[k]? = some q) : ∃ g, a = some ⟨g, 0, none⟩ ∧ l.length ≤ c ∧ w.cell? ⟨g, k * 3, none⟩ = some (.string q.name) ∧ w.cell? ⟨g, k * 3 + 1, none⟩ = some (.string q.pat) ∧ w.cell? ⟨g, k * 3 + 2, none⟩ = some (.bool q.luhn) := by
  rcases h with ⟨rfl, _⟩ | ⟨g, c', _, h1, h2, h3⟩
  · simp at hk
  · cases h1
    exact ⟨g, rfl, h2, h3 k q hk⟩
end Go.Proofs.YtgjcibhhffkemaaGreatDoor.Ru
namespace Go.Proofs.YtgjcibhhffkemaaGreatDoor.Ru
open Go.RowKit
theorem Rd.len {L : List ByteArray} {i : Nat} {out : List Rl} {R : Res} (h : Rd L i out R) : ∀ o, R = .ok o → out.length ≤ 8 → o.length ≤ 8 := by
  induction h with
  | done => intro o e h; cases e; exact h
  | skip _ _ ih => exact ih
  | bad => intro o e; cases e
  | twice => intro o e; cases e
  | large => intro o e; cases e
  | next _ _ _ hn _ ih => exact fun o e h => ih o e (by simp; omega)
theorem RuRes.len {s : ByteArray} {o : List Rl} (h : RuRes s (.ok o)) : o.length ≤ 8 := by
  rcases h with ⟨_, h⟩ | ⟨_, L, _, h⟩
  · cases h
  · exact h.len o rfl (by simp)
theorem fst_by {s : ByteArray} {c : Int} {i : Nat} (h : ch s i = c) (h2 : (List.range i).all (fun j => decide (ch s j ≠ c)) = true) : Fst s c i :=
  .inr ⟨i, rfl, h, fun j hj => of_decide_eq_true (List.all_eq_true.1 h2 j (List.mem_range.2 hj))⟩
theorem lst_by {s : ByteArray} {c : Int} {i : Nat} (hc : 0 ≤ c) (h : ch s i = c) (h2 : (List.range s.size).all (fun j => decide (j ≤ i ∨ ch s j ≠ c)) = true) : Lst s c i :=
  .inr ⟨i, rfl, h, fun j hj hjc => by
    have hs := ch_ge (s := s) (p := j) (by omega)
    rcases of_decide_eq_true (List.all_eq_true.1 h2 j (List.mem_range.2 hs)) with h3 | h3
    · omega
    · exact h3 hjc⟩
theorem nm_by {s : ByteArray} (h : (decide (1 ≤ s.size ∧ s.size ≤ 16) && (List.range s.size).all (fun j => decide ((97 ≤ ch s j ∧ ch s j ≤ 122) ∨ (48 ≤ ch s j ∧ ch s j ≤ 57) ∨ ch s j = 45 ∨ ch s j = 95))) = true) : Nm s := by
  rw [Bool.and_eq_true] at h
  have h1 := of_decide_eq_true h.1
  refine ⟨h1.1, h1.2, fun p hp => ?_⟩
  have h2 := List.all_eq_true.1 h.2 p (List.mem_range.2 hp)
  have h3 := of_decide_eq_true h2
  exact h3
theorem last_by {s : ByteArray} {p : Nat} (hp : p ≤ s.size) (h2 : (List.range s.size).all (fun j => decide (j < p ∨ ch s j ≠ 10)) = true) : Lines s p [s.extract p s.size] :=
  .last hp (fun j h3 h10 => by
    have hs := ch_ge (s := s) (p := j) (by omega)
    rcases of_decide_eq_true (List.all_eq_true.1 h2 j (List.mem_range.2 hs)) with h5 | h5
    · omega
    · exact h5 h10)
end Go.Proofs.YtgjcibhhffkemaaGreatDoor.Ru
namespace Go.Proofs.YtgjcibhhffkemaaGreatDoor
open Go.RowKit
theorem KAt.belowD {D : Nat → Prop} {w w' : World} {t : Tree} {kv : Value} (h : KAt D w t kv) (hb : Below w.heap.size w w') : KAt D w' t kv := KAt.keep (fun b hb' => hb.block b hb'.2) (fun b hb' => hb'.1) t kv (KAt.lt t kv h)
end Go.Proofs.YtgjcibhhffkemaaGreatDoor
namespace Go.Proofs.YtgjcibhhffkemaaGreatDoor.Ve
open Go.RowKit Bt Fl
theorem infoMR : (Tryz.prog.info? 43).map (fun i => (i.zero, i.size, i.bytes)) = some (some (.agg #[.int .i64 0, .int .u64 0, .int .u64 0, .int .u64 0, .int .u64 0, .int .i64 0, .int .i64 0, .slice none 0 0, .bool false]), 9, 88) := by kernel_rfl
def ErrAt (w : World) : Prop := w.cell? ⟨0, 0, none⟩ = some (.iface 129 (.agg #[.pointer (some ⟨5, 28, none⟩)]))
theorem ErrAt.below {w w' : World} (h : ErrAt w) (hb : Below w.heap.size w w') : ErrAt w' := (hb.cell (World.block_lt_of_cell? _ _ h)).trans h
set_option maxRecDepth 100000 in
set_option maxHeartbeats 4000000 in
theorem ckX (s : ByteArray) (L Q C : Int) (R : Nat) (M : Int) (hR : R < 18446744073709551616) (hM0 : 0 ≤ M) (hM1 : M ≤ 255) (hs : s.size ≤ 10000) (w : World) (he : ErrAt w) : Calls Tryz.prog 7 #[.string s, cfgV L Q C R M] w (CkX s L Q C R M w) := by
  have HE := Lib.hid he
  have HSZ := Lib.hid hs
  have HCF := Lib.hid (fun w => cfgX L Q C R M w hR)
  have HPR := Lib.hid (fun w => Ru.parseX s w hs)
  have HM := Lib.hid (And.intro hM0 hM1)
  have g1 : ∀ w, (binOp BinOp.neq 28 .nilIface .nilIface).run Tryz.prog w = .ok (.bool false) w := fun w => by rfl
  have g2 : ∀ (w : World) (c : Int), (binOp BinOp.neq 28 (.iface 71 (.int .i64 c)) .nilIface).run Tryz.prog w = .ok (.bool true) w := fun w c => by rfl
  have g3 : ∀ (w : World) (b : Nat), (binOp BinOp.neq 28 (.iface 68 (.pointer (some ⟨b, 0, none⟩))) .nilIface).run Tryz.prog w = .ok (.bool true) w := fun w b => by rfl
  have HC : Hid (AtG (w.alloc (.cells (cfgC L Q C R M) 24)) w.heap.size 24 (cfgC L Q C R M)) := Lib.hid (AtG.new _ _ _)
  have HB : Hid (Below w.heap.size w (w.alloc (.cells (cfgC L Q C R M) 24))) := Lib.hid ((Below.refl _ _).alloc (Nat.le_refl _) _)
  clear hs hR hM0 hM1 he
  unfold cfgV at HCF ⊢
  go_enter Tryz.func7, Tryz.ntmps7
  go_upto_region 1 with (fail)
  refine (show ∀ W : World, Hid (AtG W w.heap.size 24 (cfgC L Q C R M)) → Hid (Below w.heap.size w W) → _ from fun W HC HB => ?_) (w.alloc (.cells (cfgC L Q C R M) 24)) HC HB
  have c0 : W.cell? ⟨w.heap.size, 0, none⟩ = some (.int .i64 L) := HC.out.cell 0 _ rfl
  have c1 : W.cell? ⟨w.heap.size, 1, none⟩ = some (.int .i64 Q) := HC.out.cell 1 _ rfl
  have c2 : W.cell? ⟨w.heap.size, 2, none⟩ = some (.int .i64 C) := HC.out.cell 2 _ rfl
  have c3 : W.cell? ⟨w.heap.size, 3, none⟩ = some (.int .u64 (R : Int)) := HC.out.cell 3 _ rfl
  have c4 : W.cell? ⟨w.heap.size, 4, none⟩ = some (.int .u8 M) := HC.out.cell 4 _ rfl
  go_wp2_with fail
  refine (HCF.out _).mono ?_
  rintro e9 w1 ⟨hb1, hcf⟩
  have HC1 := Lib.hid (HC.out.below hb1); have HB1 := Lib.hid (HB.out.trans (hb1.mono HB.out.size))
  clear hb1 c0 c1 c2 c3 c4 HC HB HCF
  rcases hcf with ⟨hok, rfl⟩ | ⟨hno, rfl⟩
  rotate_left
  · have HNO := Lib.hid hno
    unfold errCode
    clear hno
    go_wp2_with fail
    go_returns
    exact ⟨HB1.out, .arg, HNO.out, rfl⟩
  have HOK := Lib.hid hok
  clear hok
  go_wp2_with fail
  refine (HPR.out _).mono ?_
  rintro e9 w4 ⟨hb4, RR, hRR, hr⟩
  have HC4 := Lib.hid (HC1.out.below hb4); have HB4 := Lib.hid (HB1.out.trans (hb4.mono HB1.out.size)); have HRR := Lib.hid hRR
  clear hb4 hRR HC1 HB1 HPR
  cases RR with
  | no c x =>
    obtain ⟨b, rfl, hx⟩ := hr
    have HX := Lib.hid hx
    clear hx
    unfold Ru.spotV
    go_wp2_with fail
    go_returns
    exact ⟨HB4.out, .no c x, ⟨HOK.out, .inl HRR.out⟩, b, rfl, HX.out⟩
  | ok l =>
    obtain ⟨v, rfl, hv⟩ := hr
    obtain ⟨va0, vc0, rfl⟩ := Ru.RulesAt.form hv
    have HV := Lib.hid hv
    have hl8 : (l.length : Int) ≤ 8 := by have := HRR.out.len; omega
    have HLN := Lib.hid HRR.out.len
    clear hv
    go_wp2_with fail
    go_loopw [10, 35] (fun o i wr => ∃ (j : Nat) (ps : List ((Pat × Bool) × Value)) (va : Option Addr) (vc : Nat), j ≤ l.length ∧ o = .slice va ps.length vc ∧ i = .int .i64 j ∧ Hid (wr.ownsRow w4.heap.size 43 9 (.slice va ps.length vc) ps.length (flatV ps)) ∧ Hid (∀ x ∈ ps, KAt (fun b => (Value.slice va ps.length vc).ownBlock ≠ some b) wr x.1.1.tree x.2) ∧ Hid (Below w4.heap.size w4 wr) ∧ Hid (ps.length ≤ j ∧ ∀ V, Vd L M (l.drop j) j (ps.map (·.1)) V → Vd L M l 0 [] V)) (fun o i _ => l.length - (intOf i).toNat)
    case atStart => exact ⟨0, [], none, 0, Nat.zero_le _, rfl, rfl, Lib.hid (own_nil _ _ _ _), Lib.hid (fun x h => by cases h), Lib.hid (Below.refl _ _), Lib.hid ⟨Nat.le_refl _, fun V h => h⟩⟩
    case round =>
      obtain ⟨j, ps, va, vc, hj, rfl, rfl, HO, HK, HY, HD⟩ := hrel
      by_cases hlt : j < l.length
      · have hltI : (j : Int) < l.length := by omega
        have HLT := Lib.hid hlt
        have hdr : l.drop j = l[j] :: l.drop (j + 1) := List.drop_eq_getElem_cons hlt
        obtain ⟨g, rfl, -, z0, z1, z2⟩ := Ru.RulesAt.get (HV.out.below HY.out) (List.getElem?_eq_getElem hlt)
        have HD1 : Hid (ps.length ≤ j ∧ ∀ V, Vd L M (l[j] :: l.drop (j + 1)) j (ps.map (·.1)) V → Vd L M l 0 [] V) := Lib.hid ⟨HD.out.1, fun V h => HD.out.2 V (by rw [hdr]; exact h)⟩
        generalize l[j] = r at *
        obtain ⟨rn, rp, rl⟩ := r
        dsimp only at z0 z1 z2
        have HRX := Lib.hid (fun w => parseX rp w)
        clear hdr HD hj hlt
        go_upto_region 11 with (fail)
        refine (show ∀ w5 : World, w5 = wr.alloc (.cells (Ru.rlC rn rp rl) 65) → _ from fun w5 hw5 => ?_) _ rfl
        have HRC : Hid (AtG w5 wr.heap.size 65 (Ru.rlC rn rp rl)) := Lib.hid (by rw [hw5]; exact AtG.new _ _ _)
        have HB5 : Hid (Below wr.heap.size wr w5) := Lib.hid (by rw [hw5]; exact (Below.refl _ _).alloc (Nat.le_refl _) _)
        obtain ⟨rb, hrb⟩ : ∃ rb, rb = wr.heap.size := ⟨_, rfl⟩
        rw [← hrb] at HRC ⊢
        have HO5 := Lib.hid (own_below HO.out HB5.out)
        have HK5 : Hid (∀ x ∈ ps, KAt (fun b => (Value.slice va ps.length vc).ownBlock ≠ some b) w5 x.1.1.tree x.2) := Lib.hid (fun x hx => (HK.out x hx).belowD HB5.out)
        have HY5 := Lib.hid (HY.out.trans (HB5.out.mono HY.out.size))
        clear hw5 HO HK HY HB5 z0 z1 z2 hrb
        obtain ⟨z0, z1, z2, -, -, -⟩ := Ru.rl_cells HRC.out
        go_wp2_with fail
        refine (HRX.out _).mono ?_
        rintro e9 w6 ⟨hb6, RX, hRX, hr⟩
        have HRC6 := Lib.hid (HRC.out.below hb6); have HO6 := Lib.hid (own_below HO5.out hb6); have HY6 := Lib.hid (HY5.out.trans (hb6.mono HY5.out.size)); have HRX2 := Lib.hid hRX
        have HK6 : Hid (∀ x ∈ ps, KAt (fun b => (Value.slice va ps.length vc).ownBlock ≠ some b) w6 x.1.1.tree x.2) := Lib.hid (fun x hx => (HK5.out x hx).belowD hb6)
        have HOB : Hid (∀ k, (Value.slice va ps.length vc).ownBlock = some k → k < w5.heap.size) := Lib.hid (own_lt HO5.out)
        have HB6 : Hid (Below w.heap.size w w6) := Lib.hid (HB4.out.trans (HY6.out.mono HB4.out.size))
        have HE6 : Hid (ErrAt w6) := Lib.hid (HE.out.below HB6.out)
        have HC6 : Hid (AtG w6 w.heap.size 24 (cfgC L Q C R M)) := Lib.hid (HC4.out.below HY6.out)
        clear hb6 HRC HO5 HK5 HY5 z0 z1 z2 HRX
        cases RX with
        | no c x =>
          obtain ⟨b, rfl, hx⟩ := hr
          have HX := Lib.hid hx
          have HVD := Lib.hid (HD1.out.2 _ (.bad hRX))
          clear hx hRX HD1
          unfold zeroN spotV
          go_upto_region 13 with (fail)
          refine (show ∀ w7 : World, w7 = (w6.alloc (.cells nodeZ 41)).alloc (.cells #[.pointer none] 68) → _ from fun w7 hw7 => ?_) _ rfl
          have HB7 : Hid (Below w6.heap.size w6 w7) := Lib.hid (by rw [hw7]; go_grown)
          have HT7 : Hid (AtG w7 (w6.heap.size + 1) 68 #[.pointer none]) := Lib.hid (by
            rw [hw7]
            have := AtG.new (w6.alloc (.cells nodeZ 41)) 68 #[.pointer none]
            simpa using this)
          obtain ⟨tb, htb⟩ : ∃ tb, tb = w6.heap.size + 1 := ⟨_, rfl⟩
          have HTB : Hid (w.heap.size ≤ tb) := Lib.hid (by have := HB6.out.size; omega)
          rw [← htb] at HT7 ⊢
          have HX7 := Lib.hid (HX.out.below HB7.out)
          have HAS : Hid (Calls Tryz.prog 24 #[.iface 68 (.pointer (some ⟨b, 0, none⟩)), .iface 70 (.pointer (some ⟨tb, 0, none⟩))] w7 fun ev w8 => ev = .returned (.bool true) ∧ Only (fun k => k = tb) w7 w8 ∧ AtG w8 tb 68 #[.pointer (some ⟨b, 0, none⟩)]) := Lib.hid ((As.as_hit ⟨b, 0, none⟩ ⟨tb, 0, none⟩ (.pointer none) w7 (HE6.out.below HB7.out) (HT7.out.cell 0 _ rfl) (HT7.out.frozen 0)).mono (by
            rintro ev w8 ⟨rfl, rfl⟩
            exact ⟨rfl, (Only.of_below (S := fun k => k = tb) (by go_grown)).trans (Only.set (S := fun k => k = tb) _ tb 0 _ rfl) (fun k hk => .inl hk), (AtG.alloc (AtG.alloc (AtG.alloc (AtG.alloc HT7.out _) _) _) _).set 0 _⟩))
          have HB7' : Hid (Below w.heap.size w w7) := Lib.hid (HB6.out.trans (HB7.out.mono HB6.out.size))
          clear hw7 htb HE6 HC6 HRC6 HO6 HK6 HY6 HOB HB7 HX
          go_wp2_with fail
          refine (HAS.out).mono ?_
          rintro e9 w8 ⟨rfl, ho8, ht8⟩
          have hne : b ≠ tb := HX7.out.ne HT7.out (by decide)
          have hx8 := HX7.out.only ho8 hne
          have y0 := ht8.cell 0 _ rfl
          have y1 := hx8.cell 1 _ rfl
          have x0 := ht8.drew.cell 0 _ rfl
          have x1 := hx8.drew.cell 1 _ rfl
          have HB8 : Hid (Below w.heap.size w w8) := Lib.hid (HB7'.out.trans (ho8.below HB7'.out.size (fun k hk => by subst hk; exact HTB.out)))
          clear ho8 ht8 hx8 hne HAS HX7 HT7
          go_upto_region 14 with (fail)
          go_region
          all_goals
            go_wp2
            go_returns
            exact ⟨HB8.out.drew.alloc HB8.out.size _, .no c j, ⟨HOK.out, .inr ⟨l, HRR.out, HVD.out⟩⟩, _, rfl, AtG.new _ _ _⟩
        | ok t q =>
          obtain ⟨kv, rfl, hk⟩ := hr
          obtain ⟨p, hp, rfl⟩ : ∃ p, Wf p ∧ t = p.tree := by
            rcases hRX with ⟨_, h⟩ | ⟨h1, h2⟩
            · cases h
            · exact P.good (by omega) h2 (Nat.zero_le _) trivial t q rfl
          obtain ⟨ka, kn, kc, rfl⟩ := tree_kv (NAt.of hk)
          have HP := Lib.hid hp
          have HKN : Hid (KAt (fun b => (Value.slice va ps.length vc).ownBlock ≠ some b) w6 p.tree (.slice ka kn kc)) := Lib.hid (hk.mono (fun b hb e => by have := HOB.out b e; omega))
          have HAM := fun w7 (hb : Below w6.heap.size w6 w7) => amissX p hp L Q C R M HM.out.1 HM.out.2 w7 ka kn kc (NAt.of (HKN.out.belowD hb))
          have hrl : ruL ((p, rl), .slice ka kn kc) = nodeL p.tree (.slice ka kn kc) ++ [.bool rl] := rfl
          rcases hpt : p.tree with ⟨op, f, mn, mx, kids⟩
          rw [hpt] at HAM hrl
          unfold nodeV cfgV at HAM
          unfold nodeL at hrl
          unfold nodeV
          dsimp only at HAM hrl ⊢
          have HAM := Lib.hid HAM; have HRL := Lib.hid hrl
          clear hk hRX hpt hrl hp
          go_upto_region 13 with (fail)
          refine (show ∀ w7 : World, w7 = (w6.alloc (.cells (nodeC op f mn mx (.slice ka kn kc)) 41)).alloc (.cells #[.pointer none] 68) → _ from fun w7 hw7 => ?_) _ rfl
          have HB7 : Hid (Below w6.heap.size w6 w7) := Lib.hid (by rw [hw7]; go_grown)
          have HN7 : Hid (AtG w7 w6.heap.size 41 (nodeC op f mn mx (.slice ka kn kc))) := Lib.hid (by rw [hw7]; exact (AtG.new _ _ _).alloc _)
          obtain ⟨nb, hnb⟩ : ∃ nb, nb = w6.heap.size := ⟨_, rfl⟩
          rw [← hnb] at HN7 ⊢
          have HC7 := Lib.hid (HC6.out.below HB7.out); have HRC7 := Lib.hid (HRC6.out.below HB7.out)
          have HO7 := Lib.hid (own_below HO6.out HB7.out); have HY7 := Lib.hid (HY6.out.trans (HB7.out.mono HY6.out.size))
          have HK7 : Hid (∀ x ∈ ps, KAt (fun b => (Value.slice va ps.length vc).ownBlock ≠ some b) w7 x.1.1.tree x.2) := Lib.hid (fun x hx => (HK6.out x hx).belowD HB7.out)
          have HKN7 := Lib.hid (HKN.out.belowD HB7.out)
          have HAM7 := Lib.hid (HAM.out w7 HB7.out)
          clear hw7 hnb HE6 HC6 HRC6 HO6 HK6 HY6 HOB HB7 HKN HAM HB6
          go_wp2_with fail
          refine (As.as_nil _ _).mono ?_
          rintro e9 w8 ⟨rfl, hw8⟩
          rw [hw8]
          clear hw8 w8
          have k0 : (w7).cell? ⟨nb, 0, none⟩ = some (.int .i64 op) := (HN7.out).cell 0 _ rfl
          have k1 : (w7).cell? ⟨nb, 1, none⟩ = some (.int .u64 ((wd f 0 : Nat) : Int)) := (HN7.out).cell 1 _ rfl
          have k2 : (w7).cell? ⟨nb, 2, none⟩ = some (.int .u64 ((wd f 1 : Nat) : Int)) := (HN7.out).cell 2 _ rfl
          have k3 : (w7).cell? ⟨nb, 3, none⟩ = some (.int .u64 ((wd f 2 : Nat) : Int)) := (HN7.out).cell 3 _ rfl
          have k4 : (w7).cell? ⟨nb, 4, none⟩ = some (.int .u64 ((wd f 3 : Nat) : Int)) := (HN7.out).cell 4 _ rfl
          have k5 : (w7).cell? ⟨nb, 5, none⟩ = some (.int .i64 mn) := (HN7.out).cell 5 _ rfl
          have k6 : (w7).cell? ⟨nb, 6, none⟩ = some (.int .i64 mx) := (HN7.out).cell 6 _ rfl
          have k7 : (w7).cell? ⟨nb, 7, none⟩ = some (.slice ka kn kc) := (HN7.out).cell 7 _ rfl
          have c0 : w7.cell? ⟨w.heap.size, 0, none⟩ = some (.int .i64 L) := HC7.out.cell 0 _ rfl
          have c1 : w7.cell? ⟨w.heap.size, 1, none⟩ = some (.int .i64 Q) := HC7.out.cell 1 _ rfl
          have c2 : w7.cell? ⟨w.heap.size, 2, none⟩ = some (.int .i64 C) := HC7.out.cell 2 _ rfl
          have c3 : w7.cell? ⟨w.heap.size, 3, none⟩ = some (.int .u64 (R : Int)) := HC7.out.cell 3 _ rfl
          have c4 : w7.cell? ⟨w.heap.size, 4, none⟩ = some (.int .u8 M) := HC7.out.cell 4 _ rfl
          go_wp2_with fail
          refine (HAM7.out).mono ?_
          rintro e9 w9 ⟨hb9, cd, hcd, rfl⟩
          have HN9 := Lib.hid (HN7.out.below hb9); have HRC9 := Lib.hid (HRC7.out.below hb9); have HO9 := Lib.hid (own_below HO7.out hb9); have HY9 := Lib.hid (HY7.out.trans (hb9.mono HY7.out.size))
          have HK9 : Hid (∀ x ∈ ps, KAt (fun b => (Value.slice va ps.length vc).ownBlock ≠ some b) w9 x.1.1.tree x.2) := Lib.hid (fun x hx => (HK7.out x hx).belowD hb9)
          have HKN9 := Lib.hid (HKN7.out.belowD hb9)
          have HCD := Lib.hid hcd
          clear hb9 hcd k0 k1 k2 k3 k4 k5 k6 k7 c0 c1 c2 c3 c4 HN7 HRC7 HO7 HY7 HK7 HKN7 HC7 HAM7
          by_cases h0 : cd = 0
          · subst h0
            have HD2 : Hid ((ps ++ [((p, rl), Value.slice ka kn kc)]).length ≤ j + 1 ∧ ∀ V, Vd L M (l.drop (j + 1)) (j + 1) ((ps ++ [((p, rl), Value.slice ka kn kc)]).map (·.1)) V → Vd L M l 0 [] V) := Lib.hid ⟨by have := HD1.out.1; simp; omega, fun V h => HD1.out.2 V (.next HRX2.out HP.out HCD.out (by simpa using h))⟩
            have HPL : Hid (ps.length ≤ 8) := Lib.hid (by have := HD1.out.1; have := HLT.out; have := HLN.out; omega)
            clear HD1
            obtain ⟨y0, y1, y2, -, -, -⟩ := Ru.rl_cells HRC9.out
            have k0 : (w9).cell? ⟨nb, 0, none⟩ = some (.int .i64 op) := (HN9.out).cell 0 _ rfl
            have k1 : (w9).cell? ⟨nb, 1, none⟩ = some (.int .u64 ((wd f 0 : Nat) : Int)) := (HN9.out).cell 1 _ rfl
            have k2 : (w9).cell? ⟨nb, 2, none⟩ = some (.int .u64 ((wd f 1 : Nat) : Int)) := (HN9.out).cell 2 _ rfl
            have k3 : (w9).cell? ⟨nb, 3, none⟩ = some (.int .u64 ((wd f 2 : Nat) : Int)) := (HN9.out).cell 3 _ rfl
            have k4 : (w9).cell? ⟨nb, 4, none⟩ = some (.int .u64 ((wd f 3 : Nat) : Int)) := (HN9.out).cell 4 _ rfl
            have k5 : (w9).cell? ⟨nb, 5, none⟩ = some (.int .i64 mn) := (HN9.out).cell 5 _ rfl
            have k6 : (w9).cell? ⟨nb, 6, none⟩ = some (.int .i64 mx) := (HN9.out).cell 6 _ rfl
            have k7 : (w9).cell? ⟨nb, 7, none⟩ = some (.slice ka kn kc) := (HN9.out).cell 7 _ rfl
            go_wp2_with ((at_builtin; refine wpList_appRowX rfl (.tmp 67) (.tmp 72) 26 rfl w4.heap.size 43 _ 9 88 Tryz.underlying26 infoMR rfl (by decide) _ _ ps.length 1 _ [.int .i64 op, .int .u64 ((wd f 0 : Nat) : Int), .int .u64 ((wd f 1 : Nat) : Int), .int .u64 ((wd f 2 : Nat) : Int), .int .u64 ((wd f 3 : Nat) : Int), .int .i64 mn, .int .i64 mx, .slice ka kn kc, .bool rl] (own_below HO9.out ((Below.refl _ _).alloc (Nat.le_refl _) _)) (src_at (AtG.new _ 43 _) 1) rfl rfl rfl (fun y hy => by simp at hy; rcases hy with rfl | rfl | rfl | rfl | rfl | rfl | rfl | rfl | rfl <;> rfl) (by have := HPL.out; omega) (by decide) (by have := HY9.out.size; simp; omega) ?_; intro v8 w8 ho8 hg8 hbk; obtain ⟨va8, vc8, rfl⟩ := own_form ho8; have HO8 := Lib.hid ho8; have HG8 := Lib.hid hg8; have HBK := Lib.hid hbk; clear ho8 hg8 hbk))
            have hO8 := HO8.out
            have hrl2 := HRL.out
            simp only [List.cons_append, List.nil_append] at hrl2
            rw [← hrl2, ← flatV_snoc] at hO8
            refine ⟨⟨j + 1, ps ++ [((p, rl), Value.slice ka kn kc)], va8, vc8, HLT.out, by simp, by go_num, Lib.hid (by simpa using hO8), Lib.hid ?_, Lib.hid ?_, HD2⟩, by have := HLT.out; simp [intOf]; try omega⟩
            · intro x hx
              have hx' : KAt (fun b => (Value.slice va ps.length vc).ownBlock ≠ some b) w9 x.1.1.tree x.2 := by
                rcases List.mem_append.1 hx with hx | hx
                · exact HK9.out x hx
                · rw [List.mem_singleton] at hx; subst hx; exact HKN9.out
              have h1 := KAt.lt _ _ (hx'.belowD ((Below.refl w9.heap.size w9).alloc (Nat.le_refl _) (.cells #[.int .i64 op, .int .u64 ((wd f 0 : Nat) : Int), .int .u64 ((wd f 1 : Nat) : Int), .int .u64 ((wd f 2 : Nat) : Int), .int .u64 ((wd f 3 : Nat) : Int), .int .i64 mn, .int .i64 mx, .slice ka kn kc, .bool rl] 43)))
              refine (h1.only (Only.of_grown (S := fun k => (Value.slice va ps.length vc).ownBlock = some k) HG8.out (fun k hk => hk)) (fun b hb => ⟨hb.2, hb.1⟩)).mono (fun b hb e => ?_)
              rcases HBK.out with h2 | h2
              · have e' : (Value.slice va8 (ps.length + 1) vc8).ownBlock = some b := by simpa using e
                rw [h2] at e'; exact hb.1 e'
              · have e' : (Value.slice va8 (ps.length + 1) vc8).ownBlock = some b := by simpa using e
                rw [h2] at e'; cases e'; have := hb.2; omega
            · exact (HY9.out.alloc HY9.out.size _).grown HG8.out (by have := HY9.out.size; simp; omega) (fun k hk => own_base HO9.out k hk)
          · have HVD := Lib.hid (HD1.out.2 _ (.amiss HRX2.out HP.out HCD.out h0))
            have n0 : (cd == 0) = false := beq_eq_false_iff_ne.2 h0
            have n1 : (cd != 0) = true := by rw [bne_iff_ne]; exact h0
            clear HD1
            go_wp2_with fail
            go_returns
            have hb9' := HB4.out.trans (HY9.out.mono HB4.out.size)
            exact ⟨hb9'.alloc hb9'.size _, .no cd j, ⟨HOK.out, .inr ⟨l, HRR.out, HVD.out⟩⟩, _, rfl, AtG.new _ _ _⟩
      · obtain rfl : j = l.length := by omega
        have HVD := Lib.hid (HD.out.2 (.inl (ps.map (·.1))) (by rw [List.drop_length]; exact .done))
        clear hlt hj HD
        go_wp2
        go_returns
        refine ⟨HB4.out.trans (HY.out.mono HB4.out.size), .ok (ps.map (·.1)), ⟨HOK.out, l, HRR.out, HVD.out⟩, _, rfl, ?_⟩
        exact out_own HO.out (fun x hx => NAt.of (HK.out x hx))
end Go.Proofs.YtgjcibhhffkemaaGreatDoor.Ve
namespace Go.Proofs.YtgjcibhhffkemaaGreatDoor.Ve
theorem trees_inj : ∀ l l' : List Pat, (∀ p ∈ l, ∀ p', p.tree = p'.tree → p = p') → Pat.trees l = Pat.trees l' → l = l'
  | [], [], _, _ => rfl
  | [], a :: b, _, h => by rw [Pat.trees, Pat.trees] at h; cases h
  | a :: b, [], _, h => by rw [Pat.trees, Pat.trees] at h; cases h
  | a :: b, c :: d, ih, h => by
    rw [Pat.trees, Pat.trees] at h
    injection h with h1 h2
    rw [ih a (by simp) c h1, trees_inj b d (fun p hp => ih p (by simp [hp])) h2]
theorem tree_inj : ∀ p p' : Pat, p.tree = p'.tree → p = p' := by
  intro p
  induction p using Pat.ind with
  | h1 f =>
    intro p' h
    cases p' with
    | one g => rw [Pat.tree, Pat.tree] at h; injection h with _ h; rw [h]
    | cat l => rw [Pat.tree, Pat.tree] at h; unfold catT at h; injection h with h; exact absurd h (by decide)
    | alt l => rw [Pat.tree, Pat.tree] at h; unfold altT at h; injection h with h; exact absurd h (by decide)
    | rep a b q => rw [Pat.tree, Pat.tree] at h; unfold repT at h; injection h with h; exact absurd h (by decide)
  | h2 l ih =>
    intro p' h
    cases p' with
    | one g => rw [Pat.tree, Pat.tree] at h; unfold catT at h; injection h with h; exact absurd h (by decide)
    | cat l' =>
      rw [Pat.tree, Pat.tree] at h; unfold catT at h
      injection h with _ _ _ _ h
      congr 1
      exact trees_inj l l' ih h
    | alt l' => rw [Pat.tree, Pat.tree] at h; unfold catT altT at h; injection h with h; exact absurd h (by decide)
    | rep a b q => rw [Pat.tree, Pat.tree] at h; unfold catT repT at h; injection h with h; exact absurd h (by decide)
  | h3 l ih =>
    intro p' h
    cases p' with
    | one g => rw [Pat.tree, Pat.tree] at h; unfold altT at h; injection h with h; exact absurd h (by decide)
    | cat l' => rw [Pat.tree, Pat.tree] at h; unfold altT catT at h; injection h with h; exact absurd h (by decide)
    | alt l' =>
      rw [Pat.tree, Pat.tree] at h; unfold altT at h
      injection h with _ _ _ _ h
      congr 1
      exact trees_inj l l' ih h
    | rep a b q => rw [Pat.tree, Pat.tree] at h; unfold altT repT at h; injection h with h; exact absurd h (by decide)
  | h4 mn mx q ih =>
    intro p' h
    cases p' with
    | one g => rw [Pat.tree, Pat.tree] at h; unfold repT at h; injection h with h; exact absurd h (by decide)
    | cat l' => rw [Pat.tree, Pat.tree] at h; unfold repT catT at h; injection h with h; exact absurd h (by decide)
    | alt l' => rw [Pat.tree, Pat.tree] at h; unfold repT altT at h; injection h with h; exact absurd h (by decide)
    | rep a b q' =>
      rw [Pat.tree, Pat.tree] at h; unfold repT at h
      injection h with _ _ h3 h4 h5
      injection h5 with h5
      rw [ih q' h5, show mn = a from by omega, show mx = b from by omega]
theorem one_piece {s : ByteArray} {p q : Nat} {t : Tree} (h : ch s p ≠ 40) (ha : atomF s p = .ok t q) (h1 : ch s q ≠ 63) (h2 : ch s q ≠ 123) : P s .piece 0 p (.ok t q) :=
  .pieceOk (ha ▸ .plain h) (.pieceEnd h1 h2)
theorem pat_one {s : ByteArray} {q : Nat} {t : Tree} (h : P s .piece 0 0 (.ok t q)) (he : ch s q = -1) : P s .pat 0 0 (.ok t q) :=
  .patOk (.partOk h (.partEnd (fun g => by have := g.1; omega))) (.patEnd (by omega))
theorem part_step {s : ByteArray} {l : List Tree} {t : Tree} {p q : Nat} {r : Re Tree} (hg : 0 ≤ ch s p ∧ ch s p ≠ 124) (h : P s .piece 0 p (.ok t q)) (hr : P s (.partL (l ++ [t])) 0 q r) : P s (.partL l) 0 p r :=
  .partMore ⟨hg.1, hg.2, .inr rfl⟩ h hr
theorem part_stop {s : ByteArray} {l : List Tree} {p : Nat} (he : ch s p = -1) : P s (.partL l) 0 p (.ok (many 2 l) p) := .partEnd (fun g => by have := g.1; omega)
def atomS (s : ByteArray) (p : Nat) : Nat → Bool := match atomF s p with | .ok (.node _ f _ _ _) _ => f | _ => fun _ => false
def oneAt (s : ByteArray) (p : Nat) : Pat := .one (atomS s p)
theorem wf_one (s : ByteArray) (p : Nat) : Wf (oneAt s p) := .one _
theorem no_empty {p : Pat} (h : 0 < leastP p) (b : Nat → Nat) : ¬ Mt b 0 p 0 0 := fun hm => by have := (mt_len b 0 p 0 0 hm).2.1; omega
end Go.Proofs.YtgjcibhhffkemaaGreatDoor.Ve
namespace Go.Proofs.YtgjcibhhffkemaaGreatDoor.Ve
open Go.RowKit Bt Fl
theorem ok_same {s : ByteArray} {p p' : Pat} {q q' : Nat} (h : RxRes s (.ok p.tree q)) (h' : RxRes s (.ok p'.tree q')) : p = p' := by
  have e := h.det h'
  injection e with e _
  exact tree_inj _ _ e
theorem ok_no {s : ByteArray} {p : Pat} {q : Nat} {c : Int} {x : Nat} (h : RxRes s (.ok p.tree q)) (h' : RxRes s (.no c x)) : False := by
  have e := h.det h'
  cases e
theorem Vd.det {L M : Int} {l : List Ru.Rl} {i : Nat} {out : List (Pat × Bool)} {R} (h : Vd L M l i out R) : ∀ R', Vd L M l i out R' → R = R' := by
  induction h with
  | done => intro R' h'; cases h'; rfl
  | bad h =>
    intro R' h'
    cases h' with
    | bad g => have e := h.det g; cases e; rfl
    | amiss g => exact (ok_no g h).elim
    | next g => exact (ok_no g h).elim
  | amiss h h1 h2 h3 =>
    intro R' h'
    cases h' with
    | bad g => exact (ok_no h g).elim
    | amiss g g1 g2 g3 => obtain rfl := ok_same h g; rw [h2.det g2]
    | next g g1 g2 => obtain rfl := ok_same h g; exact absurd (h2.det g2) h3
  | next h h1 h2 h3 ih =>
    intro R' h'
    cases h' with
    | bad g => exact (ok_no h g).elim
    | amiss g g1 g2 g3 => obtain rfl := ok_same h g; exact absurd (g2.det h2) g3
    | next g g1 g2 g3 => obtain rfl := ok_same h g; exact ih _ g3
theorem CkRes.det {s : ByteArray} {L Q C : Int} {R : Nat} {M : Int} : ∀ {V V' : Ck}, CkRes s L Q C R M V → CkRes s L Q C R M V' → V = V'
  | .arg, .arg, _, _ => rfl
  | .arg, .no _ _, h, h' => absurd h'.1 h
  | .arg, .ok _, h, h' => absurd h'.1 h
  | .no _ _, .arg, h, h' => absurd h.1 h'
  | .ok _, .arg, h, h' => absurd h.1 h'
  | .no c x, .no c' x', ⟨_, h⟩, ⟨_, h'⟩ => by
    rcases h with h | ⟨l, h, h1⟩ <;> rcases h' with h' | ⟨l', h', h1'⟩
    · have e := h.det h'; cases e; rfl
    · have e := h.det h'; cases e
    · have e := h.det h'; cases e
    · have e := h.det h'; cases e; have e := h1.det _ h1'; cases e; rfl
  | .no c x, .ok o, ⟨_, h⟩, ⟨_, l', h', h1'⟩ => by
    rcases h with h | ⟨l, h, h1⟩
    · have e := h.det h'; cases e
    · have e := h.det h'; cases e; have e := h1.det _ h1'; cases e
  | .ok o, .no c x, ⟨_, l', h', h1'⟩, ⟨_, h⟩ => by
    rcases h with h | ⟨l, h, h1⟩
    · have e := h.det h'; cases e
    · have e := h.det h'; cases e; have e := h1.det _ h1'; cases e
  | .ok o, .ok o', ⟨_, l, h, h1⟩, ⟨_, l', h', h1'⟩ => by
    have e := h.det h'; cases e; have e := h1.det _ h1'; cases e; rfl
def keyS : ByteArray := ⟨#[107, 101, 121, 32, 115, 107, 45, 91, 97, 45, 122, 48, 45, 57, 93, 123, 49, 50, 125, 32, 112, 108, 97, 105, 110, 10, 112, 117, 98, 32, 112, 107, 45, 91, 97, 45, 122, 48, 45, 57, 93, 123, 49, 50, 125, 32, 112, 108, 97, 105, 110, 10]⟩
theorem not_blank {l : ByteArray} (h : (decide (l.size ≠ 0 ∧ Ru.ch l 0 ≠ 35)) = true) : ¬ Ru.Blank l := by
  have h := of_decide_eq_true h
  rintro (h1 | h1)
  · exact h.1 h1
  · exact h.2 h1
theorem nil_res : Ru.RuRes ByteArray.empty (.ok []) := by
  refine .inr ⟨by decide, [ByteArray.empty], ?_, .skip (.inl rfl) .done⟩
  have h := Ru.last_by (s := ByteArray.empty) (p := 0) (by decide) (by kernel_rfl)
  have e0 : ByteArray.empty.extract 0 ByteArray.empty.size = ByteArray.empty := by kernel_rfl
  rw [e0] at h
  exact h
theorem one_am {p : Pat} {L M : Int} (h : 0 < leastP p) (ha : anyP p M.toNat = false) : (L < mostP p → AmRes p L M 6) ∧ (¬ L < mostP p → AmRes p L M 0) :=
  ⟨fun hl => .inr (.inl ⟨no_empty h _, hl, rfl⟩), fun hl => .inr (.inr (.inr ⟨no_empty h _, hl, ha, rfl⟩))⟩
theorem nil_ck {L Q C : Int} {R : Nat} {M : Int} {V : Ck} (hV : CkRes ByteArray.empty L Q C R M V) : (¬ CfgOk L Q C R ∧ V = .arg) ∨ (CfgOk L Q C R ∧ V = .ok []) := by
  by_cases hc : CfgOk L Q C R
  · exact .inr ⟨hc, hV.det (V' := .ok []) ⟨hc, [], nil_res, .done⟩⟩
  · exact .inl ⟨hc, hV.det (V' := .arg) hc⟩
end Go.Proofs.YtgjcibhhffkemaaGreatDoor.Ve
namespace Go.Proofs.YtgjcibhhffkemaaGreatDoor.Ve
open Go.RowKit Bt Fl
theorem leastA_zero {l : List Pat} (h : leastA l = 0) : ∃ p ∈ l, leastP p = 0 := by
  induction l with
  | nil => rw [leastA] at h; omega
  | cons p l ih =>
    rw [leastA] at h
    by_cases hp : leastP p = 0
    · exact ⟨p, by simp, hp⟩
    · obtain ⟨q, hq, h0⟩ := ih (by omega)
      exact ⟨q, by simp [hq], h0⟩
theorem mtA_of (b : Nat → Nat) (n : Nat) {l : List Pat} {p : Pat} (hp : p ∈ l) {j i : Nat} (h : Mt b n p j i) : MtA b n l j i := by
  induction l with
  | nil => cases hp
  | cons q l ih =>
    rw [MtA]
    rcases List.mem_cons.1 hp with rfl | hp
    · exact .inl h
    · exact .inr (ih hp)
theorem mtC_of (b : Nat → Nat) (n : Nat) {l : List Pat} {j : Nat} (h : ∀ p ∈ l, Mt b n p j j) : MtC b n l j j := by
  induction l with
  | nil => rw [MtC]
  | cons q l ih => rw [MtC]; exact ⟨j, h q (by simp), ih (fun p hp => h p (by simp [hp]))⟩
theorem it_same {R : Nat → Nat → Prop} {j : Nat} (h : R j j) (t : Nat) : It R t j j := by
  induction t with
  | zero => rw [It]
  | succ t ih => rw [It]; exact ⟨j, ih, h⟩
theorem leastC_mem {p : Pat} : ∀ l : List Pat, p ∈ l → leastP p ≤ leastC l
  | [], h => by cases h
  | q :: l, h => by
    rw [leastC]
    rcases List.mem_cons.1 h with rfl | h
    · omega
    · have := leastC_mem l h; omega
theorem least_zero (b : Nat → Nat) (n : Nat) (p : Pat) : Wf p → leastP p = 0 → ∀ j, Mt b n p j j := by
  refine Pat.ind (M := fun p => Wf p → leastP p = 0 → ∀ j, Mt b n p j j) ?_ ?_ ?_ ?_ p
  · intro f _ h; rw [leastP] at h; omega
  · intro l ih hw h j
    cases hw with | cat _ hw _ _ =>
    rw [leastP] at h
    rw [Mt]
    exact mtC_of b n (fun p hp => ih p hp (hw p hp) (by have := leastC_mem l hp; omega) j)
  · intro l ih hw h j
    cases hw with | alt _ hw _ _ =>
    rw [leastP] at h
    obtain ⟨p, hp, h0⟩ := leastA_zero (l := l) (by omega)
    rw [Mt]
    exact mtA_of b n hp (ih p hp (hw p hp) h0 j)
  · intro mn mx p ih hw h j
    cases hw with | rep _ _ _ hw h1 _ _ =>
    rw [leastP] at h
    rw [Mt]
    have h0 : mn * leastP p = 0 := by omega
    rcases Nat.mul_eq_zero.1 h0 with h2 | h2
    · subst h2; exact ⟨0, Nat.le_refl _, Nat.zero_le _, by rw [It]⟩
    · exact ⟨mn, Nat.le_refl _, h1, it_same (ih hw h2 j) mn⟩
def Sure (p : Pat) (L M : Int) : Prop := Wf p ∧ ¬ Mt (byt []) 0 p 0 0 ∧ ¬ L < mostP p ∧ anyP p M.toNat = false
theorem vd_sure {L M : Int} {l : List Ru.Rl} {i : Nat} {out : List (Pat × Bool)} {R} (h : Vd L M l i out R) : ∀ o, R = .inl o → (∀ x ∈ out, Sure x.1 L M) → ∀ x ∈ o, Sure x.1 L M := by
  induction h with
  | done => intro o e h; cases e; exact h
  | bad => intro o e; cases e
  | amiss => intro o e; cases e
  | next h h1 h2 h3 ih =>
    intro o e hs
    refine ih o e (fun x hx => ?_)
    rcases List.mem_append.1 hx with hx | hx
    · exact hs x hx
    · rw [List.mem_singleton] at hx
      subst hx
      rcases h2 with ⟨_, h⟩ | ⟨_, _, h⟩ | ⟨_, _, _, h⟩ | ⟨a, b, c, _⟩
      · cases h
      · cases h
      · cases h
      · exact ⟨h1, a, b, c⟩
theorem Sure.least {p : Pat} {L M : Int} (h : Sure p L M) : 1 ≤ leastP p := by
  rcases Nat.eq_zero_or_pos (leastP p) with h0 | h0
  · exact absurd (least_zero (byt []) 0 p h.1 h0 0) h.2.1
  · exact h0
theorem Sure.word {p : Pat} {L M : Int} (h : Sure p L M) (xs : List Int) (hx : ∀ j, 0 ≤ xs.getD j 0) (hM : 0 ≤ M) (hl : xs.length ≤ 40) (hm : Mt (byt xs) xs.length p 0 xs.length) : ¬ L < (xs.length : Int) ∧ ∀ j, j < xs.length → xs.getD j 0 ≠ M := by
  refine ⟨?_, fun j hj e => ?_⟩
  · have h1 := (mt_len _ _ p 0 _ hm).2.2
    have := h.2.2.1
    omega
  · have h1 := mt_any _ _ p 0 _ hm j (Nat.zero_le _) hj
    unfold byt at h1
    rw [e, h.2.2.2] at h1
    cases h1
def onS : ByteArray := ⟨#[97, 32, 97, 98, 32, 108, 117, 104, 110]⟩
def offS : ByteArray := ⟨#[97, 32, 97, 63, 32, 112, 108, 97, 105, 110]⟩
def onB : ByteArray := { data := #[97, 98] }
def offB : ByteArray := { data := #[97, 63] }
def onR : Ru.Rl := ⟨{ data := #[97] }, onB, true⟩
def offR : Ru.Rl := ⟨{ data := #[97] }, offB, false⟩
def onP : Pat := .cat [oneAt onB 0, oneAt onB 1]
def offP : Pat := .rep 0 1 (oneAt offB 0)
theorem on_read : P onB .pat 0 0 (.ok onP.tree 2) :=
  .patOk (.partOk (one_piece (by decide) (q := 1) (by rfl) (by decide) (by decide))
    (part_step (by decide) (one_piece (by decide) (q := 2) (by rfl) (by decide) (by decide)) (part_stop (by decide)))) (.patEnd (by decide))
theorem off_read : P offB .pat 0 0 (.ok offP.tree 2) :=
  pat_one (.pieceOk (show P offB .atom 0 0 (.ok (oneAt offB 0).tree 1) from (show atomF offB 0 = .ok (oneAt offB 0).tree 1 by rfl) ▸ .plain (by decide)) (.opt (by decide) (.pieceEnd (by decide) (by decide)))) (by decide)
theorem on_wf : Wf onP := .cat _ (by
  simp only [List.mem_cons, List.not_mem_nil, or_false]
  rintro p (rfl | rfl) <;> exact wf_one _ _) (by simp) (by simp)
theorem off_wf : Wf offP := .rep _ _ _ (wf_one _ _) (by decide) (by decide) (by decide)
theorem on_rule : Ru.RuleIs onS onR := ⟨1, 4, Ru.fst_by (by kernel_rfl) (by kernel_rfl), Ru.lst_by (by decide) (by kernel_rfl) (by kernel_rfl), 1, 4, rfl, rfl, by decide, by decide, by kernel_rfl, by kernel_rfl, Ru.nm_by (by kernel_rfl), .inl ⟨rfl, by kernel_rfl⟩⟩
theorem off_rule : Ru.RuleIs offS offR := ⟨1, 4, Ru.fst_by (by kernel_rfl) (by kernel_rfl), Ru.lst_by (by decide) (by kernel_rfl) (by kernel_rfl), 1, 4, rfl, rfl, by decide, by decide, by kernel_rfl, by kernel_rfl, Ru.nm_by (by kernel_rfl), .inr ⟨rfl, by kernel_rfl⟩⟩
theorem one_res {s : ByteArray} {r : Ru.Rl} (h : s.size ≤ 4000) (hb : (decide (s.size ≠ 0 ∧ Ru.ch s 0 ≠ 35)) = true) (hr : Ru.RuleIs s r) (hn : (List.range s.size).all (fun j => decide (j < 0 ∨ Ru.ch s j ≠ 10)) = true) : Ru.RuRes s (.ok [r]) := by
  refine .inr ⟨h, [s], ?_, .next (not_blank hb) hr (by simp) (by simp) .done⟩
  have h1 := Ru.last_by (s := s) (p := 0) (Nat.zero_le _) hn
  rw [Ru.ext_all] at h1
  exact h1
theorem on_res : Ru.RuRes onS (.ok [onR]) := one_res (by decide) (by kernel_rfl) on_rule (by kernel_rfl)
theorem off_res : Ru.RuRes offS (.ok [offR]) := one_res (by decide) (by kernel_rfl) off_rule (by kernel_rfl)
theorem on_most : mostP onP = 2 ∧ leastP onP = 2 := ⟨by rfl, by rfl⟩
theorem on_any : anyP onP 42 = false := by kernel_rfl
theorem off_empty : Mt (byt []) 0 offP 0 0 := by unfold offP; rw [Mt]; exact ⟨0, Nat.le_refl _, by omega, by rw [It]⟩
theorem up_cfg : CfgOk 4 8 9 4607182418800017408 ∧ flo 4607182418800017408 = 1 := ⟨⟨by decide, by decide, by kernel_rfl, by rw [show flo 4607182418800017408 = 1 from by kernel_rfl]; decide, by decide, by decide, by decide⟩, by kernel_rfl⟩
theorem on_ck {V : Ck} (h : CkRes onS 4 8 9 4607182418800017408 42 V) : V = .ok [(onP, true)] :=
  h.det (V' := .ok [(onP, true)]) ⟨up_cfg.1, _, on_res, .next (p := onP) (q := 2) (.inr ⟨by decide, on_read⟩) on_wf ((one_am (by rw [on_most.2]; omega) on_any).2 (by rw [on_most.1]; omega)) .done⟩
theorem off_ck {V : Ck} (h : CkRes offS 4 8 9 4607182418800017408 42 V) : V = .no 5 0 :=
  h.det (V' := .no 5 0) ⟨up_cfg.1, .inr ⟨_, off_res, .amiss (p := offP) (q := 2) (.inr ⟨by decide, off_read⟩) off_wf (.inl ⟨off_empty, rfl⟩) (by decide)⟩⟩
theorem nil_ck2 {V : Ck} (h : CkRes ByteArray.empty 4 8 9 4607182418800017408 42 V) : V = .ok [] := by
  rcases nil_ck h with ⟨h1, _⟩ | ⟨_, h1⟩
  · exact absurd up_cfg.1 h1
  · exact h1
end Go.Proofs.YtgjcibhhffkemaaGreatDoor.Ve
namespace Go.Proofs.YtgjcibhhffkemaaGreatDoor.Ve
open Go.RowKit Bt Fl
set_option maxRecDepth 100000 in
set_option maxHeartbeats 1600000 in
theorem up15_any (w : World) (he : ErrAt w) : Calls Tryz.prog 6 #[] w fun e w' => e = .returned (.bool true) ∧ Below w.heap.size w w' := by
  have HE := Lib.hid he
  have HA : Hid (∀ w, ErrAt w → Calls Tryz.prog 7 #[.string ByteArray.empty, cfgV 4 8 9 4607182418800017408 42] w fun e w' => Below w.heap.size w w' ∧ ∃ a c, e = .returned (.tuple #[.slice a 0 c, .int .i64 1, .nilIface])) := Lib.hid (fun w he => (ckX _ 4 8 9 4607182418800017408 42 (by decide) (by decide) (by decide) (by decide) w he).mono (by
    rintro e w' ⟨hb, V, hV, h⟩
    obtain rfl := nil_ck2 hV
    obtain ⟨v, rfl, hv⟩ := h
    obtain ⟨a, c, rfl⟩ := hv.form
    rw [up_cfg.2]
    exact ⟨hb, a, c, rfl⟩))
  have HB : Hid (∀ w, ErrAt w → Calls Tryz.prog 7 #[.string onS, cfgV 4 8 9 4607182418800017408 42] w fun e w' => Below w.heap.size w w' ∧ ∃ a c, e = .returned (.tuple #[.slice a 1 c, .int .i64 1, .nilIface])) := Lib.hid (fun w he => (ckX _ 4 8 9 4607182418800017408 42 (by decide) (by decide) (by decide) (by decide) w he).mono (by
    rintro e w' ⟨hb, V, hV, h⟩
    obtain rfl := on_ck hV
    obtain ⟨v, rfl, hv⟩ := h
    obtain ⟨a, c, rfl⟩ := hv.form
    rw [up_cfg.2]
    exact ⟨hb, a, c, rfl⟩))
  have HC : Hid (∀ w, ErrAt w → Calls Tryz.prog 7 #[.string offS, cfgV 4 8 9 4607182418800017408 42] w fun e w' => Below w.heap.size w w' ∧ ∃ b, e = .returned (.tuple #[.slice none 0 0, .int .i64 0, spotV b]) ∧ AtG w' b 73 #[.int .i64 0, .int .i64 5]) := Lib.hid (fun w he => (ckX _ 4 8 9 4607182418800017408 42 (by decide) (by decide) (by decide) (by decide) w he).mono (by
    rintro e w' ⟨hb, V, hV, h⟩
    obtain rfl := off_ck hV
    exact ⟨hb, h⟩))
  have g1 : ∀ w, (binOp BinOp.eql 28 .nilIface .nilIface).run Tryz.prog w = .ok (.bool true) w := fun w => by rfl
  clear he
  unfold cfgV at HA HB HC
  unfold spotV at HC
  go_enter Tryz.func6, Tryz.ntmps6
  go_upto_region 2 with (fail)
  refine (show ∀ W : World, W = w.alloc (.cells (cfgC 4 8 9 4607182418800017408 42) 24) → _ from fun W hW => ?_) _ rfl
  have HCF : Hid (AtG W w.heap.size 24 (cfgC 4 8 9 4607182418800017408 42)) := Lib.hid (by rw [hW]; exact AtG.new _ _ _)
  have HBW : Hid (Below w.heap.size w W) := Lib.hid (by rw [hW]; go_grown)
  clear hW
  have c0 : W.cell? ⟨w.heap.size, 0, none⟩ = some (.int .i64 4) := HCF.out.cell 0 _ rfl
  have c1 : W.cell? ⟨w.heap.size, 1, none⟩ = some (.int .i64 8) := HCF.out.cell 1 _ rfl
  have c2 : W.cell? ⟨w.heap.size, 2, none⟩ = some (.int .i64 9) := HCF.out.cell 2 _ rfl
  have c3 : W.cell? ⟨w.heap.size, 3, none⟩ = some (.int .u64 4607182418800017408) := HCF.out.cell 3 _ rfl
  have c4 : W.cell? ⟨w.heap.size, 4, none⟩ = some (.int .u8 42) := HCF.out.cell 4 _ rfl
  go_wp2_with fail
  refine (HA.out _ (HE.out.below HBW.out)).mono ?_
  rintro e9 w1 ⟨hb1, a1, n1, rfl⟩
  have HC1 := Lib.hid (HCF.out.below hb1); have HB1 := Lib.hid (HBW.out.trans (hb1.mono HBW.out.size))
  clear c0 c1 c2 c3 c4 hb1 HCF HBW HA
  have c0 : w1.cell? ⟨w.heap.size, 0, none⟩ = some (.int .i64 4) := HC1.out.cell 0 _ rfl
  have c1 : w1.cell? ⟨w.heap.size, 1, none⟩ = some (.int .i64 8) := HC1.out.cell 1 _ rfl
  have c2 : w1.cell? ⟨w.heap.size, 2, none⟩ = some (.int .i64 9) := HC1.out.cell 2 _ rfl
  have c3 : w1.cell? ⟨w.heap.size, 3, none⟩ = some (.int .u64 4607182418800017408) := HC1.out.cell 3 _ rfl
  have c4 : w1.cell? ⟨w.heap.size, 4, none⟩ = some (.int .u8 42) := HC1.out.cell 4 _ rfl
  go_wp2_with fail
  refine (HB.out _ (HE.out.below HB1.out)).mono ?_
  rintro e9 w2 ⟨hb2, a2, n2, rfl⟩
  have HC2 := Lib.hid (HC1.out.below hb2); have HB2 := Lib.hid (HB1.out.trans (hb2.mono HB1.out.size))
  clear c0 c1 c2 c3 c4 hb2 HC1 HB1 HB
  have c0 : w2.cell? ⟨w.heap.size, 0, none⟩ = some (.int .i64 4) := HC2.out.cell 0 _ rfl
  have c1 : w2.cell? ⟨w.heap.size, 1, none⟩ = some (.int .i64 8) := HC2.out.cell 1 _ rfl
  have c2 : w2.cell? ⟨w.heap.size, 2, none⟩ = some (.int .i64 9) := HC2.out.cell 2 _ rfl
  have c3 : w2.cell? ⟨w.heap.size, 3, none⟩ = some (.int .u64 4607182418800017408) := HC2.out.cell 3 _ rfl
  have c4 : w2.cell? ⟨w.heap.size, 4, none⟩ = some (.int .u8 42) := HC2.out.cell 4 _ rfl
  go_wp2_with fail
  refine (HC.out _ (HE.out.below HB2.out)).mono ?_
  rintro e9 w3 ⟨hb3, b, rfl, hx⟩
  have HB3 := Lib.hid (HB2.out.trans (hb3.mono HB2.out.size))
  have HSP := Lib.hid (Ru.spot_some b 0 5 w3 hx)
  unfold Ru.spotV at HSP
  clear c0 c1 c2 c3 c4 hb3 hx HC2 HB2 HC
  go_wp2_with fail
  refine (HSP.out).mono ?_
  rintro e9 w4 ⟨rfl, hb4⟩
  have HB4 := Lib.hid (HB3.out.trans (hb4.mono HB3.out.size))
  clear hb4 HB3 HSP
  go_wp2_with fail
  go_returns
  exact ⟨rfl, HB4.out⟩
end Go.Proofs.YtgjcibhhffkemaaGreatDoor.Ve
namespace Go.Proofs.YtgjcibhhffkemaaGreatDoor
open Go.RowKit Bt
mutual
/-- how many places a pattern has (up to 1000) -/
def placesP : Pat → Nat
  | .one _ => 1
  | .cat l => min (placesL l) 1000
  | .alt l => min (placesL l) 1000
  | .rep _ mx p => min (placesP p * mx) 1000
def placesL : List Pat → Nat
  | [] => 0
  | p :: l => placesP p + placesL l
end
theorem placesP_le (p : Pat) : placesP p ≤ 1000 := by cases p <;> rw [placesP] <;> omega
theorem placesL_le (l : List Pat) : placesL l ≤ l.length * 1000 := by
  induction l with
  | nil => simp [placesL]
  | cons p l ih => rw [placesL, List.length_cons]; have := placesP_le p; omega
theorem placesL_snoc (l : List Pat) (k : Nat) (h : k < l.length) : placesL (l.take (k + 1)) = placesL (l.take k) + placesP l[k] := by
  have key : ∀ (a b : List Pat), placesL (a ++ b) = placesL a + placesL b := fun a b => by
    induction a with
    | nil => simp [placesL]
    | cons p a ih => rw [List.cons_append, placesL, placesL, ih]; omega
  rw [List.take_succ_eq_append_getElem h, key, placesL, placesL]; omega
def PlacesC (p : Pat) : Prop := ∀ (w : World) (a : Option Addr) (n c : Nat), NAt w p.tree (.slice a n c) → Calls Tryz.prog 20 #[nodeV p.tree (.slice a n c)] w fun e w' => e = .returned (.int .i64 (placesP p : Int)) ∧ Below w.heap.size w w'
set_option maxRecDepth 100000 in
set_option maxHeartbeats 1600000 in
theorem places_node (op : Int) (f : Nat → Bool) (mn : Int) (mx : Nat) (ps : List Pat) (h1000 : mx ≤ 1000) (hl : ps.length ≤ 1000) (ih : ∀ p ∈ ps, PlacesC p) (w : World) (a : Option Addr) (c : Nat) (h : NAt w (.node op f mn (mx : Int) (Pat.trees ps)) (.slice a ps.length c))
    (k0 : Nat) (hk0 : k0 = if op = 1 then 1 else 0) (k1 : Nat) (hk1 : k1 = if op = 4 then mx else 1) :
    Calls Tryz.prog 20 #[.agg #[.int .i64 op, .int .u64 ((wd f 0 : Nat) : Int), .int .u64 ((wd f 1 : Nat) : Int), .int .u64 ((wd f 2 : Nat) : Int), .int .u64 ((wd f 3 : Nat) : Int), .int .i64 mn, .int .i64 (mx : Int), .slice a ps.length c]] w fun e w' => e = .returned (.int .i64 (min (((k0 + placesL ps) * k1 : Nat) : Int) 1000)) ∧ Below w.heap.size w w' := by
  obtain ⟨w0, hw0⟩ : ∃ w0 : World, w0 = w.alloc (.cells (nodeC op f mn (mx : Int) (.slice a ps.length c)) 41) := ⟨_, rfl⟩
  have H := Lib.hid h
  have HA : Hid (AtG w0 w.heap.size 41 (nodeC op f mn (mx : Int) (.slice a ps.length c))) := Lib.hid (by rw [hw0]; exact AtG.new _ _ _)
  have HB0 : Hid (Below w.heap.size w w0) := Lib.hid (by rw [hw0]; go_grown)
  have hlI : (ps.length : Int) ≤ 1000 := by omega
  have hw0' : w.alloc (.cells #[.int .i64 op, .int .u64 ((wd f 0 : Nat) : Int), .int .u64 ((wd f 1 : Nat) : Int), .int .u64 ((wd f 2 : Nat) : Int), .int .u64 ((wd f 3 : Nat) : Int), .int .i64 mn, .int .i64 (mx : Int), .slice a ps.length c] 41) = w0 := hw0.symm
  have m0 : w0.cell? ⟨w.heap.size, 0, none⟩ = some (.int .i64 op) := HA.out.cell 0 _ rfl
  have m7 : w0.cell? ⟨w.heap.size, 7, none⟩ = some (.slice a ps.length c) := HA.out.cell 7 _ rfl
  have hY := placesL_le ps
  have hk0' : k0 ≤ 1 := by rw [hk0]; split <;> omega
  have hmxI : (mx : Int) ≤ 1000 := by omega
  have hmul : ((k0 : Int) + (placesL ps : Int)) * (mx : Int) ≤ 2000000000 := by
    have : (k0 + placesL ps) * mx ≤ 1000001 * 1000 := Nat.mul_le_mul (by omega) h1000
    have h3 : (((k0 + placesL ps) * mx : Nat) : Int) ≤ 2000000000 := by omega
    rwa [Int.natCast_mul, Int.natCast_add] at h3
  have hmul0 : 0 ≤ ((k0 : Int) + (placesL ps : Int)) * (mx : Int) := Int.mul_nonneg (by omega) (by omega)
  have HMUL := Lib.hid hmul; have HMUL0 := Lib.hid hmul0
  have HK0 := Lib.hid hk0; have HK1 := Lib.hid hk1
  clear h hw0 hmul hmul0
  clear hk0 hk1 hk0'
  by_cases e1 : op = 1
  · subst e1
    have hk0 : k0 = 1 := by rw [HK0.out]; rfl
    have hk1 : k1 = 1 := by rw [HK1.out]; rfl
    subst hk0; subst hk1
    clear HK0 HK1
    go_enter Tryz.func20, Tryz.ntmps20
    go_wp2_with fail
    go_loopw [3, 4] (fun t i wr => ∃ k : Nat, k ≤ ps.length ∧ i = .int .i64 k ∧ t = .int .i64 (((1) : Nat) + (placesL (ps.take k) : Int)) ∧ AtG wr w.heap.size 41 (nodeC _ f mn _ (.slice a ps.length c)) ∧ Below w.heap.size w wr) (fun _ i _ => ps.length - (intOf i).toNat)
    case atStart => exact ⟨0, Nat.zero_le _, rfl, by simp [placesL], HA.out, HB0.out⟩
    case round =>
      clear hw0' m0 m7 HA HB0
      obtain ⟨k, hk, rfl, rfl, ha, hb⟩ := hrel
      have HA := Lib.hid ha; have HB := Lib.hid hb
      have r0 := ha.cell 0 _ rfl
      have r6 := ha.cell 6 _ rfl
      have r7 := ha.cell 7 _ rfl
      clear ha hb
      by_cases hlt : k < ps.length
      · obtain ⟨b, off, cap, heq, hcap, op', f', mn', mx', kids', ka, kc, ht, hc8, hkn⟩ := kid_at H.out (trees_get hlt)
        injection heq with e1 e2 e3
        subst e1; subst e3
        clear e2
        rw [trees_len] at hcap
        have hI := ih ps[k] (List.getElem_mem hlt)
        unfold PlacesC at hI
        rw [ht] at hI hkn
        have hI2 := fun w h => hI w ka kids'.length kc h
        unfold nodeV at hI2
        have hS := placesL_snoc ps k hlt
        have hB1 := placesL_le (ps.take k)
        have hB2 := placesP_le ps[k]
        have htk : (ps.take k).length ≤ 1000 := by simp; omega
        generalize placesP ps[k] = m at *
        generalize hq : placesL (ps.take k) = q at *
        have HS := Lib.hid hS; have HI := Lib.hid hI2; have HKN := Lib.hid hkn
        obtain ⟨kn, hkl⟩ : ∃ kn, kn = kids'.length := ⟨_, rfl⟩
        rw [← hkl] at HKN HI hc8
        obtain ⟨c0, c1, c2, c3, c4, c5, c6, c7⟩ := Cell8.below hc8 HB.out
        have hm1 : (m : Int) ≤ 1000 := by omega
        have hq1 : (q : Int) ≤ 1000000 := by omega
        clear hS hI hI2 hkn ht hkl hc8 hB1 hB2 htk hq
        go_wp2_with fail
        refine (HI.out _ (NAt.below HKN.out HB.out)).mono ?_
        rintro e9 w9 ⟨rfl, hb9⟩
        have HA9 := Lib.hid (HA.out.below hb9); have HB9 := Lib.hid (HB.out.trans (hb9.mono HB.out.size))
        clear hb9
        go_wp2_with fail
        exact ⟨⟨k + 1, by omega, by go_num, by rw [HS.out]; congr 1; omega, HA9.out, HB9.out⟩, by simp [intOf]; omega⟩
      · have hke : k = ps.length := by omega
        subst hke
        rw [List.take_length]
        have hbd : (placesL ps : Int) ≤ 1000000 := by omega
        have hbd0 : 0 ≤ (placesL ps : Int) := by omega
        have HBD := Lib.hid hbd
        obtain ⟨z, hz⟩ : ∃ z : Int, z = (placesL ps : Int) := ⟨_, rfl⟩
        rw [← hz] at hbd hbd0 ⊢
        have HZ := Lib.hid hz
        clear hz hY
        skip
        go_wp2_with fail
        all_goals (go_returns; exact ⟨by refine congrArg (fun z => Ending.returned (Value.int .i64 z)) ?_; have hz := HZ.out; push_cast; rw [← hz]; omega, HB.out⟩)
  have n1 : (op == 1) = false := by rw [beq_eq_false_iff_ne]; exact e1
  have hk0 : k0 = 0 := by rw [HK0.out, if_neg e1]
  subst hk0
  by_cases e4 : op = 4
  · subst e4
    have hk1 : k1 = mx := by rw [HK1.out]; rfl
    subst hk1
    clear HK0 HK1
    go_enter Tryz.func20, Tryz.ntmps20
    have HM1 : Hid ((placesL ps : Int) * (k1 : Int) ≤ 2000000000) := Lib.hid (by have h9 := HMUL.out; rw [show (((0 : Nat) : Int) + (placesL ps : Int)) = (placesL ps : Int) from by omega] at h9; exact h9)
    have HM2 : Hid (0 ≤ (placesL ps : Int) * (k1 : Int)) := Lib.hid (by have h9 := HMUL0.out; rw [show (((0 : Nat) : Int) + (placesL ps : Int)) = (placesL ps : Int) from by omega] at h9; exact h9)
    go_wp2_with fail
    go_loopw [3, 4] (fun t i wr => ∃ k : Nat, k ≤ ps.length ∧ i = .int .i64 k ∧ t = .int .i64 (((0) : Nat) + (placesL (ps.take k) : Int)) ∧ AtG wr w.heap.size 41 (nodeC _ f mn _ (.slice a ps.length c)) ∧ Below w.heap.size w wr) (fun _ i _ => ps.length - (intOf i).toNat)
    case atStart => exact ⟨0, Nat.zero_le _, rfl, by simp [placesL], HA.out, HB0.out⟩
    case round =>
      clear hw0' m0 m7 HA HB0
      obtain ⟨k, hk, rfl, rfl, ha, hb⟩ := hrel
      have HA := Lib.hid ha; have HB := Lib.hid hb
      have r0 := ha.cell 0 _ rfl
      have r6 := ha.cell 6 _ rfl
      have r7 := ha.cell 7 _ rfl
      clear ha hb
      by_cases hlt : k < ps.length
      · obtain ⟨b, off, cap, heq, hcap, op', f', mn', mx', kids', ka, kc, ht, hc8, hkn⟩ := kid_at H.out (trees_get hlt)
        injection heq with e1 e2 e3
        subst e1; subst e3
        clear e2
        rw [trees_len] at hcap
        have hI := ih ps[k] (List.getElem_mem hlt)
        unfold PlacesC at hI
        rw [ht] at hI hkn
        have hI2 := fun w h => hI w ka kids'.length kc h
        unfold nodeV at hI2
        have hS := placesL_snoc ps k hlt
        have hB1 := placesL_le (ps.take k)
        have hB2 := placesP_le ps[k]
        have htk : (ps.take k).length ≤ 1000 := by simp; omega
        generalize placesP ps[k] = m at *
        generalize hq : placesL (ps.take k) = q at *
        have HS := Lib.hid hS; have HI := Lib.hid hI2; have HKN := Lib.hid hkn
        obtain ⟨kn, hkl⟩ : ∃ kn, kn = kids'.length := ⟨_, rfl⟩
        rw [← hkl] at HKN HI hc8
        obtain ⟨c0, c1, c2, c3, c4, c5, c6, c7⟩ := Cell8.below hc8 HB.out
        have hm1 : (m : Int) ≤ 1000 := by omega
        have hq1 : (q : Int) ≤ 1000000 := by omega
        clear hS hI hI2 hkn ht hkl hc8 hB1 hB2 htk hq
        go_wp2_with fail
        refine (HI.out _ (NAt.below HKN.out HB.out)).mono ?_
        rintro e9 w9 ⟨rfl, hb9⟩
        have HA9 := Lib.hid (HA.out.below hb9); have HB9 := Lib.hid (HB.out.trans (hb9.mono HB.out.size))
        clear hb9
        go_wp2_with fail
        exact ⟨⟨k + 1, by omega, by go_num, by rw [HS.out]; congr 1; omega, HA9.out, HB9.out⟩, by simp [intOf]; omega⟩
      · have hke : k = ps.length := by omega
        subst hke
        rw [List.take_length]
        have hbd : (placesL ps : Int) ≤ 1000000 := by omega
        have hbd0 : 0 ≤ (placesL ps : Int) := by omega
        have HBD := Lib.hid hbd
        obtain ⟨z, hz⟩ : ∃ z : Int, z = (placesL ps : Int) := ⟨_, rfl⟩
        rw [← hz] at hbd hbd0 ⊢
        have HZ := Lib.hid hz
        clear hz hY
        have hmu := HM1.out; have hmu0 := HM2.out; rw [← HZ.out] at hmu hmu0
        go_wp2_with fail
        all_goals (go_returns; exact ⟨by refine congrArg (fun z => Ending.returned (Value.int .i64 z)) ?_; have hz := HZ.out; push_cast; rw [← hz]; omega, HB.out⟩)
  · have n4 : (op == 4) = false := by rw [beq_eq_false_iff_ne]; exact e4
    have hk1 : k1 = 1 := by rw [HK1.out, if_neg e4]
    subst hk1
    clear HK0 HK1
    go_enter Tryz.func20, Tryz.ntmps20
    go_wp2_with fail
    go_loopw [3, 4] (fun t i wr => ∃ k : Nat, k ≤ ps.length ∧ i = .int .i64 k ∧ t = .int .i64 (((0) : Nat) + (placesL (ps.take k) : Int)) ∧ AtG wr w.heap.size 41 (nodeC _ f mn _ (.slice a ps.length c)) ∧ Below w.heap.size w wr) (fun _ i _ => ps.length - (intOf i).toNat)
    case atStart => exact ⟨0, Nat.zero_le _, rfl, by simp [placesL], HA.out, HB0.out⟩
    case round =>
      clear hw0' m0 m7 HA HB0
      obtain ⟨k, hk, rfl, rfl, ha, hb⟩ := hrel
      have HA := Lib.hid ha; have HB := Lib.hid hb
      have r0 := ha.cell 0 _ rfl
      have r6 := ha.cell 6 _ rfl
      have r7 := ha.cell 7 _ rfl
      clear ha hb
      by_cases hlt : k < ps.length
      · obtain ⟨b, off, cap, heq, hcap, op', f', mn', mx', kids', ka, kc, ht, hc8, hkn⟩ := kid_at H.out (trees_get hlt)
        injection heq with e1 e2 e3
        subst e1; subst e3
        clear e2
        rw [trees_len] at hcap
        have hI := ih ps[k] (List.getElem_mem hlt)
        unfold PlacesC at hI
        rw [ht] at hI hkn
        have hI2 := fun w h => hI w ka kids'.length kc h
        unfold nodeV at hI2
        have hS := placesL_snoc ps k hlt
        have hB1 := placesL_le (ps.take k)
        have hB2 := placesP_le ps[k]
        have htk : (ps.take k).length ≤ 1000 := by simp; omega
        generalize placesP ps[k] = m at *
        generalize hq : placesL (ps.take k) = q at *
        have HS := Lib.hid hS; have HI := Lib.hid hI2; have HKN := Lib.hid hkn
        obtain ⟨kn, hkl⟩ : ∃ kn, kn = kids'.length := ⟨_, rfl⟩
        rw [← hkl] at HKN HI hc8
        obtain ⟨c0, c1, c2, c3, c4, c5, c6, c7⟩ := Cell8.below hc8 HB.out
        have hm1 : (m : Int) ≤ 1000 := by omega
        have hq1 : (q : Int) ≤ 1000000 := by omega
        clear hS hI hI2 hkn ht hkl hc8 hB1 hB2 htk hq
        go_wp2_with fail
        refine (HI.out _ (NAt.below HKN.out HB.out)).mono ?_
        rintro e9 w9 ⟨rfl, hb9⟩
        have HA9 := Lib.hid (HA.out.below hb9); have HB9 := Lib.hid (HB.out.trans (hb9.mono HB.out.size))
        clear hb9
        go_wp2_with fail
        exact ⟨⟨k + 1, by omega, by go_num, by rw [HS.out]; congr 1; omega, HA9.out, HB9.out⟩, by simp [intOf]; omega⟩
      · have hke : k = ps.length := by omega
        subst hke
        rw [List.take_length]
        have hbd : (placesL ps : Int) ≤ 1000000 := by omega
        have hbd0 : 0 ≤ (placesL ps : Int) := by omega
        have HBD := Lib.hid hbd
        obtain ⟨z, hz⟩ : ∃ z : Int, z = (placesL ps : Int) := ⟨_, rfl⟩
        rw [← hz] at hbd hbd0 ⊢
        have HZ := Lib.hid hz
        clear hz hY
        skip
        go_wp2_with fail
        all_goals (go_returns; exact ⟨by refine congrArg (fun z => Ending.returned (Value.int .i64 z)) ?_; have hz := HZ.out; push_cast; rw [← hz]; omega, HB.out⟩)
theorem places_any (p : Pat) : Wf p → PlacesC p := by
  refine Pat.ind (M := fun p => Wf p → PlacesC p) ?_ ?_ ?_ ?_ p
  · intro f _ w a n c h
    obtain rfl : n = 0 := by
      obtain ⟨a', c', hn⟩ := KAt.slice h
      injection hn with _ hn _
    have := places_node 1 f 0 0 [] (by omega) (by simp) (by simp) w a c h 1 rfl 1 rfl
    rw [show (min (((1 + placesL []) * 1 : Nat) : Int) 1000) = (placesP (.one f) : Int) from by rw [placesL, placesP]; omega] at this
    exact this
  · intro l ih hw w a n c h
    cases hw with | cat _ h1 h2 h3 =>
    obtain rfl : n = l.length := by
      obtain ⟨a', c', hn⟩ := KAt.slice h
      injection hn with _ hn _
      rw [trees_len] at hn; exact hn
    have := places_node 2 emp 0 0 l (by omega) h3 (fun p hp => ih p hp (h1 p hp)) w a c h 0 rfl 1 rfl
    rw [show (min (((0 + placesL l) * 1 : Nat) : Int) 1000) = (placesP (.cat l) : Int) from by rw [placesP]; omega] at this
    exact this
  · intro l ih hw w a n c h
    cases hw with | alt _ h1 h2 h3 =>
    obtain rfl : n = l.length := by
      obtain ⟨a', c', hn⟩ := KAt.slice h
      injection hn with _ hn _
      rw [trees_len] at hn; exact hn
    have := places_node 3 emp 0 0 l (by omega) h3 (fun p hp => ih p hp (h1 p hp)) w a c h 0 rfl 1 rfl
    rw [show (min (((0 + placesL l) * 1 : Nat) : Int) 1000) = (placesP (.alt l) : Int) from by rw [placesP]; omega] at this
    exact this
  · intro mn mx p ih hw w a n c h
    cases hw with | rep _ _ _ h1 h2 h3 h4 =>
    obtain rfl : n = 1 := by
      obtain ⟨a', c', hn⟩ := KAt.slice h
      injection hn with _ hn _
    have := places_node 4 emp (mn : Int) mx [p] (by omega) (by simp) (fun q hq => by simp at hq; subst hq; exact ih h1) w a c h 0 rfl mx rfl
    rw [show (min (((0 + placesL [p]) * mx : Nat) : Int) 1000) = (placesP (.rep mn mx p) : Int) from by rw [placesL, placesL, placesP]; simp only [Nat.zero_add, Nat.add_zero]; omega] at this
    exact this
end Go.Proofs.YtgjcibhhffkemaaGreatDoor
namespace Go.Proofs.YtgjcibhhffkemaaGreatDoor.Ve
open Go.RowKit Bt Fl
theorem vd_len {L M : Int} {l : List Ru.Rl} {i : Nat} {out : List (Pat × Bool)} {R} (h : Vd L M l i out R) : ∀ o, R = .inl o → o.length ≤ out.length + l.length := by
  induction h with
  | done => intro o e; cases e; simp
  | bad => intro o e; cases e
  | amiss => intro o e; cases e
  | next h h1 h2 h3 ih => intro o e; have := ih o e; simp at this ⊢; omega
theorem out_at {w : World} {A : Option Addr} {n c : Nat} {rs : List (Pat × Bool)} (h : OutAt w (.slice A n c) rs) {j : Nat} {p : Pat} {lu : Bool} (hj : rs[j]? = some (p, lu)) :
    ∃ b off, A = some ⟨b, off, none⟩ ∧ rs.length ≤ c ∧ ∃ op f mn mx kids ka kn kc, p.tree = .node op f mn mx kids ∧ Cell8 w b (off + j * 9) op f mn mx (.slice ka kn kc) ∧ w.cell? ⟨b, off + j * 9 + 8, none⟩ = some (.bool lu) ∧ NAt w p.tree (.slice ka kn kc) := by
  rcases h with ⟨rfl, _⟩ | ⟨b, off, cap, h1, h2, h3⟩
  · cases hj
  · injection h1 with h4 h5 h6
    subst h4; subst h6
    obtain ⟨kv, h7, h8, h9⟩ := h3 j _ hj
    obtain ⟨ka, kn, kc, rfl⟩ := tree_kv h9
    dsimp only at h7 h8 h9
    refine ⟨b, off, rfl, h2, ?_⟩
    rcases hpt : p.tree with ⟨op, f, mn, mx, kids⟩
    rw [hpt] at h7 h9
    exact ⟨op, f, mn, mx, kids, ka, kn, kc, rfl, ⟨h7 0 (by omega), h7 1 (by omega), h7 2 (by omega), h7 3 (by omega), h7 4 (by omega), h7 5 (by omega), h7 6 (by omega), h7 7 (by omega)⟩, h8, h9⟩
end Go.Proofs.YtgjcibhhffkemaaGreatDoor.Ve
namespace Go.Proofs.YtgjcibhhffkemaaGreatDoor.Ve
open Go.RowKit Bt Fl
set_option maxRecDepth 100000 in
set_option maxHeartbeats 4000000 in
theorem verdictSure_walk (s : ByteArray) (L Q C : Int) (R : Nat) (M : Int) (wv : Value) (xs : List Int) (w : World) (hR : R < 18446744073709551616) (hM0 : 0 ≤ M) (hM1 : M ≤ 255) (he : ErrAt w) (hx : RdB w wv xs) :
    Calls Tryz.prog 5 #[.string s, cfgV L Q C R M, wv] w fun e w' => e = .returned (.bool true) ∧ Below w.heap.size w w' := by
  obtain ⟨XA, XC, rfl⟩ := rdB_slice hx
  have HX := Lib.hid hx; have HE := Lib.hid he
  have HC : Hid (AtG (w.alloc (.cells (cfgC L Q C R M) 24)) w.heap.size 24 (cfgC L Q C R M)) := Lib.hid (AtG.new _ _ _)
  have HB : Hid (Below w.heap.size w (w.alloc (.cells (cfgC L Q C R M) 24))) := Lib.hid ((Below.refl _ _).alloc (Nat.le_refl _) _)
  have HUP := Lib.hid (fun w he => up15_any w he)
  have HM := Lib.hid (And.intro hM0 hM1)
  have HXN : Hid (∀ j, 0 ≤ xs.getD j 0) := Lib.hid (by
    rcases hx with ⟨rfl, _⟩ | ⟨_, _, _, _, _, _, _, h⟩
    · intro j; simp
    · exact fun j => (h j).1)
  have hCK := fun w (hs : s.size ≤ 10000) (he : ErrAt w) => ckX s L Q C R M hR hM0 hM1 hs w he
  have g1 : ∀ w, (binOp BinOp.neq 28 .nilIface .nilIface).run Tryz.prog w = .ok (.bool false) w := fun w => by rfl
  have g2 : ∀ (w : World) (c : Int), (binOp BinOp.neq 28 (.iface 71 (.int .i64 c)) .nilIface).run Tryz.prog w = .ok (.bool true) w := fun w c => by rfl
  have g3 : ∀ (w : World) (b : Nat), (binOp BinOp.neq 28 (.iface 68 (.pointer (some ⟨b, 0, none⟩))) .nilIface).run Tryz.prog w = .ok (.bool true) w := fun w b => by rfl
  unfold cfgV at hCK ⊢
  by_cases hbig : 5000 < s.size ∨ (¬ 5000 < s.size ∧ 40 < xs.length)
  · have hbigI : (5000 : Int) < s.size ∨ (¬ (5000 : Int) < s.size ∧ (40 : Int) < xs.length) := by omega
    clear hx hM0 hM1 hR hCK he hbig
    rcases hbigI with h | ⟨h, h2⟩
    all_goals
      go_enter Tryz.func5, Tryz.ntmps5
      go_upto_region 1 with (fail)
      refine (show ∀ W : World, Hid (Below w.heap.size w W) → _ from fun W HB => ?_) (w.alloc (.cells (cfgC L Q C R M) 24)) HB
      go_wp2_with fail
      refine (HUP.out _ (HE.out.below HB.out)).mono ?_
      rintro e9 w1 ⟨rfl, hb1⟩
      have HB1 := Lib.hid (HB.out.trans (hb1.mono HB.out.size))
      clear hb1 HB
      go_wp2_with fail
      go_returns
      exact ⟨rfl, HB1.out⟩
  have hs1 : ¬ (5000 : Int) < s.size := by omega
  have hx1 : ¬ (40 : Int) < xs.length := by omega
  have hxI : (xs.length : Int) ≤ 40 := by omega
  have HCK := Lib.hid (fun w (he : ErrAt w) => hCK w (by omega) he)
  have HX40 := Lib.hid (show xs.length ≤ 40 by omega)
  clear hx hM0 hM1 hCK he hbig hR
  go_enter Tryz.func5, Tryz.ntmps5
  go_upto_region 1 with (fail)
  refine (show ∀ W : World, Hid (AtG W w.heap.size 24 (cfgC L Q C R M)) → Hid (Below w.heap.size w W) → _ from fun W HC HB => ?_) (w.alloc (.cells (cfgC L Q C R M) 24)) HC HB
  go_wp2_with fail
  refine (HUP.out _ (HE.out.below HB.out)).mono ?_
  rintro e9 w1 ⟨rfl, hb1⟩
  have HB1 := Lib.hid (HB.out.trans (hb1.mono HB.out.size)); have HC1 := Lib.hid (HC.out.below hb1)
  clear hb1 HB HC HUP
  have c0 : w1.cell? ⟨w.heap.size, 0, none⟩ = some (.int .i64 L) := HC1.out.cell 0 _ rfl
  have c1 : w1.cell? ⟨w.heap.size, 1, none⟩ = some (.int .i64 Q) := HC1.out.cell 1 _ rfl
  have c2 : w1.cell? ⟨w.heap.size, 2, none⟩ = some (.int .i64 C) := HC1.out.cell 2 _ rfl
  have c3 : w1.cell? ⟨w.heap.size, 3, none⟩ = some (.int .u64 (R : Int)) := HC1.out.cell 3 _ rfl
  have c4 : w1.cell? ⟨w.heap.size, 4, none⟩ = some (.int .u8 M) := HC1.out.cell 4 _ rfl
  go_wp2_with fail
  refine (HCK.out _ (HE.out.below HB1.out)).mono ?_
  rintro e9 w2 ⟨hb2, V, hV, hv⟩
  have HB2 := Lib.hid (HB1.out.trans (hb2.mono HB1.out.size)); have HC2 := Lib.hid (HC1.out.below hb2)
  clear hb2 HB1 HC1 HCK c0 c1 c2 c3 c4
  cases V with
  | arg =>
    dsimp only at hv
    subst hv
    unfold errCode
    go_wp2_with fail
    go_returns
    exact ⟨rfl, HB2.out⟩
  | no c x =>
    obtain ⟨b, rfl, _⟩ := hv
    unfold spotV
    go_wp2_with fail
    go_returns
    exact ⟨rfl, HB2.out⟩
  | ok out =>
    obtain ⟨v, rfl, hv⟩ := hv
    obtain ⟨A, ac, rfl⟩ := hv.form
    have HV := Lib.hid hv
    obtain ⟨hok, l, hrl, hvd⟩ := hV
    have hl8 : (out.length : Int) ≤ 8 := by have := hrl.len; have := vd_len hvd out rfl; simp at this; omega
    have HSU := Lib.hid (vd_sure hvd out rfl (fun x h => by cases h))
    have hq1 : 1 ≤ (flo R : Int) := (flo_small R hok.2.2.1).2
    have hq2 : (flo R : Int) ≤ Q := hok.2.2.2.1
    clear hv hvd hrl hok
    generalize (flo R : Int) = fl at *
    go_wp2_with fail
    go_loopw [11] (fun j wr => ∃ k : Nat, k ≤ out.length ∧ j = .int .i64 k ∧ Below w2.heap.size w2 wr) (fun j _ => out.length - (intOf j).toNat)
    case atStart => exact ⟨0, Nat.zero_le _, rfl, Below.refl _ _⟩
    case round =>
      obtain ⟨k, hk, rfl, hb⟩ := hrel
      have HY := Lib.hid hb
      clear hb
      by_cases hlt : k < out.length
      · have hltI : (k : Int) < out.length := by omega
        obtain ⟨⟨p, lu⟩, hpl⟩ : ∃ x, out[k]? = some x := ⟨_, List.getElem?_eq_getElem hlt⟩
        have hsu := HSU.out _ (List.mem_of_getElem? hpl)
        dsimp only at hsu
        obtain ⟨b, off, rfl, hac, op, f, mn, mx, kids, ka, kn, kc, hpt, hc8, -, hn⟩ := out_at (HV.out.below HY.out) hpl
        have hHN := fun (w' : World) (h : NAt w' p.tree (.slice ka kn kc)) => (hasP_any p hsu.1 w' ka kn kc (.slice none 0 0) [] h (.inl ⟨rfl, none, 0, rfl⟩) (by simp)).mono (R' := fun e w'' => e = .returned (.bool false) ∧ Below w'.heap.size w' w'') (by
          rintro e w'' ⟨hb, r, rfl, hr⟩
          refine ⟨?_, hb⟩
          cases r
          · rfl
          · exact absurd (hr.1 rfl) hsu.2.1)
        have hMO := fun (w' : World) (h : NAt w' p.tree (.slice ka kn kc)) => most_any p hsu.1 w' ka kn kc h
        have hLE := fun (w' : World) (h : NAt w' p.tree (.slice ka kn kc)) => least_any p hsu.1 w' ka kn kc h
        have hAN := fun (w' : World) (h : NAt w' p.tree (.slice ka kn kc)) => pAny_any p hsu.1 w' ka kn kc h
        have hPL := fun (w' : World) (h : NAt w' p.tree (.slice ka kn kc)) => places_any p hsu.1 w' ka kn kc h
        obtain ⟨r, hr⟩ : ∃ r : Bool, r = true ↔ Mt (byt xs) xs.length p 0 xs.length := by
          by_cases h : Mt (byt xs) xs.length p 0 xs.length
          · exact ⟨true, ⟨fun _ => h, fun _ => rfl⟩⟩
          · exact ⟨false, ⟨fun e => absurd e (by decide), fun h' => absurd h' h⟩⟩
        have hHW := fun (w' : World) (h : NAt w' p.tree (.slice ka kn kc)) (hx : RdB w' (.slice XA xs.length XC) xs) => (hasP_any p hsu.1 w' ka kn kc _ xs h hx (by have := HX40.out; omega)).mono (R' := fun e w'' => e = .returned (.bool r) ∧ Below w'.heap.size w' w'') (by
          rintro e w'' ⟨hb, r', rfl, hr'⟩
          refine ⟨?_, hb⟩
          rw [Bool.eq_iff_iff.2 (hr'.trans hr.symm)])
        have HSH := Lib.hid (fun w' => has_any (anyP p) M w' HM.out.1 HM.out.2)
        have HWD : Hid (r = true → ¬ L < (xs.length : Int) ∧ ∀ j, j < xs.length → xs.getD j 0 ≠ M) := Lib.hid (fun h => hsu.word xs HXN.out HM.out.1 HX40.out (hr.1 h))
        have hm1 : ¬ L < (mostP p : Int) := hsu.2.2.1
        have hl1 : ¬ (leastP p : Int) < 1 := by have := hsu.least; omega
        rw [hsu.2.2.2] at HSH
        rw [hpt] at hHN hMO hLE hAN hPL hHW hn
        unfold nodeV at hHN hMO hLE hAN hPL hHW
        dsimp only at hHN hMO hLE hAN hPL hHW
        have HHN := Lib.hid hHN; have HMO := Lib.hid hMO; have HLE := Lib.hid hLE; have HAN := Lib.hid hAN; have HPL := Lib.hid hPL; have HHW := Lib.hid hHW
        have HC8 := Lib.hid hc8; have HN := Lib.hid hn; have HC3 := Lib.hid (HC2.out.below HY.out)
        clear hHN hMO hLE hAN hPL hHW hc8 hn hsu hpl hr hpt
        generalize (mostP p : Int) = mo at *
        generalize (leastP p : Int) = le at *
        generalize (placesP p : Int) = pl at *
        generalize anyP p = any at *
        go_upto_region 10 with (fail)
        refine Rg.wp_region_each (by kernel_rfl) (fun w' => AtG w' w.heap.size 24 (cfgC L Q C R M) ∧ Cell8 w' b (off + k * 9) op f mn mx (.slice ka kn kc) ∧ NAt w' (.node op f mn mx kids) (.slice ka kn kc) ∧ Below w2.heap.size w2 w') (fun w1 w2 h hb => ⟨h.1.below hb, Cell8.below h.2.1 hb, h.2.2.1.below hb, h.2.2.2.trans (hb.mono h.2.2.2.size)⟩) (by kernel_rfl) (by kernel_rfl) (⟨HC3.out, HC8.out, HN.out, HY.out⟩) ?_
        show Rg.Build _ _ _ _ _ 0 [_, _, _, _, _, _, _, _, _, _, _, _, _, _, _, _, _, _, _, _, _, _, _, _, _, _, _, _, _, _, _, _, _, _, _, _, _] []
        refine Rg.build_cons (m := 1) (r := Rg.eq _) (Rg.one_plain (by rfl) (by (intro ax wx hk Kx hK; have k8 := hk.base 8 _ rfl rfl; have hj := hk.j; clear hk; go_simp; refine hK _ _ ?_ (Below.refl _ _); apply Rg.mk))) ?_ rfl
        refine Rg.build_cons (m := 2) (r := Rg.eq _) (Rg.one_plain (by rfl) (by (intro ax wx hk Kx hK; have k11 := hk.base 11 _ rfl rfl; have hj := hk.j; clear hk; go_simp; refine hK _ _ ?_ (Below.refl _ _); apply Rg.mk))) ?_ rfl
        refine Rg.build_cons (m := 3) (r := Rg.eq _) (Rg.one_plain (by rfl) (by (intro ax wx hk Kx hK; obtain ⟨v48, k48, h48⟩ := hk.dep 0 48 _ rfl rfl rfl; (first | (cases (h48 : v48 = _)) | (obtain ⟨rfl, h48⟩ := h48) | skip); obtain ⟨v49, k49, h49⟩ := hk.dep 1 49 _ rfl rfl rfl; (first | (cases (h49 : v49 = _)) | (obtain ⟨rfl, h49⟩ := h49) | skip); have hj := hk.j; clear hk; go_simp; refine hK _ _ ?_ (Below.refl _ _); apply Rg.mk))) ?_ rfl
        refine Rg.build_cons (m := 4) (r := Rg.eq _) (Rg.one_plain (by rfl) (by (intro ax wx hk Kx hK; obtain ⟨v50, k50, h50⟩ := hk.dep 2 50 _ rfl rfl rfl; (first | (cases (h50 : v50 = _)) | (obtain ⟨rfl, h50⟩ := h50) | skip); have hj := hk.j; clear hk; go_simp; refine hK _ _ ?_ (Below.refl _ _); apply Rg.mk))) ?_ rfl
        refine Rg.build_cons (m := 5) (r := Rg.eq _) (Rg.one_plain (by rfl) (by (intro ax wx hk Kx hK; obtain ⟨v51, k51, h51⟩ := hk.dep 3 51 _ rfl rfl rfl; (first | (cases (h51 : v51 = _)) | (obtain ⟨rfl, h51⟩ := h51) | skip); have hj := hk.j; clear hk; have q0 : wx.cell? ⟨w.heap.size, 0, none⟩ = some (.int .i64 L) := hj.1.cell 0 _ rfl; have q4 : wx.cell? ⟨w.heap.size, 4, none⟩ = some (.int .u8 M) := hj.1.cell 4 _ rfl; obtain ⟨d0, d1, d2, d3, d4, d5, d6, d7⟩ := hj.2.1; go_simp; refine hK _ _ ?_ (Below.refl _ _); apply Rg.mk))) ?_ rfl
        refine Rg.build_cons (m := 6) (r := Rg.eq _) (Rg.one_plain (by rfl) (by (intro ax wx hk Kx hK; obtain ⟨v52, k52, h52⟩ := hk.dep 4 52 _ rfl rfl rfl; (first | (cases (h52 : v52 = _)) | (obtain ⟨rfl, h52⟩ := h52) | skip); have hj := hk.j; clear hk; go_simp; refine (HHN.out _ hj.2.2.1).mono ?_; rintro e w' ⟨rfl, hb⟩; refine hK _ _ ?_ hb; apply Rg.mk))) ?_ rfl
        refine Rg.build_cons (m := 7) (r := Rg.eq _) (Rg.one_plain (by rfl) (by (intro ax wx hk Kx hK; obtain ⟨v53, k53, h53⟩ := hk.dep 5 53 _ rfl rfl rfl; (first | (cases (h53 : v53 = _)) | (obtain ⟨rfl, h53⟩ := h53) | skip); have hj := hk.j; clear hk; go_simp; refine hK _ _ ?_ (Below.refl _ _); apply Rg.mk))) ?_ rfl
        first
          | refine Rg.build_cons (m := 8) (Rg.one_no 6 54 false (by rfl) (by rfl) (by rfl) (by rfl)) ?_ rfl
          | refine Rg.build_cons (m := 8) (Rg.one_und 6 54 false (by rfl) (by rfl) (by rfl) (by rfl)) ?_ rfl
          | refine Rg.build_cons (m := 8) (r := Rg.eq _) (Rg.one_yes 6 54 false (by rfl) (by rfl) (by rfl) (by rfl) (by (intro ax wx hk Kx hK; have k8 := hk.base 8 _ rfl rfl; have hj := hk.j; clear hk; go_simp; refine hK _ _ ?_ (Below.refl _ _); apply Rg.mk))) ?_ rfl
        first
          | refine Rg.build_cons (m := 9) (Rg.one_no 6 54 false (by rfl) (by rfl) (by rfl) (by rfl)) ?_ rfl
          | refine Rg.build_cons (m := 9) (Rg.one_und 6 54 false (by rfl) (by rfl) (by rfl) (by rfl)) ?_ rfl
          | refine Rg.build_cons (m := 9) (r := Rg.eq _) (Rg.one_yes 6 54 false (by rfl) (by rfl) (by rfl) (by rfl) (by (intro ax wx hk Kx hK; have k11 := hk.base 11 _ rfl rfl; have hj := hk.j; clear hk; go_simp; refine hK _ _ ?_ (Below.refl _ _); apply Rg.mk))) ?_ rfl
        first
          | refine Rg.build_cons (m := 10) (Rg.one_no 6 54 false (by rfl) (by rfl) (by rfl) (by rfl)) ?_ rfl
          | refine Rg.build_cons (m := 10) (Rg.one_und 6 54 false (by rfl) (by rfl) (by rfl) (by rfl)) ?_ rfl
          | refine Rg.build_cons (m := 10) (r := Rg.eq _) (Rg.one_yes 6 54 false (by rfl) (by rfl) (by rfl) (by rfl) (by (intro ax wx hk Kx hK; obtain ⟨v55, k55, h55⟩ := hk.dep 7 55 _ rfl rfl rfl; (first | (cases (h55 : v55 = _)) | (obtain ⟨rfl, h55⟩ := h55) | skip); obtain ⟨v56, k56, h56⟩ := hk.dep 8 56 _ rfl rfl rfl; (first | (cases (h56 : v56 = _)) | (obtain ⟨rfl, h56⟩ := h56) | skip); have hj := hk.j; clear hk; go_simp; refine hK _ _ ?_ (Below.refl _ _); apply Rg.mk))) ?_ rfl
        first
          | refine Rg.build_cons (m := 11) (Rg.one_no 6 54 false (by rfl) (by rfl) (by rfl) (by rfl)) ?_ rfl
          | refine Rg.build_cons (m := 11) (Rg.one_und 6 54 false (by rfl) (by rfl) (by rfl) (by rfl)) ?_ rfl
          | refine Rg.build_cons (m := 11) (r := Rg.eq _) (Rg.one_yes 6 54 false (by rfl) (by rfl) (by rfl) (by rfl) (by (intro ax wx hk Kx hK; obtain ⟨v57, k57, h57⟩ := hk.dep 9 57 _ rfl rfl rfl; (first | (cases (h57 : v57 = _)) | (obtain ⟨rfl, h57⟩ := h57) | skip); have hj := hk.j; clear hk; go_simp; refine hK _ _ ?_ (Below.refl _ _); apply Rg.mk))) ?_ rfl
        first
          | refine Rg.build_cons (m := 12) (Rg.one_no 6 54 false (by rfl) (by rfl) (by rfl) (by rfl)) ?_ rfl
          | refine Rg.build_cons (m := 12) (Rg.one_und 6 54 false (by rfl) (by rfl) (by rfl) (by rfl)) ?_ rfl
          | refine Rg.build_cons (m := 12) (r := Rg.eq _) (Rg.one_yes 6 54 false (by rfl) (by rfl) (by rfl) (by rfl) (by (intro ax wx hk Kx hK; obtain ⟨v58, k58, h58⟩ := hk.dep 10 58 _ rfl rfl rfl; (first | (cases (h58 : v58 = _)) | (obtain ⟨rfl, h58⟩ := h58) | skip); have hj := hk.j; clear hk; have q0 : wx.cell? ⟨w.heap.size, 0, none⟩ = some (.int .i64 L) := hj.1.cell 0 _ rfl; have q4 : wx.cell? ⟨w.heap.size, 4, none⟩ = some (.int .u8 M) := hj.1.cell 4 _ rfl; obtain ⟨d0, d1, d2, d3, d4, d5, d6, d7⟩ := hj.2.1; go_simp; refine hK _ _ ?_ (Below.refl _ _); apply Rg.mk))) ?_ rfl
        first
          | refine Rg.build_cons (m := 13) (Rg.one_no 6 54 false (by rfl) (by rfl) (by rfl) (by rfl)) ?_ rfl
          | refine Rg.build_cons (m := 13) (Rg.one_und 6 54 false (by rfl) (by rfl) (by rfl) (by rfl)) ?_ rfl
          | refine Rg.build_cons (m := 13) (r := Rg.eq _) (Rg.one_yes 6 54 false (by rfl) (by rfl) (by rfl) (by rfl) (by (intro ax wx hk Kx hK; obtain ⟨v59, k59, h59⟩ := hk.dep 11 59 _ rfl rfl rfl; (first | (cases (h59 : v59 = _)) | (obtain ⟨rfl, h59⟩ := h59) | skip); have hj := hk.j; clear hk; go_simp; refine (HMO.out _ hj.2.2.1).mono ?_; rintro e w' ⟨rfl, hb⟩; refine hK _ _ ?_ hb; apply Rg.mk))) ?_ rfl
        first
          | refine Rg.build_cons (m := 14) (Rg.one_no 6 54 false (by rfl) (by rfl) (by rfl) (by rfl)) ?_ rfl
          | refine Rg.build_cons (m := 14) (Rg.one_und 6 54 false (by rfl) (by rfl) (by rfl) (by rfl)) ?_ rfl
          | refine Rg.build_cons (m := 14) (r := Rg.eq _) (Rg.one_yes 6 54 false (by rfl) (by rfl) (by rfl) (by rfl) (by (intro ax wx hk Kx hK; have k4 := hk.base 4 _ rfl rfl; have hj := hk.j; clear hk; go_simp; refine hK _ _ ?_ (Below.refl _ _); apply Rg.mk))) ?_ rfl
        first
          | refine Rg.build_cons (m := 15) (Rg.one_no 6 54 false (by rfl) (by rfl) (by rfl) (by rfl)) ?_ rfl
          | refine Rg.build_cons (m := 15) (Rg.one_und 6 54 false (by rfl) (by rfl) (by rfl) (by rfl)) ?_ rfl
          | refine Rg.build_cons (m := 15) (r := Rg.eq _) (Rg.one_yes 6 54 false (by rfl) (by rfl) (by rfl) (by rfl) (by (intro ax wx hk Kx hK; obtain ⟨v61, k61, h61⟩ := hk.dep 13 61 _ rfl rfl rfl; (first | (cases (h61 : v61 = _)) | (obtain ⟨rfl, h61⟩ := h61) | skip); have hj := hk.j; clear hk; have q0 : wx.cell? ⟨w.heap.size, 0, none⟩ = some (.int .i64 L) := hj.1.cell 0 _ rfl; have q4 : wx.cell? ⟨w.heap.size, 4, none⟩ = some (.int .u8 M) := hj.1.cell 4 _ rfl; obtain ⟨d0, d1, d2, d3, d4, d5, d6, d7⟩ := hj.2.1; go_simp; refine hK _ _ ?_ (Below.refl _ _); apply Rg.mk))) ?_ rfl
        first
          | refine Rg.build_cons (m := 16) (Rg.one_no 6 54 false (by rfl) (by rfl) (by rfl) (by rfl)) ?_ rfl
          | refine Rg.build_cons (m := 16) (Rg.one_und 6 54 false (by rfl) (by rfl) (by rfl) (by rfl)) ?_ rfl
          | refine Rg.build_cons (m := 16) (r := Rg.eq _) (Rg.one_yes 6 54 false (by rfl) (by rfl) (by rfl) (by rfl) (by (intro ax wx hk Kx hK; obtain ⟨v60, k60, h60⟩ := hk.dep 12 60 _ rfl rfl rfl; (first | (cases (h60 : v60 = _)) | (obtain ⟨rfl, h60⟩ := h60) | skip); obtain ⟨v62, k62, h62⟩ := hk.dep 14 62 _ rfl rfl rfl; (first | (cases (h62 : v62 = _)) | (obtain ⟨rfl, h62⟩ := h62) | skip); have hj := hk.j; clear hk; go_simp; refine hK _ _ ?_ (Below.refl _ _); apply Rg.mk))) ?_ rfl
        refine Rg.build_cons (m := 17) (r := Rg.eq _) (Rg.one_plain (by rfl) (by (intro ax wx hk Kx hK; obtain ⟨v54, k54, h54⟩ := hk.dep 6 54 _ rfl rfl rfl; (first | (cases (h54 : v54 = _)) | (obtain ⟨rfl, h54⟩ := h54) | skip); obtain ⟨v63, k63, h63⟩ := hk.dep 15 63 _ rfl rfl rfl; (first | (cases (h63 : v63 = _)) | (obtain ⟨rfl, h63⟩ := h63) | skip); have hj := hk.j; clear hk; go_simp; refine hK _ _ ?_ (Below.refl _ _); apply Rg.mk))) ?_ rfl
        refine Rg.build_cons (m := 18) (r := Rg.eq _) (Rg.one_plain (by rfl) (by (intro ax wx hk Kx hK; obtain ⟨v64, k64, h64⟩ := hk.dep 16 64 _ rfl rfl rfl; (first | (cases (h64 : v64 = _)) | (obtain ⟨rfl, h64⟩ := h64) | skip); have hj := hk.j; clear hk; go_simp; refine hK _ _ ?_ (Below.refl _ _); apply Rg.mk))) ?_ rfl
        first
          | refine Rg.build_cons (m := 19) (Rg.one_no 17 65 false (by rfl) (by rfl) (by rfl) (by rfl)) ?_ rfl
          | refine Rg.build_cons (m := 19) (Rg.one_und 17 65 false (by rfl) (by rfl) (by rfl) (by rfl)) ?_ rfl
          | refine Rg.build_cons (m := 19) (r := Rg.eq _) (Rg.one_yes 17 65 false (by rfl) (by rfl) (by rfl) (by rfl) (by (intro ax wx hk Kx hK; have k8 := hk.base 8 _ rfl rfl; have hj := hk.j; clear hk; go_simp; refine hK _ _ ?_ (Below.refl _ _); apply Rg.mk))) ?_ rfl
        first
          | refine Rg.build_cons (m := 20) (Rg.one_no 17 65 false (by rfl) (by rfl) (by rfl) (by rfl)) ?_ rfl
          | refine Rg.build_cons (m := 20) (Rg.one_und 17 65 false (by rfl) (by rfl) (by rfl) (by rfl)) ?_ rfl
          | refine Rg.build_cons (m := 20) (r := Rg.eq _) (Rg.one_yes 17 65 false (by rfl) (by rfl) (by rfl) (by rfl) (by (intro ax wx hk Kx hK; have k11 := hk.base 11 _ rfl rfl; have hj := hk.j; clear hk; go_simp; refine hK _ _ ?_ (Below.refl _ _); apply Rg.mk))) ?_ rfl
        first
          | refine Rg.build_cons (m := 21) (Rg.one_no 17 65 false (by rfl) (by rfl) (by rfl) (by rfl)) ?_ rfl
          | refine Rg.build_cons (m := 21) (Rg.one_und 17 65 false (by rfl) (by rfl) (by rfl) (by rfl)) ?_ rfl
          | refine Rg.build_cons (m := 21) (r := Rg.eq _) (Rg.one_yes 17 65 false (by rfl) (by rfl) (by rfl) (by rfl) (by (intro ax wx hk Kx hK; obtain ⟨v66, k66, h66⟩ := hk.dep 18 66 _ rfl rfl rfl; (first | (cases (h66 : v66 = _)) | (obtain ⟨rfl, h66⟩ := h66) | skip); obtain ⟨v67, k67, h67⟩ := hk.dep 19 67 _ rfl rfl rfl; (first | (cases (h67 : v67 = _)) | (obtain ⟨rfl, h67⟩ := h67) | skip); have hj := hk.j; clear hk; go_simp; refine hK _ _ ?_ (Below.refl _ _); apply Rg.mk))) ?_ rfl
        first
          | refine Rg.build_cons (m := 22) (Rg.one_no 17 65 false (by rfl) (by rfl) (by rfl) (by rfl)) ?_ rfl
          | refine Rg.build_cons (m := 22) (Rg.one_und 17 65 false (by rfl) (by rfl) (by rfl) (by rfl)) ?_ rfl
          | refine Rg.build_cons (m := 22) (r := Rg.eq _) (Rg.one_yes 17 65 false (by rfl) (by rfl) (by rfl) (by rfl) (by (intro ax wx hk Kx hK; obtain ⟨v68, k68, h68⟩ := hk.dep 20 68 _ rfl rfl rfl; (first | (cases (h68 : v68 = _)) | (obtain ⟨rfl, h68⟩ := h68) | skip); have hj := hk.j; clear hk; go_simp; refine hK _ _ ?_ (Below.refl _ _); apply Rg.mk))) ?_ rfl
        first
          | refine Rg.build_cons (m := 23) (Rg.one_no 17 65 false (by rfl) (by rfl) (by rfl) (by rfl)) ?_ rfl
          | refine Rg.build_cons (m := 23) (Rg.one_und 17 65 false (by rfl) (by rfl) (by rfl) (by rfl)) ?_ rfl
          | refine Rg.build_cons (m := 23) (r := Rg.eq _) (Rg.one_yes 17 65 false (by rfl) (by rfl) (by rfl) (by rfl) (by (intro ax wx hk Kx hK; obtain ⟨v69, k69, h69⟩ := hk.dep 21 69 _ rfl rfl rfl; (first | (cases (h69 : v69 = _)) | (obtain ⟨rfl, h69⟩ := h69) | skip); have hj := hk.j; clear hk; have q0 : wx.cell? ⟨w.heap.size, 0, none⟩ = some (.int .i64 L) := hj.1.cell 0 _ rfl; have q4 : wx.cell? ⟨w.heap.size, 4, none⟩ = some (.int .u8 M) := hj.1.cell 4 _ rfl; obtain ⟨d0, d1, d2, d3, d4, d5, d6, d7⟩ := hj.2.1; go_simp; refine hK _ _ ?_ (Below.refl _ _); apply Rg.mk))) ?_ rfl
        first
          | refine Rg.build_cons (m := 24) (Rg.one_no 17 65 false (by rfl) (by rfl) (by rfl) (by rfl)) ?_ rfl
          | refine Rg.build_cons (m := 24) (Rg.one_und 17 65 false (by rfl) (by rfl) (by rfl) (by rfl)) ?_ rfl
          | refine Rg.build_cons (m := 24) (r := Rg.eq _) (Rg.one_yes 17 65 false (by rfl) (by rfl) (by rfl) (by rfl) (by (intro ax wx hk Kx hK; obtain ⟨v70, k70, h70⟩ := hk.dep 22 70 _ rfl rfl rfl; (first | (cases (h70 : v70 = _)) | (obtain ⟨rfl, h70⟩ := h70) | skip); have hj := hk.j; clear hk; go_simp; refine (HLE.out _ hj.2.2.1).mono ?_; rintro e w' ⟨rfl, hb⟩; refine hK _ _ ?_ hb; apply Rg.mk))) ?_ rfl
        first
          | refine Rg.build_cons (m := 25) (Rg.one_no 17 65 false (by rfl) (by rfl) (by rfl) (by rfl)) ?_ rfl
          | refine Rg.build_cons (m := 25) (Rg.one_und 17 65 false (by rfl) (by rfl) (by rfl) (by rfl)) ?_ rfl
          | refine Rg.build_cons (m := 25) (r := Rg.eq _) (Rg.one_yes 17 65 false (by rfl) (by rfl) (by rfl) (by rfl) (by (intro ax wx hk Kx hK; obtain ⟨v71, k71, h71⟩ := hk.dep 23 71 _ rfl rfl rfl; (first | (cases (h71 : v71 = _)) | (obtain ⟨rfl, h71⟩ := h71) | skip); have hj := hk.j; clear hk; go_simp; refine hK _ _ ?_ (Below.refl _ _); apply Rg.mk))) ?_ rfl
        refine Rg.build_cons (m := 26) (r := Rg.eq _) (Rg.one_plain (by rfl) (by (intro ax wx hk Kx hK; obtain ⟨v65, k65, h65⟩ := hk.dep 17 65 _ rfl rfl rfl; (first | (cases (h65 : v65 = _)) | (obtain ⟨rfl, h65⟩ := h65) | skip); obtain ⟨v72, k72, h72⟩ := hk.dep 24 72 _ rfl rfl rfl; (first | (cases (h72 : v72 = _)) | (obtain ⟨rfl, h72⟩ := h72) | skip); have hj := hk.j; clear hk; go_simp; refine hK _ _ ?_ (Below.refl _ _); apply Rg.mk))) ?_ rfl
        refine Rg.build_cons (m := 27) (r := Rg.eq _) (Rg.one_plain (by rfl) (by (intro ax wx hk Kx hK; obtain ⟨v73, k73, h73⟩ := hk.dep 25 73 _ rfl rfl rfl; (first | (cases (h73 : v73 = _)) | (obtain ⟨rfl, h73⟩ := h73) | skip); have hj := hk.j; clear hk; go_simp; refine hK _ _ ?_ (Below.refl _ _); apply Rg.mk))) ?_ rfl
        first
          | refine Rg.build_cons (m := 28) (Rg.one_no 26 74 false (by rfl) (by rfl) (by rfl) (by rfl)) ?_ rfl
          | refine Rg.build_cons (m := 28) (Rg.one_und 26 74 false (by rfl) (by rfl) (by rfl) (by rfl)) ?_ rfl
          | refine Rg.build_cons (m := 28) (r := Rg.eq _) (Rg.one_yes 26 74 false (by rfl) (by rfl) (by rfl) (by rfl) (by (intro ax wx hk Kx hK; have k8 := hk.base 8 _ rfl rfl; have hj := hk.j; clear hk; go_simp; refine hK _ _ ?_ (Below.refl _ _); apply Rg.mk))) ?_ rfl
        first
          | refine Rg.build_cons (m := 29) (Rg.one_no 26 74 false (by rfl) (by rfl) (by rfl) (by rfl)) ?_ rfl
          | refine Rg.build_cons (m := 29) (Rg.one_und 26 74 false (by rfl) (by rfl) (by rfl) (by rfl)) ?_ rfl
          | refine Rg.build_cons (m := 29) (r := Rg.eq _) (Rg.one_yes 26 74 false (by rfl) (by rfl) (by rfl) (by rfl) (by (intro ax wx hk Kx hK; have k11 := hk.base 11 _ rfl rfl; have hj := hk.j; clear hk; go_simp; refine hK _ _ ?_ (Below.refl _ _); apply Rg.mk))) ?_ rfl
        first
          | refine Rg.build_cons (m := 30) (Rg.one_no 26 74 false (by rfl) (by rfl) (by rfl) (by rfl)) ?_ rfl
          | refine Rg.build_cons (m := 30) (Rg.one_und 26 74 false (by rfl) (by rfl) (by rfl) (by rfl)) ?_ rfl
          | refine Rg.build_cons (m := 30) (r := Rg.eq _) (Rg.one_yes 26 74 false (by rfl) (by rfl) (by rfl) (by rfl) (by (intro ax wx hk Kx hK; obtain ⟨v75, k75, h75⟩ := hk.dep 27 75 _ rfl rfl rfl; (first | (cases (h75 : v75 = _)) | (obtain ⟨rfl, h75⟩ := h75) | skip); obtain ⟨v76, k76, h76⟩ := hk.dep 28 76 _ rfl rfl rfl; (first | (cases (h76 : v76 = _)) | (obtain ⟨rfl, h76⟩ := h76) | skip); have hj := hk.j; clear hk; go_simp; refine hK _ _ ?_ (Below.refl _ _); apply Rg.mk))) ?_ rfl
        first
          | refine Rg.build_cons (m := 31) (Rg.one_no 26 74 false (by rfl) (by rfl) (by rfl) (by rfl)) ?_ rfl
          | refine Rg.build_cons (m := 31) (Rg.one_und 26 74 false (by rfl) (by rfl) (by rfl) (by rfl)) ?_ rfl
          | refine Rg.build_cons (m := 31) (r := Rg.eq _) (Rg.one_yes 26 74 false (by rfl) (by rfl) (by rfl) (by rfl) (by (intro ax wx hk Kx hK; obtain ⟨v77, k77, h77⟩ := hk.dep 29 77 _ rfl rfl rfl; (first | (cases (h77 : v77 = _)) | (obtain ⟨rfl, h77⟩ := h77) | skip); have hj := hk.j; clear hk; go_simp; refine hK _ _ ?_ (Below.refl _ _); apply Rg.mk))) ?_ rfl
        first
          | refine Rg.build_cons (m := 32) (Rg.one_no 26 74 false (by rfl) (by rfl) (by rfl) (by rfl)) ?_ rfl
          | refine Rg.build_cons (m := 32) (Rg.one_und 26 74 false (by rfl) (by rfl) (by rfl) (by rfl)) ?_ rfl
          | refine Rg.build_cons (m := 32) (r := Rg.eq _) (Rg.one_yes 26 74 false (by rfl) (by rfl) (by rfl) (by rfl) (by (intro ax wx hk Kx hK; obtain ⟨v78, k78, h78⟩ := hk.dep 30 78 _ rfl rfl rfl; (first | (cases (h78 : v78 = _)) | (obtain ⟨rfl, h78⟩ := h78) | skip); have hj := hk.j; clear hk; have q0 : wx.cell? ⟨w.heap.size, 0, none⟩ = some (.int .i64 L) := hj.1.cell 0 _ rfl; have q4 : wx.cell? ⟨w.heap.size, 4, none⟩ = some (.int .u8 M) := hj.1.cell 4 _ rfl; obtain ⟨d0, d1, d2, d3, d4, d5, d6, d7⟩ := hj.2.1; go_simp; refine hK _ _ ?_ (Below.refl _ _); apply Rg.mk))) ?_ rfl
        first
          | refine Rg.build_cons (m := 33) (Rg.one_no 26 74 false (by rfl) (by rfl) (by rfl) (by rfl)) ?_ rfl
          | refine Rg.build_cons (m := 33) (Rg.one_und 26 74 false (by rfl) (by rfl) (by rfl) (by rfl)) ?_ rfl
          | refine Rg.build_cons (m := 33) (r := Rg.eq _) (Rg.one_yes 26 74 false (by rfl) (by rfl) (by rfl) (by rfl) (by (intro ax wx hk Kx hK; obtain ⟨v79, k79, h79⟩ := hk.dep 31 79 _ rfl rfl rfl; (first | (cases (h79 : v79 = _)) | (obtain ⟨rfl, h79⟩ := h79) | skip); have hj := hk.j; clear hk; go_simp; refine (HAN.out _ hj.2.2.1).mono ?_; rintro e w' ⟨rfl, hb⟩; refine hK _ _ ?_ hb; apply Rg.mk))) ?_ rfl
        first
          | refine Rg.build_cons (m := 34) (Rg.one_no 26 74 false (by rfl) (by rfl) (by rfl) (by rfl)) ?_ rfl
          | refine Rg.build_cons (m := 34) (Rg.one_und 26 74 false (by rfl) (by rfl) (by rfl) (by rfl)) ?_ rfl
          | refine Rg.build_cons (m := 34) (r := Rg.eq _) (Rg.one_yes 26 74 false (by rfl) (by rfl) (by rfl) (by rfl) (by (intro ax wx hk Kx hK; have k4 := hk.base 4 _ rfl rfl; have hj := hk.j; clear hk; go_simp; refine hK _ _ ?_ (Below.refl _ _); apply Rg.mk))) ?_ rfl
        first
          | refine Rg.build_cons (m := 35) (Rg.one_no 26 74 false (by rfl) (by rfl) (by rfl) (by rfl)) ?_ rfl
          | refine Rg.build_cons (m := 35) (Rg.one_und 26 74 false (by rfl) (by rfl) (by rfl) (by rfl)) ?_ rfl
          | refine Rg.build_cons (m := 35) (r := Rg.eq _) (Rg.one_yes 26 74 false (by rfl) (by rfl) (by rfl) (by rfl) (by (intro ax wx hk Kx hK; obtain ⟨v81, k81, h81⟩ := hk.dep 33 81 _ rfl rfl rfl; (first | (cases (h81 : v81 = _)) | (obtain ⟨rfl, h81⟩ := h81) | skip); have hj := hk.j; clear hk; have q0 : wx.cell? ⟨w.heap.size, 0, none⟩ = some (.int .i64 L) := hj.1.cell 0 _ rfl; have q4 : wx.cell? ⟨w.heap.size, 4, none⟩ = some (.int .u8 M) := hj.1.cell 4 _ rfl; obtain ⟨d0, d1, d2, d3, d4, d5, d6, d7⟩ := hj.2.1; go_simp; refine hK _ _ ?_ (Below.refl _ _); apply Rg.mk))) ?_ rfl
        first
          | refine Rg.build_cons (m := 36) (Rg.one_no 26 74 false (by rfl) (by rfl) (by rfl) (by rfl)) ?_ rfl
          | refine Rg.build_cons (m := 36) (Rg.one_und 26 74 false (by rfl) (by rfl) (by rfl) (by rfl)) ?_ rfl
          | refine Rg.build_cons (m := 36) (r := Rg.eq _) (Rg.one_yes 26 74 false (by rfl) (by rfl) (by rfl) (by rfl) (by (intro ax wx hk Kx hK; obtain ⟨v80, k80, h80⟩ := hk.dep 32 80 _ rfl rfl rfl; (first | (cases (h80 : v80 = _)) | (obtain ⟨rfl, h80⟩ := h80) | skip); obtain ⟨v82, k82, h82⟩ := hk.dep 34 82 _ rfl rfl rfl; (first | (cases (h82 : v82 = _)) | (obtain ⟨rfl, h82⟩ := h82) | skip); have hj := hk.j; clear hk; go_simp; refine (HSH.out _).mono ?_; rintro e w' ⟨rfl, hb⟩; refine hK _ _ ?_ hb; apply Rg.mk))) ?_ rfl
        refine Rg.build_cons (m := 37) (r := Rg.eq _) (Rg.one_plain (by rfl) (by (intro ax wx hk Kx hK; obtain ⟨v74, k74, h74⟩ := hk.dep 26 74 _ rfl rfl rfl; (first | (cases (h74 : v74 = _)) | (obtain ⟨rfl, h74⟩ := h74) | skip); obtain ⟨v83, k83, h83⟩ := hk.dep 35 83 _ rfl rfl rfl; (first | (cases (h83 : v83 = _)) | (obtain ⟨rfl, h83⟩ := h83) | skip); have hj := hk.j; clear hk; go_simp; refine hK _ _ ?_ (Below.refl _ _); apply Rg.mk))) ?_ rfl
        refine Rg.build_end fun wx hj => ?_
        refine Rg.fin_eq rfl ?_
        refine Rg.fin_eq rfl ?_
        refine Rg.fin_eq rfl ?_
        refine Rg.fin_eq rfl ?_
        refine Rg.fin_eq rfl ?_
        refine Rg.fin_eq rfl ?_
        refine Rg.fin_eq rfl ?_
        refine Rg.fin_eq rfl ?_
        refine Rg.fin_eq rfl ?_
        refine Rg.fin_eq rfl ?_
        refine Rg.fin_eq rfl ?_
        refine Rg.fin_eq rfl ?_
        refine Rg.fin_eq rfl ?_
        refine Rg.fin_eq rfl ?_
        refine Rg.fin_eq rfl ?_
        refine Rg.fin_eq rfl ?_
        refine Rg.fin_eq rfl ?_
        refine Rg.fin_eq rfl ?_
        refine Rg.fin_eq rfl ?_
        refine Rg.fin_eq rfl ?_
        refine Rg.fin_eq rfl ?_
        refine Rg.fin_eq rfl ?_
        refine Rg.fin_eq rfl ?_
        refine Rg.fin_eq rfl ?_
        refine Rg.fin_eq rfl ?_
        refine Rg.fin_eq rfl ?_
        refine Rg.fin_eq rfl ?_
        refine Rg.fin_eq rfl ?_
        refine Rg.fin_eq rfl ?_
        refine Rg.fin_eq rfl ?_
        refine Rg.fin_eq rfl ?_
        refine Rg.fin_eq rfl ?_
        refine Rg.fin_eq rfl ?_
        refine Rg.fin_eq rfl ?_
        refine Rg.fin_eq rfl ?_
        refine Rg.fin_eq rfl ?_
        refine Rg.fin_eq rfl ?_
        refine Rg.fin_nil ?_
        simp only [List.set_cons_zero, List.set_cons_succ]
        have HC4 := Lib.hid hj.1; have HC84 := Lib.hid hj.2.1; have HN4 := Lib.hid hj.2.2.1; have HY4 := Lib.hid hj.2.2.2
        clear hj HHN HMO HLE HAN HSH HC8 HN HC3 HY
        obtain ⟨d0, d1, d2, d3, d4, d5, d6, d7⟩ := HC84.out
        go_wp2_with fail
        refine (HPL.out _ HN4.out).mono ?_
        rintro e9 w5 ⟨rfl, hb5⟩
        have HC85 := Lib.hid (Cell8.below HC84.out hb5); have HN5 := Lib.hid (HN4.out.below hb5); have HY5 := Lib.hid (HY4.out.trans (hb5.mono HY4.out.size)); have HC5 := Lib.hid (HC4.out.below hb5)
        clear hb5 HC84 HN4 HY4 HC4 HPL d0 d1 d2 d3 d4 d5 d6 d7
        by_cases h60 : pl ≤ 60
        · obtain ⟨d0, d1, d2, d3, d4, d5, d6, d7⟩ := HC85.out
          have HX5 : Hid (RdB w5 (.slice XA xs.length XC) xs) := Lib.hid (rdB_below HX.out (HB2.out.trans (HY5.out.mono HB2.out.size)))
          go_wp2_with fail
          refine (HHW.out _ HN5.out HX5.out).mono ?_
          rintro e9 w6 ⟨rfl, hb6⟩
          have HX6 : Hid (RdB w6 (.slice XA xs.length XC) xs) := Lib.hid (rdB_below HX5.out hb6)
          have HY6 := Lib.hid (HY5.out.trans (hb6.mono HY5.out.size)); have HC6 := Lib.hid (HC5.out.below hb6)
          clear hb6 HC85 HN5 HX5 HY5 HC5 HHW d0 d1 d2 d3 d4 d5 d6 d7
          cases r
          · go_wp2_with fail
            exact ⟨⟨k + 1, by omega, by go_num, HY6.out⟩, by simp [intOf]; omega⟩
          · obtain ⟨hL1, hW1⟩ := HWD.out rfl
            have HW1 := Lib.hid hW1
            clear hW1
            go_wp2_with fail
            go_loopw [12] (fun j wr => ∃ i : Nat, i ≤ xs.length ∧ j = .int .i64 i ∧ Below w6.heap.size w6 wr) (fun j _ => xs.length - (intOf j).toNat)
            case atStart => exact ⟨0, Nat.zero_le _, rfl, Below.refl _ _⟩
            case round =>
              obtain ⟨i, hi, rfl, hb⟩ := hrel
              have HZ := Lib.hid hb
              clear hb
              by_cases hil : i < xs.length
              · have hilI : (i : Int) < xs.length := by omega
                obtain ⟨xb, xo, hA, hxc, -, -, -⟩ := rdB_at HX6.out i hil
                have hne := HW1.out i hil
                have HXC := Lib.hid (fun (w' : World) (hb : Below w6.heap.size w6 w') => (rdB_at (rdB_below HX6.out hb) i hil))
                subst hA
                generalize xs.getD i 0 = x at *
                have hnb : (x == M) = false := beq_eq_false_iff_ne.2 hne
                go_upto_region 16 with (fail)
                refine Rg.wp_region_each (by kernel_rfl) (fun w' => AtG w' w.heap.size 24 (cfgC L Q C R M) ∧ w'.cell? ⟨xb, xo + i, none⟩ = some (.int .u8 x) ∧ Below w6.heap.size w6 w') (fun w1 w2 h hb => ⟨h.1.below hb, (hb.cell (World.block_lt_of_cell? _ _ h.2.1)).trans h.2.1, h.2.2.trans (hb.mono h.2.2.size)⟩) (by kernel_rfl) (by kernel_rfl) (⟨HC6.out.below HZ.out, by obtain ⟨b', o', e, _, h, _⟩ := HXC.out _ HZ.out; cases e; exact h, HZ.out⟩) ?_
                show Rg.Build _ _ _ _ _ 0 [_, _, _, _, _, _, _, _, _, _, _, _, _, _] []
                refine Rg.build_cons (m := 1) (r := Rg.eq _) (Rg.one_plain (by rfl) (by (intro ax wx hk Kx hK; have k2 := hk.base 2 _ rfl rfl; have hj := hk.j; clear hk; go_simp; refine hK _ _ ?_ (Below.refl _ _); apply Rg.mk))) ?_ rfl
                refine Rg.build_cons (m := 2) (r := Rg.eq _) (Rg.one_plain (by rfl) (by (intro ax wx hk Kx hK; have k12 := hk.base 12 _ rfl rfl; have hj := hk.j; clear hk; go_simp; refine hK _ _ ?_ (Below.refl _ _); apply Rg.mk))) ?_ rfl
                refine Rg.build_cons (m := 3) (r := Rg.eq _) (Rg.one_plain (by rfl) (by (intro ax wx hk Kx hK; obtain ⟨v107, k107, h107⟩ := hk.dep 0 107 _ rfl rfl rfl; (first | (cases (h107 : v107 = _)) | (obtain ⟨rfl, h107⟩ := h107) | skip); obtain ⟨v108, k108, h108⟩ := hk.dep 1 108 _ rfl rfl rfl; (first | (cases (h108 : v108 = _)) | (obtain ⟨rfl, h108⟩ := h108) | skip); have hj := hk.j; clear hk; go_simp; refine hK _ _ ?_ (Below.refl _ _); apply Rg.mk))) ?_ rfl
                refine Rg.build_cons (m := 4) (r := Rg.eq _) (Rg.one_plain (by rfl) (by (intro ax wx hk Kx hK; obtain ⟨v109, k109, h109⟩ := hk.dep 2 109 _ rfl rfl rfl; (first | (cases (h109 : v109 = _)) | (obtain ⟨rfl, h109⟩ := h109) | skip); have hj := hk.j; clear hk; have q0 : wx.cell? ⟨w.heap.size, 0, none⟩ = some (.int .i64 L) := hj.1.cell 0 _ rfl; have q4 : wx.cell? ⟨w.heap.size, 4, none⟩ = some (.int .u8 M) := hj.1.cell 4 _ rfl; have q1 := hj.2.1; go_simp; refine hK _ _ ?_ (Below.refl _ _); apply Rg.mk))) ?_ rfl
                refine Rg.build_cons (m := 5) (r := Rg.eq _) (Rg.one_plain (by rfl) (by (intro ax wx hk Kx hK; have k4 := hk.base 4 _ rfl rfl; have hj := hk.j; clear hk; go_simp; refine hK _ _ ?_ (Below.refl _ _); apply Rg.mk))) ?_ rfl
                refine Rg.build_cons (m := 6) (r := Rg.eq _) (Rg.one_plain (by rfl) (by (intro ax wx hk Kx hK; obtain ⟨v111, k111, h111⟩ := hk.dep 4 111 _ rfl rfl rfl; (first | (cases (h111 : v111 = _)) | (obtain ⟨rfl, h111⟩ := h111) | skip); have hj := hk.j; clear hk; have q0 : wx.cell? ⟨w.heap.size, 0, none⟩ = some (.int .i64 L) := hj.1.cell 0 _ rfl; have q4 : wx.cell? ⟨w.heap.size, 4, none⟩ = some (.int .u8 M) := hj.1.cell 4 _ rfl; have q1 := hj.2.1; go_simp; refine hK _ _ ?_ (Below.refl _ _); apply Rg.mk))) ?_ rfl
                refine Rg.build_cons (m := 7) (r := Rg.eq _) (Rg.one_plain (by rfl) (by (intro ax wx hk Kx hK; obtain ⟨v110, k110, h110⟩ := hk.dep 3 110 _ rfl rfl rfl; (first | (cases (h110 : v110 = _)) | (obtain ⟨rfl, h110⟩ := h110) | skip); obtain ⟨v112, k112, h112⟩ := hk.dep 5 112 _ rfl rfl rfl; (first | (cases (h112 : v112 = _)) | (obtain ⟨rfl, h112⟩ := h112) | skip); have hj := hk.j; clear hk; go_simp; refine hK _ _ ?_ (Below.refl _ _); apply Rg.mk))) ?_ rfl
                refine Rg.build_cons (m := 8) (r := Rg.eq _) (Rg.one_plain (by rfl) (by (intro ax wx hk Kx hK; obtain ⟨v113, k113, h113⟩ := hk.dep 6 113 _ rfl rfl rfl; (first | (cases (h113 : v113 = _)) | (obtain ⟨rfl, h113⟩ := h113) | skip); have hj := hk.j; clear hk; go_simp; refine hK _ _ ?_ (Below.refl _ _); apply Rg.mk))) ?_ rfl
                first
                  | refine Rg.build_cons (m := 9) (Rg.one_no 7 114 false (by rfl) (by rfl) (by rfl) (by rfl)) ?_ rfl
                  | refine Rg.build_cons (m := 9) (Rg.one_und 7 114 false (by rfl) (by rfl) (by rfl) (by rfl)) ?_ rfl
                  | refine Rg.build_cons (m := 9) (r := Rg.eq _) (Rg.one_yes 7 114 false (by rfl) (by rfl) (by rfl) (by rfl) (by (intro ax wx hk Kx hK; have k2 := hk.base 2 _ rfl rfl; have hj := hk.j; clear hk; go_simp; refine hK _ _ ?_ (Below.refl _ _); apply Rg.mk))) ?_ rfl
                first
                  | refine Rg.build_cons (m := 10) (Rg.one_no 7 114 false (by rfl) (by rfl) (by rfl) (by rfl)) ?_ rfl
                  | refine Rg.build_cons (m := 10) (Rg.one_und 7 114 false (by rfl) (by rfl) (by rfl) (by rfl)) ?_ rfl
                  | refine Rg.build_cons (m := 10) (r := Rg.eq _) (Rg.one_yes 7 114 false (by rfl) (by rfl) (by rfl) (by rfl) (by (intro ax wx hk Kx hK; obtain ⟨v115, k115, h115⟩ := hk.dep 8 115 _ rfl rfl rfl; (first | (cases (h115 : v115 = _)) | (obtain ⟨rfl, h115⟩ := h115) | skip); have hj := hk.j; clear hk; go_simp; refine hK _ _ ?_ (Below.refl _ _); apply Rg.mk))) ?_ rfl
                first
                  | refine Rg.build_cons (m := 11) (Rg.one_no 7 114 false (by rfl) (by rfl) (by rfl) (by rfl)) ?_ rfl
                  | refine Rg.build_cons (m := 11) (Rg.one_und 7 114 false (by rfl) (by rfl) (by rfl) (by rfl)) ?_ rfl
                  | refine Rg.build_cons (m := 11) (r := Rg.eq _) (Rg.one_yes 7 114 false (by rfl) (by rfl) (by rfl) (by rfl) (by (intro ax wx hk Kx hK; have k4 := hk.base 4 _ rfl rfl; have hj := hk.j; clear hk; go_simp; refine hK _ _ ?_ (Below.refl _ _); apply Rg.mk))) ?_ rfl
                first
                  | refine Rg.build_cons (m := 12) (Rg.one_no 7 114 false (by rfl) (by rfl) (by rfl) (by rfl)) ?_ rfl
                  | refine Rg.build_cons (m := 12) (Rg.one_und 7 114 false (by rfl) (by rfl) (by rfl) (by rfl)) ?_ rfl
                  | refine Rg.build_cons (m := 12) (r := Rg.eq _) (Rg.one_yes 7 114 false (by rfl) (by rfl) (by rfl) (by rfl) (by (intro ax wx hk Kx hK; obtain ⟨v117, k117, h117⟩ := hk.dep 10 117 _ rfl rfl rfl; (first | (cases (h117 : v117 = _)) | (obtain ⟨rfl, h117⟩ := h117) | skip); have hj := hk.j; clear hk; have q0 : wx.cell? ⟨w.heap.size, 0, none⟩ = some (.int .i64 L) := hj.1.cell 0 _ rfl; have q4 : wx.cell? ⟨w.heap.size, 4, none⟩ = some (.int .u8 M) := hj.1.cell 4 _ rfl; have q1 := hj.2.1; go_simp; refine hK _ _ ?_ (Below.refl _ _); apply Rg.mk))) ?_ rfl
                first
                  | refine Rg.build_cons (m := 13) (Rg.one_no 7 114 false (by rfl) (by rfl) (by rfl) (by rfl)) ?_ rfl
                  | refine Rg.build_cons (m := 13) (Rg.one_und 7 114 false (by rfl) (by rfl) (by rfl) (by rfl)) ?_ rfl
                  | refine Rg.build_cons (m := 13) (r := Rg.eq _) (Rg.one_yes 7 114 false (by rfl) (by rfl) (by rfl) (by rfl) (by (intro ax wx hk Kx hK; obtain ⟨v116, k116, h116⟩ := hk.dep 9 116 _ rfl rfl rfl; (first | (cases (h116 : v116 = _)) | (obtain ⟨rfl, h116⟩ := h116) | skip); obtain ⟨v118, k118, h118⟩ := hk.dep 11 118 _ rfl rfl rfl; (first | (cases (h118 : v118 = _)) | (obtain ⟨rfl, h118⟩ := h118) | skip); have hj := hk.j; clear hk; go_simp; refine hK _ _ ?_ (Below.refl _ _); apply Rg.mk))) ?_ rfl
                refine Rg.build_cons (m := 14) (r := Rg.eq _) (Rg.one_plain (by rfl) (by (intro ax wx hk Kx hK; obtain ⟨v114, k114, h114⟩ := hk.dep 7 114 _ rfl rfl rfl; (first | (cases (h114 : v114 = _)) | (obtain ⟨rfl, h114⟩ := h114) | skip); obtain ⟨v119, k119, h119⟩ := hk.dep 12 119 _ rfl rfl rfl; (first | (cases (h119 : v119 = _)) | (obtain ⟨rfl, h119⟩ := h119) | skip); have hj := hk.j; clear hk; go_simp; refine hK _ _ ?_ (Below.refl _ _); apply Rg.mk))) ?_ rfl
                refine Rg.build_end fun wx hj => ?_
                refine Rg.fin_eq rfl ?_
                refine Rg.fin_eq rfl ?_
                refine Rg.fin_eq rfl ?_
                refine Rg.fin_eq rfl ?_
                refine Rg.fin_eq rfl ?_
                refine Rg.fin_eq rfl ?_
                refine Rg.fin_eq rfl ?_
                refine Rg.fin_eq rfl ?_
                refine Rg.fin_eq rfl ?_
                refine Rg.fin_eq rfl ?_
                refine Rg.fin_eq rfl ?_
                refine Rg.fin_eq rfl ?_
                refine Rg.fin_eq rfl ?_
                refine Rg.fin_eq rfl ?_
                refine Rg.fin_nil ?_
                simp only [List.set_cons_zero, List.set_cons_succ]
                have HZ2 := Lib.hid hj.2.2
                clear hj
                go_wp2_with fail
                exact ⟨⟨i + 1, by omega, by go_num, HZ2.out⟩, by simp [intOf]; omega⟩
              · obtain rfl : i = xs.length := by omega
                go_wp2_with fail
                exact ⟨⟨k + 1, by omega, by go_num, HY6.out.trans (HZ.out.mono HY6.out.size)⟩, by simp [intOf]; omega⟩
        · go_wp2_with fail
          exact ⟨⟨k + 1, by omega, by go_num, HY5.out⟩, by simp [intOf]; omega⟩
      · obtain rfl : k = out.length := by omega
        have hc9 := HC2.out.below HY.out
        have c1 : wr.cell? ⟨w.heap.size, 1, none⟩ = some (.int .i64 Q) := hc9.cell 1 _ rfl
        clear hc9
        go_wp2
        go_returns
        exact ⟨rfl, HB2.out.trans (HY.out.mono HB2.out.size)⟩
end Go.Proofs.YtgjcibhhffkemaaGreatDoor.Ve
namespace Go.Proofs.YtgjcibhhffkemaaGreatDoor
open Go.RowKit
section
variable {P : Program} {W : World} {r : Reach} {base : Nat}
theorem open_cells {t : TypeId} {ts : List TypeId} {n : Nat} {v : Value} (ha : (P.underlying t).map (fun d => match d with | .struct _ => true | .array _ _ => true | _ => false) = some true) (hc : P.cellsOf t = n) (hts : P.cellTypes P.depth t = some ts) (hn : ts.length = n)
    (h : Value.okWide P W r base t v) : ∃ cs : Array Value, v = .agg cs ∧ cs.size = n ∧ ∀ (i : Nat) (u : TypeId) (x : Value), ts[i]? = some u → cs[i]? = some x → Cell.okWide P W r base u x := by
  have h' : ∃ cs, v = .agg cs ∧ cs.size = P.cellsOf t ∧ Row.okWide P W r base t cs := by
    unfold Value.okWide at h
    obtain ⟨d, hd, hx⟩ := Option.map_eq_some_iff.1 ha
    rw [hd] at h
    cases d <;> simp at hx <;> exact h
  obtain ⟨cs, rfl, hs, ts', hts', _, hall⟩ := h'
  obtain rfl : ts = ts' := by rw [hts] at hts'; exact Option.some.inj hts'
  refine ⟨cs, rfl, hs.trans hc, fun i u x hu hx => ?_⟩
  obtain ⟨u', hu', hok⟩ := hall i x hx
  have hi : i < ts.length := (List.getElem?_eq_some_iff.1 hu).1
  rw [Nat.mod_eq_of_lt hi] at hu'
  rw [hu] at hu'; cases hu'; exact hok
theorem cell_int {u : TypeId} {k : IntKind} {x : Value} (hu : P.underlying u = some (.int k)) (h : Cell.okWide P W r base u x) : ∃ a, x = .int k a ∧ (Lit.int k a).wf = true := by
  unfold Cell.okWide at h; rw [hu] at h
  cases x <;> simp [Cell.ok, hu] at h
  obtain ⟨rfl, hw⟩ := h
  exact ⟨_, rfl, by simpa [Lit.wf, IntKind.has] using hw⟩
end
end Go.Proofs.YtgjcibhhffkemaaGreatDoor
namespace Go.Proofs.YtgjcibhhffkemaaGreatDoor
open Go.RowKit Go.ChangeShapes Go.WideShapes
theorem five_cells {cs : Array Value} (h : cs.size = 5) : ∃ a b c d e, cs = #[a, b, c, d, e] := by
  obtain ⟨l⟩ := cs
  match l, h with
  | [a, b, c, d, e], _ => exact ⟨a, b, c, d, e, rfl⟩
set_option maxRecDepth 100000 in
theorem open_config {W : World} {r : Reach} {base : Nat} {v : Value} (h : Value.okWide Tryz.prog W r base 24 v) : ∃ (L Q C : Int) (R : Nat) (M : Int), v = cfgV L Q C R M ∧ R < 18446744073709551616 ∧ 0 ≤ M ∧ M ≤ 255 := by
  obtain ⟨cs, rfl, hs, hc⟩ := open_cells (ts := [3, 3, 3, 22, 5]) (n := 5) (by kernel_rfl) (by kernel_rfl) (by kernel_rfl) rfl h
  obtain ⟨a, b, c, d, e, rfl⟩ := five_cells hs
  obtain ⟨a, rfl, _⟩ := cell_int Tryz.underlying3 (hc 0 _ _ rfl rfl)
  obtain ⟨b, rfl, _⟩ := cell_int Tryz.underlying3 (hc 1 _ _ rfl rfl)
  obtain ⟨c, rfl, _⟩ := cell_int Tryz.underlying3 (hc 2 _ _ rfl rfl)
  obtain ⟨d, rfl, h3⟩ := cell_int Tryz.underlying22 (hc 3 _ _ rfl rfl)
  obtain ⟨e, rfl, h4⟩ := cell_int Tryz.underlying5 (hc 4 _ _ rfl rfl)
  simp [Lit.wf, IntKind.min, IntKind.max, IntKind.signed, IntKind.bits] at h3 h4
  obtain ⟨n, rfl⟩ : ∃ n : Nat, d = (n : Int) := ⟨d.toNat, by omega⟩
  exact ⟨a, b, c, n, e, rfl, by omega, by omega, by omega⟩
end Go.Proofs.YtgjcibhhffkemaaGreatDoor
namespace Go.Proofs.YtgjcibhhffkemaaGreatDoor
open Go.RowKit Go.ChangeShapes Go.WideShapes
section
variable {H : Type} {enc : TypeId × Value → H} {P : Program} {W : World} {base : Nat} {spare : Nat → Bool} {held : Bool} {t e : TypeId}
theorem open_slice {a : Option Addr} {len cap : Nat} {d : DataW H} {ps : List MemPlace} {ts : List TypeId} {ds : List (DataW H)} {j : Nat}
    (hsz : (DataW.weightsEach P ts ds).all (· ≤ reachBytes) = true) (ht : ts[j]? = some t) (hd : ds[j]? = some d) (hu : P.underlying t = some (.slice e)) {B : Nat} (hB : P.bytesOf e = B)
    (h : DataW.Trod enc P W base spare held t (.slice a len cap) d ps) :
    (a = none ∧ len = 0 ∧ cap = 0) ∨ ∃ (x : Addr) (el : List (DataW H × List MemPlace)) (n : Nat), a = some x ∧ len ≤ cap ∧ cap ≤ maxLen ∧ len * B ≤ 140737488351232 ∧ el.length = len ∧
      ∀ i, i < len → (W.cells? base (x.add (i * P.cellsOf e)) (P.cellsOf e)).bind (DataW.trod enc P W base spare held n e) = el[i]? := by
  obtain ⟨fuel, hf⟩ := h
  rcases DataW.trod_slice hu hf with ⟨hcs, _⟩ | ⟨x, l, c, elems, rest, n, _, hcs, hx, _, hl, hm, hlen, hel, _, _⟩
  · simp [Value.cells] at hcs
    exact .inl hcs
  · simp [Value.cells] at hcs
    obtain ⟨rfl, rfl, rfl⟩ := hcs
    obtain ⟨hx, _⟩ := Prod.mk.inj hx
    subst hx
    have z := sized_slice hsz ht hd hu
    rw [hB] at z
    simp only [List.length_map] at z
    refine .inr ⟨x, elems, n, rfl, hl, hm, ?_, hlen, hel⟩
    exact Nat.le_trans (Nat.mul_le_mul_right _ (by omega)) z
end
end Go.Proofs.YtgjcibhhffkemaaGreatDoor
namespace Go.Proofs.YtgjcibhhffkemaaGreatDoor.verdictSure
open Go.ChangeShapes Go.WideShapes Go.ChangeAt Go.RowKit Go.Joins
open Go.ChangeMaps (open_string shut_string)
theorem own : ownKnob Tryz.prog.godebug = none := by kernel_rfl
theorem laidOut : laidOutB Tryz.prog = true := by kernel_rfl
def laid : List (String × DataW Unit) := [("unicode/utf8.acceptRanges", Rows.laid_unicode_utf8_acceptRanges), ("errors.errorType", Rows.laid_errors_errorType), ("unicode/utf8.first", Rows.laid_unicode_utf8_first)]
theorem et : Tryz.prog.globalNamed "errors.errorType" = some 0 := by kernel_rfl
theorem rt : (Tryz.prog.cutTypes.find? (·.1 == "internal/reflectlite.rtype")).map (·.2) = some 129 := by kernel_rfl
theorem oneRow : ((List.range 209).filter fun t => Tryz.prog.rowNamed t [101, 114, 114, 111, 114]) = [28] := by kernel_rfl
theorem tsize : Tryz.prog.types.size = 209 := by kernel_rfl
theorem handle_of_laid {W : World} (h : laidMetH Tryz.prog laid W) : W.cell? ⟨0, 0, none⟩ = some (.iface 129 (.agg #[.pointer (some ⟨5, 28, none⟩)])) := by
  have h' : laidMet Tryz.prog (laid.filter fun x => x.2.handleName?.isNone) W ∧ handlesMet Tryz.prog [("errors.errorType", Rows.laid_errors_errorType)] W := h
  obtain ⟨name, u, ty, e1, e2, e3, e4, e5⟩ := h'.2 _ (List.mem_singleton.2 rfl)
  have en : name = [101, 114, 114, 111, 114] := (Option.some.inj e1).symm
  subst en
  obtain rfl := Option.some.inj (rt.symm.trans e2)
  have hm : ty ∈ (List.range 209).filter fun t => Tryz.prog.rowNamed t [101, 114, 114, 111, 114] := List.mem_filter.2 ⟨List.mem_range.2 (by rw [← tsize]; exact e3), e4⟩
  rw [oneRow] at hm
  obtain rfl := List.mem_singleton.1 hm
  have hh : typeHandle Tryz.prog 28 = .pointer (some ⟨5, 28, none⟩) := by kernel_rfl
  rw [hh] at e5
  simpa using World.var?_cell et e5 0
noncomputable def laidW (os : Os) : World :=
  let w0 := World.laidAll Tryz.prog os (laid.filter fun x => x.2.handleName?.isNone)
  { w0 with heap := w0.heap.modify 0 fun
      | .cells _ t frozen => .cells #[.iface 129 (.agg #[.pointer (some ⟨5, 28, none⟩)])] t frozen
      | o => o }
set_option maxRecDepth 100000 in
set_option maxHeartbeats 1000000 in
theorem lifted (os : Os) (started : os.Started) (H : Type) (enc : TypeId × Value → H) :
    ReturnsInHanded {} Tryz.checked os 5 .any (fun w args => (Rows.verdictSureSpec.pre enc Tryz.prog Tryz.f5 [] false w args ∧ laidMetH Tryz.prog laid w) ∧ sizedMet enc Tryz.prog Tryz.f5 (OpenSpec.ofChange Rows.verdictSureSpec) false w args) (Rows.verdictSureSpec.post enc Tryz.prog Tryz.f5 false true false false) := by
  refine returnsInHanded_of_change_and (C := Tryz.checked) (X := fun w _ => laidMetH Tryz.prog laid w) (fun _ _ _ hh h => h.of_heap hh) own started (by kernel_rfl) Tryz.func5
    (ChangeSpec.witness_shaped (enc := enc) (C := Tryz.checked) (os := os) (X := fun w _ => laidMetH Tryz.prog laid w) false (laidW os) #[.string ByteArray.empty, .agg #[.int .i64 0, .int .i64 0, .int .i64 0, .int .u64 0, .int .u8 0], .slice none 0 0] 8 (World.laidAll_os _ _ _)
      (World.shaped_of_ZipB (by kernel_rfl) (by kernel_rfl)) (by kernel_rfl) (by kernel_rfl) (by kernel_rfl)
      (laidMetH_of_parts (laidMet_of_run' 40 (by kernel_rfl) (by kernel_rfl)) (by kernel_rfl))) ?_
  intro W base args ds gs before hval0 hW hcnd hsz0 hL _
  have hsz : (DataW.weightsEach Tryz.prog (Tryz.f5.params.toList ++ Rows.verdictSureSpec.plain.varTypes Tryz.prog) (ds ++ gs)).all (· ≤ reachBytes) = true := hsz0
  have hval : ∀ (j : Nat) t v, Tryz.f5.params[j]? = some t → args[j]? = some v → Value.okWide Tryz.prog W .any base t v := hval0
  have hW' := hW
  obtain ⟨p, q, hA0, hV, rfl, hfz, hnd⟩ := hW
  have hA : DataW.TrodAll enc Tryz.prog W 0 (fun _ => true) true Tryz.f5.params.toList args.toList ds p := hA0
  rw [Tryz.params5] at hA hval hsz
  obtain ⟨v0, vs0, d0, ds0, p0, q0, hargs, rfl, rfl, h0, r0⟩ := trodAll_cons hA
  obtain ⟨v1, vs1, d1, ds1, p1, q1, rfl, rfl, rfl, h1, r1⟩ := trodAll_cons r0
  obtain ⟨v2, vs2, d2, ds2, p2, q2, rfl, rfl, rfl, h2, r2⟩ := trodAll_cons r1
  obtain ⟨rfl, rfl, rfl⟩ := trodAll_nil r2
  obtain rfl : args = #[v0, v1, v2] := by cases args; simp_all
  obtain ⟨rfl, rfl⟩ := trodVars_none hV
  obtain ⟨a0, rfl, rfl, rfl, y0⟩ := open_string Tryz.underlying9 (hval 0 9 v0 rfl rfl) h0
  have w0 : a0.size ≤ 140737488351232 := by
    have z := sized_string hsz (j := 0) (t := 9) rfl rfl
    rw [Array.length_toList] at z
    exact z
  have k1 := h1
  have lt1 : ∀ x ∈ p1, x.block < W.heap.size := by obtain ⟨m, hm⟩ := k1; exact DataW.trod_lt m _ _ _ hm
  have o1 := hval 1 24 v1 rfl rfl
  obtain ⟨s2, len2, cap2, rfl⟩ := okWide_slice Tryz.underlying53 (hval 2 53 v2 rfl rfl)
  have k2 := h2
  have lt2 : ∀ x ∈ p2, x.block < W.heap.size := by obtain ⟨m, hm⟩ := k2; exact DataW.trod_lt m _ _ _ hm
  have y2 := open_slice hsz (j := 2) (t := 53) rfl rfl Tryz.underlying53 (B := 1) (by kernel_rfl) h2
  obtain ⟨z2, R2⟩ : ∃ zs, RdK .u8 W (.slice s2 len2 cap2) zs := by
    obtain ⟨fuel, hf⟩ := h2
    rcases open_ints Tryz.underlying53 Tryz.underlying5 (by kernel_rfl) hf with ⟨hcs, _⟩ | ⟨x, l, c, zs, hcs, _, hl, hm, hz, _, hcell, hwz⟩
    · simp [Value.cells] at hcs
      obtain ⟨rfl, rfl, rfl⟩ := hcs
      exact ⟨[], RdK.nilv⟩
    · simp [Value.cells] at hcs
      obtain ⟨rfl, rfl, rfl⟩ := hcs
      exact ⟨zs.take len2, RdK.mk hl (by simpa using hz) hcell hwz (by rcases y2 with ⟨_, h, _⟩ | ⟨_, _, _, _, _, _, h, _⟩ <;> omega)⟩
  have he := handle_of_laid hL
  obtain ⟨L, Q, C, R, M, rfl, hR, hM0, hM1⟩ := open_config o1
  clear hA0 hval0 hsz0 hsz
  refine (Ve.verdictSure_walk a0 L Q C R M _ _ W hR hM0 hM1 he (rdB_of R2)).mono fun e W' ⟨he, bel⟩ => ?_
  subst he
  exact ⟨_, rfl, _, _, _, [], _, [], hW', trodAll_mk1 (shut_bool Tryz.underlying4 _), (trodAll_cons_mk (shut_string Tryz.underlying9 y0) (trodAll_cons_mk (Below.trod laidOut (by kernel_rfl) (of_decide_eq_true (by kernel_rfl)) k1 bel lt1) (trodAll_cons_mk (Below.trod laidOut (by kernel_rfl) (of_decide_eq_true (by kernel_rfl)) k2 bel lt2) trodAll_mk0))), rfl, bel.frame _, fun h => by cases h⟩
theorem over : Rows.verdictSureRow.holds Tryz.pinned (OpenSpec.ofChange Rows.verdictSureSpec) :=
  OpenClaim.holds_of_wide 5 Tryz.f5 rfl rfl rfl rfl rfl rfl rfl ⟨rfl, rfl, rfl, rfl, rfl⟩ rfl rfl rfl rfl rfl (by kernel_rfl) Tryz.func5 (by kernel_rfl)
    (of_decide_eq_true (by kernel_rfl)) (by unfold Func.isWrapper; first | (rw [if_pos (by decide +kernel)]; kernel_rfl) | (rw [if_neg (by decide +kernel)]; exact ⟨rfl, rfl⟩))
    (fun os started H enc _ => lifted os started H enc)
set_option maxRecDepth 100000 in
theorem card_holds : Claim7.holds Tryz.pinned (.plain (OpenSpec.ofChange Rows.verdictSureSpec)) Rows.verdictSureCard :=
  Claim7.holds_tied_plain_at .later [] [.data, .handle, .pinned] true (true, "222d176d14b0ad36ababa9cc0c4aab037bc55a31280a875daa467cdae0875825") true over (fun _ h => by cases h) (by kernel_rfl) (fun _ h => by cases h) verdictSure_row_tie rfl ⟨rfl, rfl⟩ (by kernel_rfl) rfl
    (fun f fn hf hfn => by
      obtain rfl : f = 5 := Option.some.inj ((show Tryz.prog.funcNamed "snaffle/snafflelaw15.VerdictSure" = some 5 by kernel_rfl).symm.trans hf) |>.symm
      obtain rfl : fn = Tryz.f5 := (Option.some.inj (Tryz.func5.symm.trans hfn)).symm
      exact ⟨by kernel_rfl, fun j t ht => by
        rw [Tryz.params5] at ht
        have hm : t ∈ [9, 24, 53] := by simpa using Array.mem_of_getElem? ht
        have hall : ([9, 24, 53].all fun u => !Tryz.prog.wantsStandIn u) = true := by kernel_rfl
        exact (show Tryz.prog.wantsStandIn t = false by simpa using List.all_eq_true.1 hall t hm)⟩)
    (by kernel_rfl)
end Go.Proofs.YtgjcibhhffkemaaGreatDoor.verdictSure
namespace Go.Proofs.YtgjcibhhffkemaaGreatDoor
theorem verdictSure_holds : Rows.VerdictSureCardSaid := verdictSure.card_holds
end Go.Proofs.YtgjcibhhffkemaaGreatDoor
