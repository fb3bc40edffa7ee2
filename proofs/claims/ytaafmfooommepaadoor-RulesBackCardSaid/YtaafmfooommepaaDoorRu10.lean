/- Spot; two lists of rules that are the same. -/
import Derived.Test.YtaafmfooommepaaDoorRu9
import Derived.Laws.StructEq
set_option linter.unusedVariables false
set_option linter.unusedSimpArgs false
namespace Go.Proofs.YtaafmfooommepaaDoor
open Go.RowKit
set_option maxRecDepth 100000 in
theorem spot_nil (w : World) : Calls Tryd.prog 9 #[.nilIface] w fun e w' => e = .returned (.tuple #[.int .i64 0, .int .i64 0]) ∧ w' = w := by
  have h1 : (binOp BinOp.eql 25 .nilIface .nilIface).run Tryd.prog w = .ok (.bool true) w := by rfl
  go_enter Tryd.func9, Tryd.ntmps9
  go_wp2
  go_returns
  exact ⟨rfl, rfl⟩
set_option maxRecDepth 100000 in
theorem spot_some (b : Nat) (x c : Int) (w : World) (h : AtG w b 43 #[.int .i64 x, .int .i64 c]) : Calls Tryd.prog 9 #[spotV b] w fun e w' => e = .returned (.tuple #[.int .i64 c, .int .i64 x]) ∧ Below w.heap.size w w' := by
  unfold spotV
  have h1 : (binOp BinOp.eql 25 (.iface 40 (.pointer (some ⟨b, 0, none⟩))) .nilIface).run Tryd.prog w = .ok (.bool false) w := by rfl
  have h2 : (Instr.typeAssert (.iface 40 (.pointer (some ⟨b, 0, none⟩))) 25 40 true).run Tryd.prog w = .ok (.tuple #[.pointer (some ⟨b, 0, none⟩), .bool true]) w := by rfl
  have h3 : (binOp BinOp.neq 40 (.pointer (some ⟨b, 0, none⟩)) (.pointer none)).run Tryd.prog w = .ok (.bool true) w := by rfl
  have H := Lib.hid h
  have HL := Lib.hid h.lt
  clear h
  go_enter Tryd.func9, Tryd.ntmps9
  go_upto_region 5 with (fail)
  refine Rg.wp_region_each (by kernel_rfl) (fun w' => Below w.heap.size w w') (fun w1 w2 h hb => h.trans (hb.mono h.size)) (by kernel_rfl) (by kernel_rfl) (Below.refl _ _) ?_
  show Rg.Build _ _ _ _ _ 0 [_, _, _, _, _, _, _, _, _, _] []
  refine Rg.build_cons (m := 1) (r := Rg.eq _) (Rg.one_plain (by rfl) (by (intro ax wx hk Kx hK; have k4 := hk.base 4 _ rfl rfl; have hj := hk.j; clear hk; have z0 : wx.cell? ⟨b, 0, none⟩ = some (.int .i64 x) := (hj.cell (p := ⟨b, 0, none⟩) HL.out).trans (H.out.cell 0 _ rfl); have z1 : wx.cell? ⟨b, 1, none⟩ = some (.int .i64 c) := (hj.cell (p := ⟨b, 1, none⟩) HL.out).trans (H.out.cell 1 _ rfl); go_simp; refine hK _ _ ?_ (Below.refl _ _); apply Rg.mk))) ?_ rfl
  refine Rg.build_cons (m := 2) (r := Rg.eq _) (Rg.one_plain (by rfl) (by (intro ax wx hk Kx hK; obtain ⟨v18, k18, h18⟩ := hk.dep 0 18 _ rfl rfl rfl; (first | (cases (h18 : v18 = _)) | (obtain ⟨rfl, h18⟩ := h18) | skip); have hj := hk.j; clear hk; have z0 : wx.cell? ⟨b, 0, none⟩ = some (.int .i64 x) := (hj.cell (p := ⟨b, 0, none⟩) HL.out).trans (H.out.cell 0 _ rfl); have z1 : wx.cell? ⟨b, 1, none⟩ = some (.int .i64 c) := (hj.cell (p := ⟨b, 1, none⟩) HL.out).trans (H.out.cell 1 _ rfl); go_simp; refine hK _ _ ?_ (Below.refl _ _); apply Rg.mk))) ?_ rfl
  refine Rg.build_cons (m := 3) (r := Rg.eq _) (Rg.one_plain (by rfl) (by (intro ax wx hk Kx hK; obtain ⟨v19, k19, h19⟩ := hk.dep 1 19 _ rfl rfl rfl; (first | (cases (h19 : v19 = _)) | (obtain ⟨rfl, h19⟩ := h19) | skip); have hj := hk.j; clear hk; have z0 : wx.cell? ⟨b, 0, none⟩ = some (.int .i64 x) := (hj.cell (p := ⟨b, 0, none⟩) HL.out).trans (H.out.cell 0 _ rfl); have z1 : wx.cell? ⟨b, 1, none⟩ = some (.int .i64 c) := (hj.cell (p := ⟨b, 1, none⟩) HL.out).trans (H.out.cell 1 _ rfl); go_simp; refine hK _ _ ?_ (Below.refl _ _); apply Rg.mk))) ?_ rfl
  refine Rg.build_cons (m := 4) (r := Rg.eq _) (Rg.one_plain (by rfl) (by (intro ax wx hk Kx hK; obtain ⟨v20, k20, h20⟩ := hk.dep 2 20 _ rfl rfl rfl; (first | (cases (h20 : v20 = _)) | (obtain ⟨rfl, h20⟩ := h20) | skip); have hj := hk.j; clear hk; have z0 : wx.cell? ⟨b, 0, none⟩ = some (.int .i64 x) := (hj.cell (p := ⟨b, 0, none⟩) HL.out).trans (H.out.cell 0 _ rfl); have z1 : wx.cell? ⟨b, 1, none⟩ = some (.int .i64 c) := (hj.cell (p := ⟨b, 1, none⟩) HL.out).trans (H.out.cell 1 _ rfl); go_simp; refine hK _ _ ?_ (Below.refl _ _); apply Rg.mk))) ?_ rfl
  refine Rg.build_cons (m := 5) (r := Rg.eq _) (Rg.one_plain (by rfl) (by (intro ax wx hk Kx hK; have k4 := hk.base 4 _ rfl rfl; have hj := hk.j; clear hk; have z0 : wx.cell? ⟨b, 0, none⟩ = some (.int .i64 x) := (hj.cell (p := ⟨b, 0, none⟩) HL.out).trans (H.out.cell 0 _ rfl); have z1 : wx.cell? ⟨b, 1, none⟩ = some (.int .i64 c) := (hj.cell (p := ⟨b, 1, none⟩) HL.out).trans (H.out.cell 1 _ rfl); go_simp; refine hK _ _ ?_ (Below.refl _ _); apply Rg.mk))) ?_ rfl
  refine Rg.build_cons (m := 6) (r := Rg.eq _) (Rg.one_plain (by rfl) (by (intro ax wx hk Kx hK; obtain ⟨v22, k22, h22⟩ := hk.dep 4 22 _ rfl rfl rfl; (first | (cases (h22 : v22 = _)) | (obtain ⟨rfl, h22⟩ := h22) | skip); have hj := hk.j; clear hk; have z0 : wx.cell? ⟨b, 0, none⟩ = some (.int .i64 x) := (hj.cell (p := ⟨b, 0, none⟩) HL.out).trans (H.out.cell 0 _ rfl); have z1 : wx.cell? ⟨b, 1, none⟩ = some (.int .i64 c) := (hj.cell (p := ⟨b, 1, none⟩) HL.out).trans (H.out.cell 1 _ rfl); go_simp; refine hK _ _ ?_ (Below.refl _ _); apply Rg.mk))) ?_ rfl
  refine Rg.build_cons (m := 7) (r := Rg.eq _) (Rg.one_plain (by rfl) (by (intro ax wx hk Kx hK; obtain ⟨v23, k23, h23⟩ := hk.dep 5 23 _ rfl rfl rfl; (first | (cases (h23 : v23 = _)) | (obtain ⟨rfl, h23⟩ := h23) | skip); have hj := hk.j; clear hk; have z0 : wx.cell? ⟨b, 0, none⟩ = some (.int .i64 x) := (hj.cell (p := ⟨b, 0, none⟩) HL.out).trans (H.out.cell 0 _ rfl); have z1 : wx.cell? ⟨b, 1, none⟩ = some (.int .i64 c) := (hj.cell (p := ⟨b, 1, none⟩) HL.out).trans (H.out.cell 1 _ rfl); go_simp; refine hK _ _ ?_ (Below.refl _ _); apply Rg.mk))) ?_ rfl
  refine Rg.build_cons (m := 8) (r := Rg.eq _) (Rg.one_plain (by rfl) (by (intro ax wx hk Kx hK; obtain ⟨v24, k24, h24⟩ := hk.dep 6 24 _ rfl rfl rfl; (first | (cases (h24 : v24 = _)) | (obtain ⟨rfl, h24⟩ := h24) | skip); have hj := hk.j; clear hk; have z0 : wx.cell? ⟨b, 0, none⟩ = some (.int .i64 x) := (hj.cell (p := ⟨b, 0, none⟩) HL.out).trans (H.out.cell 0 _ rfl); have z1 : wx.cell? ⟨b, 1, none⟩ = some (.int .i64 c) := (hj.cell (p := ⟨b, 1, none⟩) HL.out).trans (H.out.cell 1 _ rfl); go_simp; refine hK _ _ ?_ (Below.refl _ _); apply Rg.mk))) ?_ rfl
  refine Rg.build_cons (m := 9) (r := Rg.eq _) (Rg.one_plain (by rfl) (by (intro ax wx hk Kx hK; obtain ⟨v21, k21, h21⟩ := hk.dep 3 21 _ rfl rfl rfl; (first | (cases (h21 : v21 = _)) | (obtain ⟨rfl, h21⟩ := h21) | skip); have hj := hk.j; clear hk; have z0 : wx.cell? ⟨b, 0, none⟩ = some (.int .i64 x) := (hj.cell (p := ⟨b, 0, none⟩) HL.out).trans (H.out.cell 0 _ rfl); have z1 : wx.cell? ⟨b, 1, none⟩ = some (.int .i64 c) := (hj.cell (p := ⟨b, 1, none⟩) HL.out).trans (H.out.cell 1 _ rfl); go_simp; refine hK _ _ ?_ (Below.refl _ _); apply Rg.mk))) ?_ rfl
  refine Rg.build_cons (m := 10) (r := Rg.eq _) (Rg.one_plain (by rfl) (by (intro ax wx hk Kx hK; obtain ⟨v25, k25, h25⟩ := hk.dep 7 25 _ rfl rfl rfl; (first | (cases (h25 : v25 = _)) | (obtain ⟨rfl, h25⟩ := h25) | skip); have hj := hk.j; clear hk; have z0 : wx.cell? ⟨b, 0, none⟩ = some (.int .i64 x) := (hj.cell (p := ⟨b, 0, none⟩) HL.out).trans (H.out.cell 0 _ rfl); have z1 : wx.cell? ⟨b, 1, none⟩ = some (.int .i64 c) := (hj.cell (p := ⟨b, 1, none⟩) HL.out).trans (H.out.cell 1 _ rfl); go_simp; refine hK _ _ ?_ (Below.refl _ _); apply Rg.mk))) ?_ rfl
  refine Rg.build_end fun wx hj => ?_
  refine Rg.fin_eq rfl ?_
  refine Rg.fin_eq rfl ?_
  refine Rg.fin_eq rfl ?_
  refine Rg.fin_eq rfl ?_
  refine Rg.fin_eq rfl ?_
  refine Rg.fin_eq rfl ?_
  refine Rg.fin_eq rfl ?_
  refine Rg.fin_eq rfl ?_
  refine Rg.fin_eq rfl ?_
  refine Rg.fin_eq rfl ?_
  refine Rg.fin_nil ?_
  simp only [List.set_cons_zero, List.set_cons_succ]
  have HJ := Lib.hid hj
  clear hj
  go_wp2_with fail
  go_returns
  exact ⟨rfl, HJ.out⟩
/-! ### a rule is itself -/
theorem part3 (a b : ByteArray) (c : Bool) : (∀ w : World, (part 9 #[.string a, .string b, .bool c] 0).run Tryd.prog w = .ok (.string a) w) ∧ (∀ w : World, (part 9 #[.string a, .string b, .bool c] 1).run Tryd.prog w = .ok (.string b) w) ∧ (∀ w : World, (part 4 #[.string a, .string b, .bool c] 2).run Tryd.prog w = .ok (.bool c) w) :=
  ⟨fun _ => by kernel_rfl, fun _ => by kernel_rfl, fun _ => by kernel_rfl⟩
theorem fields_rule : (Tryd.prog.fieldsOf 35).toList.map (fun f => (f.name == "_", f.type, f.offset)) = [(false, 9, 0), (false, 9, 1), (false, 4, 2)] := by kernel_rfl
theorem eq_rule (a b : ByteArray) (c : Bool) (w : World) : (Op.equalIn 10000 35 (.agg #[.string a, .string b, .bool c]) (.agg #[.string a, .string b, .bool c])).run Tryd.prog w = .ok true w := by
  have h := run_equalIn_struct (P := Tryd.prog) w 9999 35 #[.string a, .string b, .bool c] #[.string a, .string b, .bool c] (by kernel_rfl) (by kernel_rfl)
  have hf := fields_rule
  obtain ⟨p0, p1, p2⟩ := part3 a b c
  generalize (Tryd.prog.fieldsOf 35).toList = fs at *
  rw [show (10000 : Nat) = 9999 + 1 from rfl, h]
  have hlen := congrArg List.length hf
  simp only [List.length_map, List.length_cons, List.length_nil] at hlen
  obtain ⟨f0, f1, f2, rfl⟩ : ∃ a b c, fs = [a, b, c] := by
    cases fs with
    | nil => simp at hlen
    | cons a fs =>
      cases fs with
      | nil => simp at hlen
      | cons b fs =>
        cases fs with
        | nil => simp at hlen
        | cons c fs =>
          cases fs with
          | nil => exact ⟨a, b, c, rfl⟩
          | cons d fs => simp at hlen
  simp only [List.map_cons, List.map_nil, List.cons.injEq, Prod.mk.injEq, and_true] at hf
  obtain ⟨⟨n0, t0, o0⟩, ⟨n1, t1, o1⟩, ⟨n2, t2, o2⟩⟩ := hf
  have m0 : f0.name ≠ "_" := by simpa using n0
  have m1 : f1.name ≠ "_" := by simpa using n1
  have m2 : f2.name ≠ "_" := by simpa using n2
  simp only [Op.eqFields, if_pos m0, if_pos m1, if_pos m2, t0, o0, t1, o1, t2, o2, Sem.run_bind, p0, p1, p2, Result.andThen_ok,
    run_equalIn_string w 9998 9 _ _ Tryd.underlying9, run_equalIn_bool w 9998 4 _ _ Tryd.underlying4, beq_self_eq_true, Bool.not_true, Bool.false_eq_true, if_false, Sem.run_pure]
theorem RulesAt.form {B : Nat} {w : World} {v : Value} {l : List Rl} (h : RulesAt B w v l) : ∃ a c, v = .slice a l.length c := by
  rcases h with ⟨rfl, rfl⟩ | ⟨g, c, _, rfl, _⟩
  · exact ⟨_, _, rfl⟩
  · exact ⟨_, _, rfl⟩
theorem RulesAt.get {B k c : Nat} {w : World} {a : Option Addr} {l : List Rl} {q : Rl} (h : RulesAt B w (.slice a l.length c) l) (hk : l[k]? = some q) : ∃ g, a = some ⟨g, 0, none⟩ ∧ l.length ≤ c ∧ w.cell? ⟨g, k * 3, none⟩ = some (.string q.name) ∧ w.cell? ⟨g, k * 3 + 1, none⟩ = some (.string q.pat) ∧ w.cell? ⟨g, k * 3 + 2, none⟩ = some (.bool q.luhn) := by
  rcases h with ⟨rfl, _⟩ | ⟨g, c', _, h1, h2, h3⟩
  · simp at hk
  · cases h1
    exact ⟨g, rfl, h2, h3 k q hk⟩
set_option maxRecDepth 100000 in
set_option maxHeartbeats 1600000 in
theorem sameX {B B' : Nat} (w : World) (v v' : Value) (l : List Rl) (h : RulesAt B w v l) (h' : RulesAt B' w v' l) (hl : l.length ≤ 1000) : Calls Tryd.prog 10 #[v, v'] w fun e w' => e = .returned (.int .i64 1) ∧ Below w.heap.size w w' := by
  obtain ⟨a, c, rfl⟩ := h.form
  obtain ⟨a', c', rfl⟩ := h'.form
  have H := Lib.hid h
  have H' := Lib.hid h'
  have hlI : (l.length : Int) ≤ 1000 := by omega
  have es := eq_rule
  clear h h' hl
  go_enter Tryd.func10, Tryd.ntmps10
  go_wp2
  go_loopw [5] (fun i wr => ∃ j : Nat, j ≤ l.length ∧ i = .int .i64 j ∧ Hid (Below w.heap.size w wr)) (fun i _ => l.length - (intOf i).toNat)
  case atStart => exact ⟨0, Nat.zero_le _, rfl, Lib.hid (Below.refl _ _)⟩
  case round =>
    obtain ⟨j, hj, rfl, HB⟩ := hrel
    by_cases hlt : j < l.length
    · have hltI : (j : Int) < l.length := by omega
      have HLT := Lib.hid hlt
      obtain ⟨q, hq⟩ : ∃ q, l[j]? = some q := ⟨_, List.getElem?_eq_getElem hlt⟩
      obtain ⟨g, rfl, -, h0, h1, h2⟩ := H.out.get hq
      obtain ⟨g', rfl, -, h0', h1', h2'⟩ := H'.out.get hq
      have HQ : Hid (w.cell? ⟨g, j * 3, none⟩ = some (.string q.name) ∧ w.cell? ⟨g, j * 3 + 1, none⟩ = some (.string q.pat) ∧ w.cell? ⟨g, j * 3 + 2, none⟩ = some (.bool q.luhn) ∧ w.cell? ⟨g', j * 3, none⟩ = some (.string q.name) ∧ w.cell? ⟨g', j * 3 + 1, none⟩ = some (.string q.pat) ∧ w.cell? ⟨g', j * 3 + 2, none⟩ = some (.bool q.luhn)) := Lib.hid ⟨h0, h1, h2, h0', h1', h2'⟩
      have HK : Hid (∀ wx : World, Below w.heap.size w wx → ∀ (k i : Nat) (u : Value), w.cell? ⟨k, i, none⟩ = some u → wx.cell? ⟨k, i, none⟩ = some u) := Lib.hid (fun wx hb k i u hu => (hb.cell (World.block_lt_of_cell? _ _ hu)).trans hu)
      clear hj hlt hq h0 h1 h2 h0' h1' h2'
      go_upto_region 6 with (fail)
      refine Rg.wp_region_each (by kernel_rfl) (fun w' => Below w.heap.size w w') (fun w1 w2 h hb => h.trans (hb.mono h.size)) (by kernel_rfl) (by kernel_rfl) (HB.out) ?_
      show Rg.Build _ _ _ _ _ 0 [_, _, _, _, _, _, _, _, _] []
      refine Rg.build_cons (m := 1) (r := Rg.eq _) (Rg.one_plain (by rfl) (by (intro ax wx hk Kx hK; have k0 := hk.base 0 _ rfl rfl; have hj := hk.j; clear hk; go_simp; refine hK _ _ ?_ (Below.refl _ _); apply Rg.mk))) ?_ rfl
      refine Rg.build_cons (m := 2) (r := Rg.eq _) (Rg.one_plain (by rfl) (by (intro ax wx hk Kx hK; have k5 := hk.base 5 _ rfl rfl; have hj := hk.j; clear hk; go_simp; refine hK _ _ ?_ (Below.refl _ _); apply Rg.mk))) ?_ rfl
      refine Rg.build_cons (m := 3) (r := Rg.eq _) (Rg.one_plain (by rfl) (by (intro ax wx hk Kx hK; obtain ⟨v17, k17, h17⟩ := hk.dep 0 17 _ rfl rfl rfl; (first | (cases (h17 : v17 = _)) | (obtain ⟨rfl, h17⟩ := h17) | skip); obtain ⟨v18, k18, h18⟩ := hk.dep 1 18 _ rfl rfl rfl; (first | (cases (h18 : v18 = _)) | (obtain ⟨rfl, h18⟩ := h18) | skip); have hj := hk.j; clear hk; go_simp; refine hK _ _ ?_ (Below.refl _ _); apply Rg.mk))) ?_ rfl
      refine Rg.build_cons (m := 4) (r := Rg.eq _) (Rg.one_plain (by rfl) (by (intro ax wx hk Kx hK; obtain ⟨v19, k19, h19⟩ := hk.dep 2 19 _ rfl rfl rfl; (first | (cases (h19 : v19 = _)) | (obtain ⟨rfl, h19⟩ := h19) | skip); have hj := hk.j; clear hk; obtain ⟨z0, z1, z2, y0, y1, y2⟩ := HQ.out; have z0 := HK.out _ hj _ _ _ z0; have z1 := HK.out _ hj _ _ _ z1; have z2 := HK.out _ hj _ _ _ z2; have y0 := HK.out _ hj _ _ _ y0; have y1 := HK.out _ hj _ _ _ y1; have y2 := HK.out _ hj _ _ _ y2; go_simp; refine hK _ _ ?_ (Below.refl _ _); apply Rg.mk))) ?_ rfl
      refine Rg.build_cons (m := 5) (r := Rg.eq _) (Rg.one_plain (by rfl) (by (intro ax wx hk Kx hK; have k1 := hk.base 1 _ rfl rfl; have hj := hk.j; clear hk; go_simp; refine hK _ _ ?_ (Below.refl _ _); apply Rg.mk))) ?_ rfl
      refine Rg.build_cons (m := 6) (r := Rg.eq _) (Rg.one_plain (by rfl) (by (intro ax wx hk Kx hK; have k5 := hk.base 5 _ rfl rfl; have hj := hk.j; clear hk; go_simp; refine hK _ _ ?_ (Below.refl _ _); apply Rg.mk))) ?_ rfl
      refine Rg.build_cons (m := 7) (r := Rg.eq _) (Rg.one_plain (by rfl) (by (intro ax wx hk Kx hK; obtain ⟨v21, k21, h21⟩ := hk.dep 4 21 _ rfl rfl rfl; (first | (cases (h21 : v21 = _)) | (obtain ⟨rfl, h21⟩ := h21) | skip); obtain ⟨v22, k22, h22⟩ := hk.dep 5 22 _ rfl rfl rfl; (first | (cases (h22 : v22 = _)) | (obtain ⟨rfl, h22⟩ := h22) | skip); have hj := hk.j; clear hk; go_simp; refine hK _ _ ?_ (Below.refl _ _); apply Rg.mk))) ?_ rfl
      refine Rg.build_cons (m := 8) (r := Rg.eq _) (Rg.one_plain (by rfl) (by (intro ax wx hk Kx hK; obtain ⟨v23, k23, h23⟩ := hk.dep 6 23 _ rfl rfl rfl; (first | (cases (h23 : v23 = _)) | (obtain ⟨rfl, h23⟩ := h23) | skip); have hj := hk.j; clear hk; obtain ⟨z0, z1, z2, y0, y1, y2⟩ := HQ.out; have z0 := HK.out _ hj _ _ _ z0; have z1 := HK.out _ hj _ _ _ z1; have z2 := HK.out _ hj _ _ _ z2; have y0 := HK.out _ hj _ _ _ y0; have y1 := HK.out _ hj _ _ _ y1; have y2 := HK.out _ hj _ _ _ y2; go_simp; refine hK _ _ ?_ (Below.refl _ _); apply Rg.mk))) ?_ rfl
      refine Rg.build_cons (m := 9) (r := Rg.eq _) (Rg.one_plain (by rfl) (by (intro ax wx hk Kx hK; obtain ⟨v20, k20, h20⟩ := hk.dep 3 20 _ rfl rfl rfl; (first | (cases (h20 : v20 = _)) | (obtain ⟨rfl, h20⟩ := h20) | skip); obtain ⟨v24, k24, h24⟩ := hk.dep 7 24 _ rfl rfl rfl; (first | (cases (h24 : v24 = _)) | (obtain ⟨rfl, h24⟩ := h24) | skip); have hj := hk.j; clear hk; go_simp; refine hK _ _ ?_ (Below.refl _ _); apply Rg.mk))) ?_ rfl
      refine Rg.build_end fun wx hj => ?_
      refine Rg.fin_eq rfl ?_
      refine Rg.fin_eq rfl ?_
      refine Rg.fin_eq rfl ?_
      refine Rg.fin_eq rfl ?_
      refine Rg.fin_eq rfl ?_
      refine Rg.fin_eq rfl ?_
      refine Rg.fin_eq rfl ?_
      refine Rg.fin_eq rfl ?_
      refine Rg.fin_eq rfl ?_
      refine Rg.fin_nil ?_
      simp only [List.set_cons_zero, List.set_cons_succ]
      have HB2 := Lib.hid hj
      clear hj HB
      go_wp2_with fail
      exact ⟨⟨j + 1, HLT.out, by go_num, HB2⟩, by have := HLT.out; simp [intOf]; try omega⟩
    · obtain rfl : j = l.length := by omega
      clear hlt hj
      go_wp2
      go_returns
      exact ⟨rfl, HB.out⟩
end Go.Proofs.YtaafmfooommepaaDoor
