/- The walks of package pack and of PackTells: the text of any name. -/
import Derived.Test.YtklpjlcphikfaaaBase
namespace Go.Proofs.Ytklpjlcphikfaaa
open Go.RowKit
set_option linter.unusedVariables false
set_option maxRecDepth 100000 in
set_option maxHeartbeats 800000 in
theorem up19_any (w : World) : Calls Try.prog 14 #[] w fun e w' => e = .returned (.bool true) ∧ Below w.heap.size w w' := by
  have hN : ∀ w : World, Calls Try.prog 57 #[] w fun e w' => e = .returned (.slice (some ⟨w.heap.size, 0, none⟩) 3 3) ∧ w' = w.alloc (.cells #[.string ⟨#[99, 97, 114, 100]⟩, .string ⟨#[107, 101, 121]⟩, .string ⟨#[116, 111, 107, 101, 110]⟩] 9) := fun w => by
    go_enter Try.func57, Try.ntmps57
    go_wp2
    go_returns
    exact ⟨rfl, rfl⟩
  go_enter Try.func14, Try.ntmps14
  go_wp2_with fail
  refine (hN _).mono ?_; rintro e w' ⟨rfl, rfl⟩
  go_wp2
  go_returns
  exact ⟨rfl, by go_grown⟩
set_option maxRecDepth 100000 in
set_option maxHeartbeats 800000 in
theorem text_0 (a : ByteArray) (w : World) (h0 : (a.toList == ([99, 97, 114, 100] : List UInt8)) = true) : Calls Try.prog 15 #[.string a] w fun e w' => e = .returned (.tuple #[.string ⟨#[99, 97, 114, 100, 32, 92, 100, 123, 49, 51, 44, 49, 54, 125, 32, 108, 117, 104, 110, 10]⟩, .bool true]) ∧ w' = w := by
  go_enter Try.func15, Try.ntmps15
  go_wp2
  go_returns
  exact ⟨rfl, rfl⟩
set_option maxRecDepth 100000 in
set_option maxHeartbeats 800000 in
theorem packTells_0 (a : ByteArray) (w : World) (h0 : (a.toList == ([99, 97, 114, 100] : List UInt8)) = true) : Calls Try.prog 3 #[.string a] w fun e w' => e = .returned (.bool true) ∧ Below w.heap.size w w' := by
  go_enter Try.func3, Try.ntmps3
  go_wp2_with fail
  refine (up19_any _).mono ?_; rintro e w' ⟨rfl, hb⟩
  go_wp2_with fail
  refine (text_0 a _ h0).mono ?_; rintro e w' ⟨rfl, rfl⟩
  go_wp2
  go_returns
  exact ⟨rfl, hb⟩
set_option maxRecDepth 100000 in
set_option maxHeartbeats 800000 in
theorem text_1 (a : ByteArray) (w : World) (h0 : (a.toList == ([99, 97, 114, 100] : List UInt8)) = false) (h1 : (a.toList == ([107, 101, 121] : List UInt8)) = true) : Calls Try.prog 15 #[.string a] w fun e w' => e = .returned (.tuple #[.string ⟨#[107, 101, 121, 32, 115, 107, 45, 91, 97, 45, 122, 48, 45, 57, 93, 123, 49, 50, 125, 32, 112, 108, 97, 105, 110, 10, 112, 117, 98, 32, 112, 107, 45, 91, 97, 45, 122, 48, 45, 57, 93, 123, 49, 50, 125, 32, 112, 108, 97, 105, 110, 10]⟩, .bool true]) ∧ w' = w := by
  go_enter Try.func15, Try.ntmps15
  go_wp2
  go_returns
  exact ⟨rfl, rfl⟩
set_option maxRecDepth 100000 in
set_option maxHeartbeats 800000 in
theorem packTells_1 (a : ByteArray) (w : World) (h0 : (a.toList == ([99, 97, 114, 100] : List UInt8)) = false) (h1 : (a.toList == ([107, 101, 121] : List UInt8)) = true) : Calls Try.prog 3 #[.string a] w fun e w' => e = .returned (.bool true) ∧ Below w.heap.size w w' := by
  go_enter Try.func3, Try.ntmps3
  go_wp2_with fail
  refine (up19_any _).mono ?_; rintro e w' ⟨rfl, hb⟩
  go_wp2_with fail
  refine (text_1 a _ h0 h1).mono ?_; rintro e w' ⟨rfl, rfl⟩
  go_wp2
  go_returns
  exact ⟨rfl, hb⟩
set_option maxRecDepth 100000 in
set_option maxHeartbeats 800000 in
theorem text_2 (a : ByteArray) (w : World) (h0 : (a.toList == ([99, 97, 114, 100] : List UInt8)) = false) (h1 : (a.toList == ([107, 101, 121] : List UInt8)) = false) (h2 : (a.toList == ([116, 111, 107, 101, 110] : List UInt8)) = true) : Calls Try.prog 15 #[.string a] w fun e w' => e = .returned (.tuple #[.string ⟨#[116, 111, 107, 101, 110, 32, 116, 111, 107, 95, 92, 119, 123, 56, 44, 49, 54, 125, 32, 112, 108, 97, 105, 110, 10]⟩, .bool true]) ∧ w' = w := by
  go_enter Try.func15, Try.ntmps15
  go_wp2
  go_returns
  exact ⟨rfl, rfl⟩
set_option maxRecDepth 100000 in
set_option maxHeartbeats 800000 in
theorem packTells_2 (a : ByteArray) (w : World) (h0 : (a.toList == ([99, 97, 114, 100] : List UInt8)) = false) (h1 : (a.toList == ([107, 101, 121] : List UInt8)) = false) (h2 : (a.toList == ([116, 111, 107, 101, 110] : List UInt8)) = true) : Calls Try.prog 3 #[.string a] w fun e w' => e = .returned (.bool true) ∧ Below w.heap.size w w' := by
  go_enter Try.func3, Try.ntmps3
  go_wp2_with fail
  refine (up19_any _).mono ?_; rintro e w' ⟨rfl, hb⟩
  go_wp2_with fail
  refine (text_2 a _ h0 h1 h2).mono ?_; rintro e w' ⟨rfl, rfl⟩
  go_wp2
  go_returns
  exact ⟨rfl, hb⟩
set_option maxRecDepth 100000 in
set_option maxHeartbeats 800000 in
theorem text_3 (a : ByteArray) (w : World) (h0 : (a.toList == ([99, 97, 114, 100] : List UInt8)) = false) (h1 : (a.toList == ([107, 101, 121] : List UInt8)) = false) (h2 : (a.toList == ([116, 111, 107, 101, 110] : List UInt8)) = false) : Calls Try.prog 15 #[.string a] w fun e w' => e = .returned (.tuple #[.string ⟨#[]⟩, .bool false]) ∧ w' = w := by
  go_enter Try.func15, Try.ntmps15
  go_wp2
  go_returns
  exact ⟨rfl, rfl⟩
set_option maxRecDepth 100000 in
set_option maxHeartbeats 800000 in
theorem packTells_3 (a : ByteArray) (w : World) (h0 : (a.toList == ([99, 97, 114, 100] : List UInt8)) = false) (h1 : (a.toList == ([107, 101, 121] : List UInt8)) = false) (h2 : (a.toList == ([116, 111, 107, 101, 110] : List UInt8)) = false) : Calls Try.prog 3 #[.string a] w fun e w' => e = .returned (.bool true) ∧ Below w.heap.size w w' := by
  go_enter Try.func3, Try.ntmps3
  go_wp2_with fail
  refine (up19_any _).mono ?_; rintro e w' ⟨rfl, hb⟩
  go_wp2_with fail
  refine (text_3 a _ h0 h1 h2).mono ?_; rintro e w' ⟨rfl, rfl⟩
  go_wp2
  go_returns
  exact ⟨rfl, hb⟩
theorem packTells_walk (a : ByteArray) (w : World) : Calls Try.prog 3 #[.string a] w fun e w' => e = .returned (.bool true) ∧ Below w.heap.size w w' := by
  cases h0 : (a.toList == ([99, 97, 114, 100] : List UInt8))
  · cases h1 : (a.toList == ([107, 101, 121] : List UInt8))
    · cases h2 : (a.toList == ([116, 111, 107, 101, 110] : List UInt8))
      · exact packTells_3 a w h0 h1 h2
      · exact packTells_2 a w h0 h1 h2
    · exact packTells_1 a w h0 h1
  · exact packTells_0 a w h0
end Go.Proofs.Ytklpjlcphikfaaa
