/- What is read, shown and read again; lines that tell nothing: in plain words. -/
import Derived.Test.YtaafmfooommepaaDoorRu14
set_option linter.unusedVariables false
set_option linter.unusedSimpArgs false
namespace Go.Proofs.YtaafmfooommepaaDoor
theorem app_list (a b : ByteArray) : (a ++ b).data.toList = a.data.toList ++ b.data.toList := by simp
theorem ext_list (s : ByteArray) (a b : Nat) : (s.extract a b).data.toList = (s.data.toList.take b).drop a := by
  simp [List.drop_take, List.extract]
theorem len_list (s : ByteArray) : s.data.toList.length = s.size := by simp
theorem ch_list (s : ByteArray) (p : Nat) : ch s p = match s.data.toList[p]? with | some b => (b.toNat : Int) | none => -1 := by
  by_cases h : p < s.size
  · have h2 : p < s.data.toList.length := by rw [len_list]; exact h
    rw [ch_in h, List.getElem?_eq_getElem h2]; rfl
  · rw [ch_end (by omega), List.getElem?_eq_none (by rw [len_list]; omega)]
theorem ch_app (a b : ByteArray) (p : Nat) : ch (a ++ b) p = if p < a.size then ch a p else ch b (p - a.size) := by
  rw [ch_list, app_list]
  by_cases h : p < a.size
  · rw [if_pos h, List.getElem?_append_left (by rw [len_list]; exact h), ch_list]
  · rw [if_neg h, List.getElem?_append_right (by rw [len_list]; omega), len_list, ch_list]
theorem ch_left {a b : ByteArray} {p : Nat} (h : p < a.size) : ch (a ++ b) p = ch a p := by rw [ch_app, if_pos h]
theorem ch_right (a b : ByteArray) (p : Nat) : ch (a ++ b) (a.size + p) = ch b p := by rw [ch_app, if_neg (by omega), show a.size + p - a.size = p from by omega]
theorem ch_app_ne {a b : ByteArray} {c : Int} (h1 : ∀ i, ch a i ≠ c) (h2 : ∀ i, ch b i ≠ c) (i : Nat) : ch (a ++ b) i ≠ c := by
  rw [ch_app]; split
  · exact h1 _
  · exact h2 _
theorem ch_all {s : ByteArray} {c : Int} (hc : 0 ≤ c) (h : (List.range s.size).all (fun j => decide (ch s j ≠ c)) = true) (i : Nat) : ch s i ≠ c := by
  rcases Nat.lt_or_ge i s.size with h1 | h1
  · exact of_decide_eq_true (List.all_eq_true.1 h i (List.mem_range.2 h1))
  · rw [ch_end h1]; omega
theorem ext_right (a b : ByteArray) (p q : Nat) : (a ++ b).extract (a.size + p) (a.size + q) = b.extract p q := by
  apply WideShapes.bytes_inj
  rw [ext_list, ext_list, app_list, ← len_list a]
  rw [List.take_length_add_append, List.drop_length_add_append]
theorem ext_left (a b : ByteArray) : (a ++ b).extract 0 a.size = a := by
  apply WideShapes.bytes_inj
  rw [ext_list, app_list, ← len_list a]
  simp
theorem ext_mid (a b c : ByteArray) : (a ++ (b ++ c)).extract a.size (a.size + b.size) = b := by
  have := ext_right a (b ++ c) 0 b.size
  rw [Nat.add_zero] at this
  rw [this, ext_left]
theorem ext_tail (a b : ByteArray) : (a ++ b).extract a.size (a ++ b).size = b := by
  have := ext_right a b 0 b.size
  rw [Nat.add_zero] at this
  rw [ByteArray.size_append, this, ext_all]
/-! ### lines of texts put together -/
theorem Lines.shift (c : ByteArray) {b : ByteArray} {p : Nat} {L : List ByteArray} (h : Lines b p L) : Lines (c ++ b) (c.size + p) L := by
  induction h with
  | @last p h h1 =>
    have e := ext_right c b p b.size
    rw [← e, ← ByteArray.size_append]
    refine .last (by rw [ByteArray.size_append]; omega) (fun i hi => ?_)
    rw [ch_app, if_neg (by omega)]
    exact h1 _ (by omega)
  | @more p i L h h1 h2 h3 ih =>
    have e := ext_right c b p i
    rw [← e]
    refine .more (by omega) (by rw [ch_right]; exact h1) (fun j hj hji => ?_) (by rw [Nat.add_assoc]; exact ih)
    rw [ch_app, if_neg (by omega)]
    exact h2 _ (by omega) (by omega)
theorem Lines.cons {a b : ByteArray} {L : List ByteArray} (ha : ∀ i, ch a i ≠ 10) (h : Lines b 0 L) : Lines (a ++ nlS ++ b) 0 (a :: L) := by
  have e0 : (a ++ nlS ++ b).extract 0 a.size = a := by rw [ByteArray.append_assoc]; exact ext_left _ _
  have hz : (a ++ nlS).size = a.size + 1 := by rw [ByteArray.size_append]; rfl
  have h2 := h.shift (a ++ nlS)
  rw [Nat.add_zero, hz] at h2
  have h3 := Lines.more (s := a ++ nlS ++ b) (p := 0) (i := a.size) (Nat.zero_le _) (by
    rw [ch_left (by omega)]
    have := ch_right a nlS 0
    rw [Nat.add_zero] at this
    rw [this]; rfl) (fun j _ hj => by rw [ch_left (by omega), ch_left hj]; exact ha j) h2
  rw [e0] at h3
  exact h3
theorem Lines.no10 {s : ByteArray} {p : Nat} {L : List ByteArray} (h : Lines s p L) : ∀ l ∈ L, ∀ j, ch l j ≠ 10 := by
  induction h with
  | @last p h h1 =>
    intro l hl j
    rw [List.mem_singleton] at hl
    subst hl
    rw [ch_ext (Nat.le_refl _)]
    split
    · exact h1 _ (by omega)
    · decide
  | @more p i L h h1 h2 h3 ih =>
    intro l hl j
    rcases List.mem_cons.1 hl with rfl | hl
    · have := ch_ge (s := s) (p := i) (by omega)
      rw [ch_ext (by omega)]
      split
      · exact h2 _ (by omega) (by omega)
      · decide
    · exact ih l hl j
theorem Lines.sum {s : ByteArray} {p : Nat} {L : List ByteArray} (h : Lines s p L) : (L.map (fun l => l.size + 1)).sum + p = s.size + 1 := by
  induction h with
  | @last p h h1 => simp [ext_size (s := s) (a := p) (b := s.size) (Nat.le_refl _)]; omega
  | @more p i L h h1 h2 h3 ih =>
    have := ch_ge (s := s) (p := i) (by omega)
    rw [List.map_cons, List.sum_cons, ext_size (by omega)]
    omega
/-! ### rules shown -/
def bodyS (r : Rl) : ByteArray := r.name ++ spS ++ r.pat ++ spS ++ (if r.luhn then luhnS else plainS)
theorem lineS_body (r : Rl) : lineS r = bodyS r ++ nlS := rfl
theorem show_from (l : List Rl) : ∀ x : ByteArray, l.foldl (fun a r => a ++ lineS r) x = x ++ showS l := by
  induction l with
  | nil => intro x; simp [showS]
  | cons r l ih =>
    intro x
    rw [List.foldl_cons, ih]
    have : showS (r :: l) = lineS r ++ showS l := by
      unfold showS
      rw [List.foldl_cons, ih]
      simp [showS]
    rw [this, ByteArray.append_assoc]
theorem showS_cons (r : Rl) (l : List Rl) : showS (r :: l) = lineS r ++ showS l := by
  have := show_from l (ByteArray.empty ++ lineS r)
  unfold showS at this ⊢
  rw [List.foldl_cons, this]
  simp
def GoodR (r : Rl) : Prop := Nm r.name ∧ 1 ≤ r.pat.size ∧ ∀ i, ch r.pat i ≠ 10
theorem nm_ne {s : ByteArray} (h : Nm s) {c : Int} (hc : ¬ okc c) (hc0 : 0 ≤ c) (i : Nat) : ch s i ≠ c := by
  rcases Nat.lt_or_ge i s.size with h1 | h1
  · intro e; exact hc (e ▸ h.2.2 i h1)
  · rw [ch_end h1]; omega
theorem ck_ne (b : Bool) (c : Int) (hc : c = 10 ∨ c = 32) (i : Nat) : ch (if b then luhnS else plainS) i ≠ c := by
  rcases hc with rfl | rfl <;> cases b
  · exact ch_all (by decide) (by kernel_rfl) i
  · exact ch_all (by decide) (by kernel_rfl) i
  · exact ch_all (by decide) (by kernel_rfl) i
  · exact ch_all (by decide) (by kernel_rfl) i
theorem body_no10 {r : Rl} (h : GoodR r) (i : Nat) : ch (bodyS r) i ≠ 10 := by
  have hs : ∀ i, ch spS i ≠ 10 := ch_all (by decide) (by kernel_rfl)
  exact ch_app_ne (ch_app_ne (ch_app_ne (ch_app_ne (nm_ne h.1 (by unfold okc; omega) (by decide)) hs) h.2.2) hs) (ck_ne r.luhn 10 (.inl rfl)) i
theorem body_parts (r : Rl) : bodyS r = r.name ++ (spS ++ (r.pat ++ (spS ++ (if r.luhn then luhnS else plainS)))) := by
  unfold bodyS; simp only [ByteArray.append_assoc]
theorem body_rule {r : Rl} (h : GoodR r) : RuleIs (bodyS r) r := by
  have hsp : spS.size = 1 := rfl
  obtain ⟨ck, hck⟩ : ∃ ck, ck = (if r.luhn then luhnS else plainS) := ⟨_, rfl⟩
  have hne := ck_ne r.luhn 32 (.inr rfl)
  rw [← hck] at hne
  have hb := body_parts r
  rw [← hck] at hb
  have hz : (bodyS r).size = r.name.size + 1 + r.pat.size + 1 + ck.size := by rw [hb]; simp only [ByteArray.size_append, hsp]; omega
  have hckz : 0 < ck.size := by rw [hck]; cases r.luhn <;> decide
  have e0 : (bodyS r).extract 0 r.name.size = r.name := by rw [hb]; exact ext_left _ _
  have e1 : (bodyS r).extract (r.name.size + 1) (r.name.size + 1 + r.pat.size) = r.pat := by
    rw [hb, ← ByteArray.append_assoc]
    have := ext_mid (r.name ++ spS) r.pat (spS ++ ck)
    rw [ByteArray.size_append, hsp] at this
    exact this
  have hb2 : bodyS r = (r.name ++ spS ++ r.pat ++ spS) ++ ck := by rw [hb]; simp only [ByteArray.append_assoc]
  have hz2 : (r.name ++ spS ++ r.pat ++ spS).size = r.name.size + 1 + r.pat.size + 1 := by simp only [ByteArray.size_append, hsp]
  have e2 : (bodyS r).extract (r.name.size + 1 + r.pat.size + 1) (bodyS r).size = ck := by
    have := ext_tail (r.name ++ spS ++ r.pat ++ spS) ck
    rw [hz2, ← hb2] at this
    exact this
  have c1 : ch (bodyS r) r.name.size = 32 := by
    rw [hb]
    have := ch_right r.name (spS ++ (r.pat ++ (spS ++ ck))) 0
    rw [Nat.add_zero] at this
    rw [this, ch_left (by rw [hsp]; decide)]
    rfl
  have c2 : ch (bodyS r) (r.name.size + 1 + r.pat.size) = 32 := by
    have e : bodyS r = (r.name ++ spS ++ r.pat) ++ (spS ++ ck) := by rw [hb]; simp only [ByteArray.append_assoc]
    have hz3 : (r.name ++ spS ++ r.pat).size = r.name.size + 1 + r.pat.size := by simp only [ByteArray.size_append, hsp]
    rw [e]
    have := ch_right (r.name ++ spS ++ r.pat) (spS ++ ck) 0
    rw [Nat.add_zero, hz3] at this
    rw [this, ch_left (by rw [hsp]; decide)]
    rfl
  refine ⟨_, _, .inr ⟨r.name.size, rfl, c1, fun j hj => ?_⟩, .inr ⟨r.name.size + 1 + r.pat.size, rfl, c2, fun j hj => ?_⟩, r.name.size, r.name.size + 1 + r.pat.size, rfl, rfl, by have := h.2.1; omega, by omega, e0.symm, e1.symm, h.1, ?_⟩
  · rw [hb, ch_left hj]
    exact nm_ne h.1 (by unfold okc; omega) (by decide) j
  · rw [hb2, ch_app, if_neg (by omega)]
    exact hne _
  · cases hl : r.luhn
    · rw [hl] at hck; exact .inr ⟨rfl, by rw [e2, hck]; rfl⟩
    · rw [hl] at hck; exact .inl ⟨rfl, by rw [e2, hck]; rfl⟩
theorem body_full {r : Rl} (h : GoodR r) : ¬ Blank (bodyS r) := by
  have hp := h.1.1
  rw [Blank, body_parts]
  rintro (h1 | h1)
  · rw [ByteArray.size_append] at h1; omega
  · rw [ch_left (by omega)] at h1
    exact nm_ne h.1 (c := 35) (by unfold okc; omega) (by decide) 0 h1
theorem Lines.show : ∀ o : List Rl, (∀ r ∈ o, GoodR r) → Lines (showS o) 0 (o.map bodyS ++ [ByteArray.empty])
  | [], _ => by
    have := Lines.last (s := showS []) (p := 0) (Nat.zero_le _) (fun i _ => by rw [ch_end (Nat.zero_le _)]; decide)
    rw [ext_all] at this
    exact this
  | r :: o, h => by
    rw [showS_cons, lineS_body]
    exact Lines.cons (body_no10 (h r (by simp))) (Lines.show o (fun x hx => h x (by simp [hx])))
def Apart (l : List Rl) : Prop := l.Pairwise (fun x y => x.name ≠ y.name)
theorem Rd.show : ∀ (o : List Rl) (i : Nat) (out : List Rl), (∀ r ∈ o, GoodR r) → Apart (out ++ o) → (out ++ o).length ≤ 8 → Rd (o.map bodyS ++ [ByteArray.empty]) i out (.ok (out ++ o))
  | [], i, out, _, _, _ => by
    rw [List.append_nil]
    exact .skip (.inl rfl) .done
  | r :: o, i, out, hg, ha, hl => by
    have h1 := Rd.show o (i + 1) (out ++ [r]) (fun x hx => hg x (by simp [hx])) (by rw [List.append_assoc]; exact ha) (by rw [List.append_assoc]; exact hl)
    rw [List.append_assoc] at h1
    have hr := hg r (by simp)
    refine .next (body_full hr) (body_rule hr) (fun x hx => ?_) (by rw [List.length_append, List.length_cons] at hl; omega) h1
    exact (List.pairwise_append.1 ha).2.2 x hx r (by simp)
/-! ### rules that were read -/
theorem rule_good {l : ByteArray} {r : Rl} (h : RuleIs l r) (hl : ∀ j, ch l j ≠ 10) : GoodR r := by
  obtain ⟨f, g, _, _, i, k, _, _, h1, h2, h3, h4, h5, _⟩ := h
  refine ⟨h5, by rw [h4, ext_size (by omega)]; omega, fun j => ?_⟩
  rw [h4, ch_ext (by omega)]
  split
  · exact hl _
  · decide
theorem rule_size {l : ByteArray} {r : Rl} (h : RuleIs l r) : (lineS r).size = l.size + 1 := by
  obtain ⟨f, g, _, _, i, k, _, _, h1, h2, h3, h4, h5, h6⟩ := h
  rw [lineS_size, h3, h4, ext_size (by omega), ext_size (by omega)]
  rcases h6 with ⟨hl, h6⟩ | ⟨hl, h6⟩
  · have := congrArg ByteArray.size h6
    rw [ext_size (Nat.le_refl _), show luhnS.size = 4 from rfl] at this
    rw [hl]; simp; omega
  · have := congrArg ByteArray.size h6
    rw [ext_size (Nat.le_refl _), show plainS.size = 5 from rfl] at this
    rw [hl]; simp; omega
theorem Rd.good {L : List ByteArray} {i : Nat} {out : List Rl} {R : Res} (h : Rd L i out R) : ∀ o, R = .ok o → (∀ l ∈ L, ∀ j, ch l j ≠ 10) → (∀ r ∈ out, GoodR r) → Apart out →
    (∀ r ∈ o, GoodR r) ∧ Apart o ∧ (showS o).size ≤ (showS out).size + (L.map (fun l => l.size + 1)).sum := by
  induction h with
  | done => intro o e _ h2 h3; cases e; exact ⟨h2, h3, by simp⟩
  | skip _ _ ih =>
    intro o e h1 h2 h3
    obtain ⟨a, b, c⟩ := ih o e (fun l hl => h1 l (by simp [hl])) h2 h3
    exact ⟨a, b, by rw [List.map_cons, List.sum_cons]; omega⟩
  | bad => intro o e; cases e
  | twice => intro o e; cases e
  | large => intro o e; cases e
  | @next l ls i out r R _ hr hd _ _ ih =>
    intro o e h1 h2 h3
    obtain ⟨a, b, c⟩ := ih o e (fun l hl => h1 l (by simp [hl])) (fun x hx => by
      rcases List.mem_append.1 hx with hx | hx
      · exact h2 x hx
      · rw [List.mem_singleton] at hx; subst hx; exact rule_good hr (h1 l (by simp))) (by
      refine List.pairwise_append.2 ⟨h3, List.pairwise_singleton _ _, fun x hx y hy => ?_⟩
      rw [List.mem_singleton] at hy; subst hy; exact hd x hx)
    refine ⟨a, b, ?_⟩
    rw [showS_snoc, ByteArray.size_append, rule_size hr] at c
    rw [List.map_cons, List.sum_cons]
    omega
theorem RuRes.show {s : ByteArray} {o : List Rl} (h : RuRes s (.ok o)) (hs : s.size ≤ 3000) : RuRes (showS o) (.ok o) ∧ (showS o).size ≤ 3001 ∧ Apart o := by
  have hlen := h.len
  rcases h with ⟨_, h⟩ | ⟨_, L, hL, h⟩
  · cases h
  · obtain ⟨a, b, c⟩ := h.good o rfl hL.no10 (by simp) List.Pairwise.nil
    have := hL.sum
    have e : (showS []).size = 0 := rfl
    have hz : (showS o).size ≤ 3001 := by omega
    have h2 := Rd.show o 0 [] a (by simpa using b) (by simpa using hlen)
    rw [List.nil_append] at h2
    exact ⟨.inr ⟨by omega, _, Lines.show o a, h2⟩, hz, b⟩
theorem mem_show {r : Rl} : ∀ {o : List Rl}, r ∈ o → (lineS r).size ≤ (showS o).size
  | x :: o, h => by
    rw [showS_cons, ByteArray.size_append]
    rcases List.mem_cons.1 h with rfl | h
    · omega
    · have := mem_show h; omega
/-! ### lines that tell nothing -/
def gS : ByteArray := { data := #[10, 35, 120, 10] }
def hxS : ByteArray := { data := #[35, 120] }
def gapS : Nat → ByteArray
  | 0 => ByteArray.empty
  | n + 1 => gapS n ++ gS
def gapL : Nat → List ByteArray
  | 0 => []
  | n + 1 => ByteArray.empty :: hxS :: gapL n
theorem gap_size (n : Nat) : (gapS n).size = 4 * n := by
  induction n with
  | zero => rfl
  | succ n ih => unfold gapS; rw [ByteArray.size_append, ih]; show 4 * n + 4 = _; omega
theorem gap_comm (n : Nat) : gS ++ gapS n = gapS n ++ gS := by
  induction n with
  | zero => simp [gapS]
  | succ n ih => unfold gapS; rw [← ByteArray.append_assoc, ih]
theorem gS_parts : gS = ByteArray.empty ++ nlS ++ (hxS ++ nlS) := by decide
theorem Lines.gap {s : ByteArray} {L : List ByteArray} (h : Lines s 0 L) : ∀ n, Lines (gapS n ++ s) 0 (gapL n ++ L)
  | 0 => by simpa [gapS, gapL] using h
  | n + 1 => by
    have ih := Lines.gap h n
    have e : gapS (n + 1) ++ s = ByteArray.empty ++ nlS ++ (hxS ++ nlS ++ (gapS n ++ s)) := by
      show gapS n ++ gS ++ s = _
      rw [← gap_comm, gS_parts]
      simp only [ByteArray.append_assoc]
    rw [e]
    exact Lines.cons (fun i => by rw [ch_end (Nat.zero_le _)]; decide) (Lines.cons (ch_all (by decide) (by kernel_rfl)) ih)
def Res.shift (d : Nat) : Res → Res
  | .ok o => .ok o
  | .no c x => .no c (x + d)
theorem Rd.shift (d : Nat) {L : List ByteArray} {i : Nat} {out : List Rl} {R : Res} (h : Rd L i out R) : Rd L (i + d) out (R.shift d) := by
  induction h with
  | done => exact .done
  | skip h _ ih => rw [Nat.add_right_comm] at ih; exact .skip h ih
  | bad h h1 => exact .bad h h1
  | twice h h1 h2 => exact .twice h h1 h2
  | large h h1 h2 h3 => exact .large h h1 h2 h3
  | next h h1 h2 h3 _ ih => rw [Nat.add_right_comm] at ih; exact .next h h1 h2 h3 ih
theorem Rd.gap {L : List ByteArray} {out : List Rl} {R : Res} : ∀ (n i : Nat), Rd L (i + 2 * n) out R → Rd (gapL n ++ L) i out R
  | 0, i, h => by simpa [gapL] using h
  | n + 1, i, h => by
    have ih := Rd.gap n (i + 2) (by rw [show i + 2 + 2 * n = i + 2 * (n + 1) from by omega]; exact h)
    exact .skip (.inl rfl) (.skip (.inr (by kernel_rfl)) ih)
theorem RuRes.gap {s : ByteArray} {R : Res} (h : RuRes s R) (hs : s.size ≤ 3000) (n : Nat) (hn : n ≤ 8) : RuRes (gapS n ++ s) (R.shift (2 * n)) := by
  rcases h with ⟨h, _⟩ | ⟨_, L, hL, h⟩
  · omega
  · have h2 := h.shift (2 * n)
    exact .inr ⟨by rw [ByteArray.size_append, gap_size]; omega, _, hL.gap n, Rd.gap n 0 h2⟩
end Go.Proofs.YtaafmfooommepaaDoor
