-- Laid by this seat's own driver (wip/tools/drive.py) out of the translation.
import Derived.Test.YtebkibohejjkcaaDoorQx0
namespace Go.Proofs.YtebkibohejjkcaaDoor.Q
open Go.RowKit Go.Proofs.YtebkibohejjkcaaDoorW.PrintWords Go.Proofs.YtebkibohejjkcaaDoorW.PrintLast Go.Proofs.YtebkibohejjkcaaDoorW.PrintMore
attribute [local go_sem] max2_int min2_int max_two min_two max_three min_three max_four min_four   -- for this text's walks alone
set_option linter.unusedVariables false
set_option linter.unusedSimpArgs false

/-! ### glacislaw07_few: function 11 -/
def glacislaw07_few.l0 : Nat → List (S24) → Int → Option (Bool)
  | 0, _, _ => none
  | k + 1, x0, x3 => if x3 < (x0.length : Int) then (if 0 ≤ x3 then (if (((rd_T24 x0 x3).f0).size : Int) > 1000 then (some false) else (if (((rd_T24 x0 x3).f1).size : Int) > 5000 then (some false) else (glacislaw07_few.l0 k x0 (wrap64 (x3 + 1))))) else (none)) else (some true)
def glacislaw07_few.f (k : Nat) (l0 : List (S24)) : Option (Bool) := if (l0.length : Int) > 110 then (some false) else (glacislaw07_few.l0 k l0 0)
theorem glacislaw07_few.mono_l : ∀ k, (∀ y0 y1, LeO (glacislaw07_few.l0 k y0 y1) (glacislaw07_few.l0 (k + 1) y0 y1))
  | 0 => fun _ _ r h => by simp [glacislaw07_few.l0] at h
  | k + 1 => by
    have ih0 := glacislaw07_few.mono_l k
    · intro y0 y1
      unfold glacislaw07_few.l0
      repeat' first
      | (with_reducible exact ih0 _ _)
      | (with_reducible exact LeO.refl _)
      | (with_reducible exact LeO.none _)
      | (with_reducible refine LeO.ite ?_ ?_)
      | (with_reducible refine LeO.bind ?_ (fun _ => ?_))
      | exact ih0 _ _
      | exact LeO.none _
      | refine LeO.ite ?_ ?_
      | refine LeO.bind ?_ (fun _ => ?_)
theorem glacislaw07_few.mono : ∀ a0 k, LeO (glacislaw07_few.f k a0) (glacislaw07_few.f (k + 1) a0) := by
  intro a0 k
  have ih0 := glacislaw07_few.mono_l k
  unfold glacislaw07_few.f
  repeat' first
      | (with_reducible exact ih0 _ _)
      | (with_reducible exact LeO.refl _)
      | (with_reducible exact LeO.none _)
      | (with_reducible refine LeO.ite ?_ ?_)
      | (with_reducible refine LeO.bind ?_ (fun _ => ?_))
      | exact ih0 _ _
      | exact LeO.none _
      | refine LeO.ite ?_ ?_
      | refine LeO.bind ?_ (fun _ => ?_)
set_option maxHeartbeats 8000000 in
set_option maxRecDepth 100000 in
theorem glacislaw07_few.calls (k : Nat) (A0 : Option Addr) (c0 : Nat) (l0 : List (S24)) (r : Bool) (w : World) (hr0 : Kd.C k24 w A0 l0.length l0) (hc0 : l0.length ≤ c0) (h : glacislaw07_few.f k l0 = some r) :
    Calls Tryd.prog 11 #[.slice A0 l0.length c0] w fun e w' => e = .returned (.bool r) ∧ Drawn0 w w' := by
  have HR0 := Aside0.mk hr0
  have HC0 := Aside0.mk hc0
  clear hr0 hc0
  have H : (if (l0.length : Int) > 110 then (some false) else (glacislaw07_few.l0 k l0 0)) = some r := h
  clear h
  by_cases c2 : (l0.length : Int) > 110
  · rw [if_pos c2] at H
    have c2b0 : decide (110 < (l0.length : Int)) = true := decide_eq_true c2
    have c2b1 : decide (110 < l0.length) = true := decide_eq_true (by omega)
    clear c2
    obtain rfl := Option.some.inj H
    go_enter Tryd.func11, Tryd.ntmps11
    go_wp2
    go_ret
    exact ⟨by first | rfl | (simp; done) | (simp [*]; done) | (simp [q_ne_nil]; done), by repeat (first | exact Drawn0.refl _ | apply Drawn0.step)⟩
  · rw [if_neg c2] at H
    have c2b0 : decide (110 < (l0.length : Int)) = false := decide_eq_false c2
    have c2b1 : decide (110 < l0.length) = false := decide_eq_false (by omega)
    clear c2
    have H' := Aside0.mk H
    clear H
    go_enter Tryd.func11, Tryd.ntmps11
    go_wp2
    go_loopg [3] k (fun kq v3 w' => ∃ (x3_1 : Int), v3 = .int .i64 x3_1 ∧ Aside0 (glacislaw07_few.l0 kq l0 x3_1 = some r) ∧ Aside0 (kq ≤ k) ∧ Drawn0 w w')
    case atStart => exact ⟨(0), (by first | rfl | (simp; done) | (simp [*]; done) | (simp [q_ne_nil]; done)), H', ⟨Nat.le_refl _⟩, by repeat (first | exact Drawn0.refl _ | apply Drawn0.step)⟩
    case round =>
      clear H'
      try clear c1
      try clear c2
      try clear c2b0
      try clear c2b1
      try clear p2
      obtain ⟨x3_1, rfl, HA, HK1, ⟨m1, rfl⟩⟩ := hrel
      cases gk with
      | zero => exact absurd HA.out (by simp [glacislaw07_few.l0])
      | succ k1 =>
        have H := HA.out
        clear HA
        simp only [glacislaw07_few.l0] at H
        by_cases c3 : x3_1 < (l0.length : Int)
        · rw [if_pos c3] at H
          have c3b0 : decide (x3_1 < (l0.length : Int)) = true := decide_eq_true c3
          clear c3
          by_cases c4 : 0 ≤ x3_1
          · rw [if_pos c4] at H
            have c4b0 : decide (0 ≤ x3_1) = true := decide_eq_true c4
            clear c4
            by_cases c5 : (((rd_T24 l0 x3_1).f0).size : Int) > 1000
            · rw [if_pos c5] at H
              have c5b0 : decide (1000 < (((rd_T24 l0 x3_1).f0).size : Int)) = true := decide_eq_true c5
              have c5b1 : decide (1000 < ((rd_T24 l0 x3_1).f0).size) = true := decide_eq_true (by omega)
              clear c5
              obtain rfl := Option.some.inj H
              have p152 : 0 ≤ (x3_1 : Int) := of_decide_eq_true (by first | (with_reducible assumption) | assumption)
              have q152 : x3_1 < (l0.length : Int) := of_decide_eq_true (by first | (with_reducible assumption) | assumption)
              obtain ⟨ad152, e152, hx152_0, hx152_1⟩ := at_T24 HR0.out x3_1 p152 q152
              cases e152
              replace p152 := eq_true p152
              replace q152 := eq_true q152
              go_wp2
              go_ret
              exact ⟨by first | rfl | (simp; done) | (simp [*]; done) | (simp [q_ne_nil]; done), by repeat (first | exact Drawn0.refl _ | apply Drawn0.step)⟩
            · rw [if_neg c5] at H
              have c5b0 : decide (1000 < (((rd_T24 l0 x3_1).f0).size : Int)) = false := decide_eq_false c5
              have c5b1 : decide (1000 < ((rd_T24 l0 x3_1).f0).size) = false := decide_eq_false (by omega)
              clear c5
              by_cases c6 : (((rd_T24 l0 x3_1).f1).size : Int) > 5000
              · rw [if_pos c6] at H
                have c6b0 : decide (5000 < (((rd_T24 l0 x3_1).f1).size : Int)) = true := decide_eq_true c6
                have c6b1 : decide (5000 < ((rd_T24 l0 x3_1).f1).size) = true := decide_eq_true (by omega)
                clear c6
                obtain rfl := Option.some.inj H
                have p152 : 0 ≤ (x3_1 : Int) := of_decide_eq_true (by first | (with_reducible assumption) | assumption)
                have q152 : x3_1 < (l0.length : Int) := of_decide_eq_true (by first | (with_reducible assumption) | assumption)
                obtain ⟨ad152, e152, hx152_0, hx152_1⟩ := at_T24 HR0.out x3_1 p152 q152
                cases e152
                replace p152 := eq_true p152
                replace q152 := eq_true q152
                have p153 : 0 ≤ (x3_1 : Int) := of_decide_eq_true (by first | (with_reducible assumption) | assumption)
                have q153 : x3_1 < (l0.length : Int) := of_decide_eq_true (by first | (with_reducible assumption) | assumption)
                obtain ⟨ad153, e153, hx153_0, hx153_1⟩ := at_T24 HR0.out x3_1 p153 q153
                obtain rfl : ad152 = ad153 := (by injection e153)
                replace p153 := eq_true p153
                replace q153 := eq_true q153
                go_wp2
                go_ret
                exact ⟨by first | rfl | (simp; done) | (simp [*]; done) | (simp [q_ne_nil]; done), by repeat (first | exact Drawn0.refl _ | apply Drawn0.step)⟩
              · rw [if_neg c6] at H
                have c6b0 : decide (5000 < (((rd_T24 l0 x3_1).f1).size : Int)) = false := decide_eq_false c6
                have c6b1 : decide (5000 < ((rd_T24 l0 x3_1).f1).size) = false := decide_eq_false (by omega)
                clear c6
                have H' := Aside0.mk H
                clear H
                have p152 : 0 ≤ (x3_1 : Int) := of_decide_eq_true (by first | (with_reducible assumption) | assumption)
                have q152 : x3_1 < (l0.length : Int) := of_decide_eq_true (by first | (with_reducible assumption) | assumption)
                obtain ⟨ad152, e152, hx152_0, hx152_1⟩ := at_T24 HR0.out x3_1 p152 q152
                cases e152
                replace p152 := eq_true p152
                replace q152 := eq_true q152
                have p153 : 0 ≤ (x3_1 : Int) := of_decide_eq_true (by first | (with_reducible assumption) | assumption)
                have q153 : x3_1 < (l0.length : Int) := of_decide_eq_true (by first | (with_reducible assumption) | assumption)
                obtain ⟨ad153, e153, hx153_0, hx153_1⟩ := at_T24 HR0.out x3_1 p153 q153
                obtain rfl : ad152 = ad153 := (by injection e153)
                replace p153 := eq_true p153
                replace q153 := eq_true q153
                go_wp2
                go_roundg k1
                case measure => have := HK1.out; omega
                case rel => exact ⟨(wrap64 (x3_1 + 1)), (by first | rfl | (simp; done) | (simp [*]; done) | (simp [q_ne_nil]; done)), H', ⟨by have := HK1.out; omega⟩, by repeat (first | exact Drawn0.refl _ | apply Drawn0.step)⟩
          · rw [if_neg c4] at H
            exact absurd H (by simp)
        · rw [if_neg c3] at H
          have c3b0 : decide (x3_1 < (l0.length : Int)) = false := decide_eq_false c3
          clear c3
          obtain rfl := Option.some.inj H
          go_wp2
          go_ret
          exact ⟨by first | rfl | (simp; done) | (simp [*]; done) | (simp [q_ne_nil]; done), by repeat (first | exact Drawn0.refl _ | apply Drawn0.step)⟩

-- NOT PRINTED: function 5 (glacislaw07_HeadersBytes)

/-! ### glacisref01_In: function 15 -/
def glacisref01_In.l0 : Nat → Int → ByteArray → Int → Option (Bool)
  | 0, _, _, _ => none
  | k + 1, x0, x1, x5 => if x5 < (x1.size : Int) then (if 0 ≤ x5 then (if (bt x1 x5) = x0 then (some true) else (glacisref01_In.l0 k x0 x1 (wrap64 (x5 + 1)))) else (none)) else (some false)
def glacisref01_In.f (k : Nat) (a0 : Int) (a1 : ByteArray) : Option (Bool) := glacisref01_In.l0 k a0 a1 0
theorem glacisref01_In.mono_l : ∀ k, (∀ y0 y1 y2, LeO (glacisref01_In.l0 k y0 y1 y2) (glacisref01_In.l0 (k + 1) y0 y1 y2))
  | 0 => fun _ _ _ r h => by simp [glacisref01_In.l0] at h
  | k + 1 => by
    have ih0 := glacisref01_In.mono_l k
    · intro y0 y1 y2
      unfold glacisref01_In.l0
      repeat' first
      | (with_reducible exact ih0 _ _ _)
      | (with_reducible exact LeO.refl _)
      | (with_reducible exact LeO.none _)
      | (with_reducible refine LeO.ite ?_ ?_)
      | (with_reducible refine LeO.bind ?_ (fun _ => ?_))
      | exact ih0 _ _ _
      | exact LeO.none _
      | refine LeO.ite ?_ ?_
      | refine LeO.bind ?_ (fun _ => ?_)
theorem glacisref01_In.mono : ∀ a0 a1 k, LeO (glacisref01_In.f k a0 a1) (glacisref01_In.f (k + 1) a0 a1) := by
  intro a0 a1 k
  have ih0 := glacisref01_In.mono_l k
  unfold glacisref01_In.f
  repeat' first
      | (with_reducible exact ih0 _ _ _)
      | (with_reducible exact LeO.refl _)
      | (with_reducible exact LeO.none _)
      | (with_reducible refine LeO.ite ?_ ?_)
      | (with_reducible refine LeO.bind ?_ (fun _ => ?_))
      | exact ih0 _ _ _
      | exact LeO.none _
      | refine LeO.ite ?_ ?_
      | refine LeO.bind ?_ (fun _ => ?_)
set_option maxHeartbeats 8000000 in
set_option maxRecDepth 100000 in
theorem glacisref01_In.calls (k : Nat) (a0 : Int) (a1 : ByteArray) (r : Bool) (w : World) (h : glacisref01_In.f k a0 a1 = some r) :
    Calls Tryd.prog 15 #[.int .u8 a0, .string a1] w fun e w' => e = .returned (.bool r) ∧ Drawn0 w w' := by
  have H : (glacisref01_In.l0 k a0 a1 0) = some r := h
  clear h
  have H' := Aside0.mk H
  clear H
  go_enter Tryd.func15, Tryd.ntmps15
  go_wp2
  go_loopg [5] k (fun kq v5 w' => ∃ (x5_1 : Int), v5 = .int .i64 x5_1 ∧ Aside0 (glacisref01_In.l0 kq a0 a1 x5_1 = some r) ∧ Aside0 (kq ≤ k) ∧ Drawn0 w w')
  case atStart => exact ⟨(0), (by first | rfl | (simp; done) | (simp [*]; done) | (simp [q_ne_nil]; done)), H', ⟨Nat.le_refl _⟩, by repeat (first | exact Drawn0.refl _ | apply Drawn0.step)⟩
  case round =>
    clear H'
    try clear c1
    try clear p2
    obtain ⟨x5_1, rfl, HA, HK1, ⟨m1, rfl⟩⟩ := hrel
    cases gk with
    | zero => exact absurd HA.out (by simp [glacisref01_In.l0])
    | succ k1 =>
      have H := HA.out
      clear HA
      simp only [glacisref01_In.l0] at H
      by_cases c3 : x5_1 < (a1.size : Int)
      · rw [if_pos c3] at H
        have c3b0 : decide (x5_1 < (a1.size : Int)) = true := decide_eq_true c3
        clear c3
        by_cases c4 : 0 ≤ x5_1
        · rw [if_pos c4] at H
          have c4b0 : decide (0 ≤ x5_1) = true := decide_eq_true c4
          clear c4
          by_cases c6 : (bt a1 x5_1) = a0
          · rw [if_pos c6] at H
            have c6b0 : ((bt a1 x5_1) == a0) = true := beq_iff_eq.mpr c6
            have c6b1 : ((bt a1 x5_1) != a0) = false := bne_eq_false_iff_eq.mpr c6
            clear c6
            obtain rfl := Option.some.inj H
            have p5 : 0 ≤ (x5_1 : Int) := of_decide_eq_true (by first | (with_reducible assumption) | assumption)
            have q5 : x5_1 < (a1.size : Int) := of_decide_eq_true (by first | (with_reducible assumption) | assumption)
            have hx5 := bt_at a1 x5_1
            replace p5 := eq_true p5
            replace q5 := eq_true q5
            go_wp2
            go_ret
            exact ⟨by first | rfl | (simp; done) | (simp [*]; done) | (simp [q_ne_nil]; done), by repeat (first | exact Drawn0.refl _ | apply Drawn0.step)⟩
          · rw [if_neg c6] at H
            have c6b0 : ((bt a1 x5_1) == a0) = false := beq_eq_false_iff_ne.mpr c6
            have c6b1 : ((bt a1 x5_1) != a0) = true := bne_iff_ne.mpr c6
            have H' := Aside0.mk H
            clear H
            have p5 : 0 ≤ (x5_1 : Int) := of_decide_eq_true (by first | (with_reducible assumption) | assumption)
            have q5 : x5_1 < (a1.size : Int) := of_decide_eq_true (by first | (with_reducible assumption) | assumption)
            have hx5 := bt_at a1 x5_1
            replace p5 := eq_true p5
            replace q5 := eq_true q5
            go_wp2
            go_roundg k1
            case measure => have := HK1.out; omega
            case rel => exact ⟨(wrap64 (x5_1 + 1)), (by first | rfl | (simp; done) | (simp [*]; done) | (simp [q_ne_nil]; done)), H', ⟨by have := HK1.out; omega⟩, by repeat (first | exact Drawn0.refl _ | apply Drawn0.step)⟩
        · rw [if_neg c4] at H
          exact absurd H (by simp)
      · rw [if_neg c3] at H
        have c3b0 : decide (x5_1 < (a1.size : Int)) = false := decide_eq_false c3
        clear c3
        obtain rfl := Option.some.inj H
        go_wp2
        go_ret
        exact ⟨by first | rfl | (simp; done) | (simp [*]; done) | (simp [q_ne_nil]; done), by repeat (first | exact Drawn0.refl _ | apply Drawn0.step)⟩

/-! ### octet_cut: function 23 -/
/-- The parts that are shut after i bytes, and where the next one begins. -/
def cutSt (p : Int → Bool) (s : ByteArray) : Nat → List ByteArray × Nat
  | 0 => ([], 0)
  | i + 1 => if p (bt s i) = true then ((cutSt p s i).1 ++ [s.extract (cutSt p s i).2 i], i + 1) else cutSt p s i
theorem cutSt_le (p : Int → Bool) (s : ByteArray) (i : Nat) : (cutSt p s i).2 ≤ i := by
  induction i with
  | zero => exact Nat.le_refl _
  | succ i ih => unfold cutSt; split <;> (try simp) <;> omega
theorem cutSt_len (p : Int → Bool) (s : ByteArray) (i : Nat) : (cutSt p s i).1.length ≤ i := by
  induction i with
  | zero => exact Nat.le_refl _
  | succ i ih => unfold cutSt; split <;> (try simp) <;> omega
def keepPart (empty : Bool) (x : ByteArray) : Bool := empty || !x.toList.isEmpty
def keepParts (empty : Bool) (l : List ByteArray) : List ByteArray := l.filter (keepPart empty)
theorem keepParts_snoc (empty : Bool) (l : List ByteArray) (x : ByteArray) : keepParts empty (l ++ [x]) = keepParts empty l ++ (if keepPart empty x = true then [x] else []) := by
  unfold keepParts
  rw [List.filter_append]
  by_cases h : keepPart empty x = true <;> simp [h]
theorem keepParts_len (empty : Bool) (l : List ByteArray) : (keepParts empty l).length ≤ l.length := List.length_filter_le _ _
def cutOf (p : Int → Bool) (empty : Bool) (s : ByteArray) : List ByteArray := keepParts empty ((cutSt p s s.size).1 ++ [s.extract (cutSt p s s.size).2 s.size])
/-- What the gathering closure's variables are like: the box of 'empty', the box of 'out', and the row that 'out' holds. -/
structure CutAt (w W : World) (be bo : Nat) (empty : Bool) (xs : List ByteArray) : Prop where
  below : Below w.heap.size w W
  ge : w.heap.size ≤ bo
  ebox : W.heap[be]? = some (.cells #[.bool empty] 4 (0, 0))
  obox : ∃ v : Value, W.heap[bo]? = some (.cells #[v] 28 (0, 0)) ∧ Kd.R Kd.string 9 W w.heap.size (fun _ => True) v xs
theorem CutAt.drewN {w W : World} {be bo : Nat} {empty : Bool} {xs : List ByteArray} (h : CutAt w W be bo empty xs) (n : Nat) : CutAt w (W.drewN n) be bo empty xs := by
  obtain ⟨h1, h2, h3, v, h4, h5⟩ := h
  exact ⟨pw_below_drewN h1 n, h2, h3, v, h4, Kd.R_drewN h5 n⟩
set_option maxHeartbeats 1000000 in
set_option maxRecDepth 100000 in
theorem put_keeps (w W : World) (be bo : Nat) (empty : Bool) (xs : List ByteArray) (p : ByteArray) (h : CutAt w W be bo empty xs) (hl : xs.length < 8796093022207) (hk : keepPart empty p = true) :
    Calls Tryd.prog 38 #[.string p, .pointer (some ⟨be, 0, none⟩), .pointer (some ⟨bo, 0, none⟩)] W fun e w' => e = .returned (.tuple #[]) ∧ CutAt w w' be bo empty (xs ++ [p]) := by
  obtain ⟨hB, hge, he, v, ho, hr⟩ := h
  have hec := blk_cell he 0
  have hoc := blk_cell ho 0
  have hofr := blk_frozen ho 0
  simp only [List.getElem?_toArray, List.getElem?_cons_zero] at hec hoc
  have hne := blk_ne he ho (by decide)
  have HE := Aside0.mk he
  have HO := Aside0.mk ho
  have HR := Aside0.mk hr
  have HB := Aside0.mk hB
  clear he ho hr hB
  cases empty with
  | true =>
    clear hk
    go_enter Tryd.func38, Tryd.ntmps38
    go_wp2_with (first | ((with_reducible refine gate_builtin (b := .append) (xs := #[.tmp 9, .tmp 11]) rfl ?_); at_builtin; refine Kd.R_append Kd.string (w0 := w) w.heap.size rfl (.tmp 9) (.tmp 11) 28 9 (.string ⟨#[]⟩) 16 rfl Tryd.underlying28 info9 rfl (by decide) (by omega) v xs p [.string p] (fun _ => True) (fun _ => False) rfl rfl ?aP (fun _ hk => hk.elim) ?aF ?aO ?aB ?aS ?aL ?_; (case aP => exact rfl); (case aB => exact HB.out); (case aF => exact (fun _ _ => trivial)); (case aO => exact HR.out); (case aS => exact HB.out.size); (case aL => omega); intro v1 w1 ho1 hb1 hg1 hat1; obtain ⟨A1, c1, hv1⟩ := Kd.R_slice ho1; generalize (xs ++ [p]).length = n1 at hv1; subst hv1; have hq := blk_grown HO.out hg1 (Kd.R_ne HR.out HO.out (by decide)); have hqe := blk_grown HE.out hg1 (Kd.R_ne HR.out HE.out (by decide)); have hqc := blk_cell hq 0; have hqf := blk_frozen hq 0; simp only [List.getElem?_toArray, List.getElem?_cons_zero] at hqc; have HO1 := Aside0.mk ho1; have HB1 := Aside0.mk hb1; have HQ := Aside0.mk hq; have HQE := Aside0.mk hqe; clear ho1 hb1 hg1 hat1 hq hqe))
    go_end0
    exact ⟨rfl, HB1.out.setCell hge _, hge, blk_far HQE.out hne _, .slice A1 n1 c1, blk_put HQ.out 0 _ rfl, Kd.R_set HO1.out HQ.out (by decide) 0 _⟩
  | false =>
    have hp : p.toList.isEmpty = false := by simpa [keepPart] using hk
    have hp2 : ¬ p.toList = [] := by intro e; rw [e] at hp; cases hp
    clear hk
    go_enter Tryd.func38, Tryd.ntmps38
    go_wp2_with (first | ((with_reducible refine gate_builtin (b := .append) (xs := #[.tmp 9, .tmp 11]) rfl ?_); at_builtin; refine Kd.R_append Kd.string (w0 := w) w.heap.size rfl (.tmp 9) (.tmp 11) 28 9 (.string ⟨#[]⟩) 16 rfl Tryd.underlying28 info9 rfl (by decide) (by omega) v xs p [.string p] (fun _ => True) (fun _ => False) rfl rfl ?aP (fun _ hk => hk.elim) ?aF ?aO ?aB ?aS ?aL ?_; (case aP => exact rfl); (case aB => exact HB.out); (case aF => exact (fun _ _ => trivial)); (case aO => exact HR.out); (case aS => exact HB.out.size); (case aL => omega); intro v1 w1 ho1 hb1 hg1 hat1; obtain ⟨A1, c1, hv1⟩ := Kd.R_slice ho1; generalize (xs ++ [p]).length = n1 at hv1; subst hv1; have hq := blk_grown HO.out hg1 (Kd.R_ne HR.out HO.out (by decide)); have hqe := blk_grown HE.out hg1 (Kd.R_ne HR.out HE.out (by decide)); have hqc := blk_cell hq 0; have hqf := blk_frozen hq 0; simp only [List.getElem?_toArray, List.getElem?_cons_zero] at hqc; have HO1 := Aside0.mk ho1; have HB1 := Aside0.mk hb1; have HQ := Aside0.mk hq; have HQE := Aside0.mk hqe; clear ho1 hb1 hg1 hat1 hq hqe))
    go_end0
    exact ⟨rfl, HB1.out.setCell hge _, hge, blk_far HQE.out hne _, .slice A1 n1 c1, blk_put HQ.out 0 _ rfl, Kd.R_set HO1.out HQ.out (by decide) 0 _⟩
set_option maxHeartbeats 1000000 in
set_option maxRecDepth 100000 in
theorem put_drops (w W : World) (be bo : Nat) (xs : List ByteArray) (p : ByteArray) (h : CutAt w W be bo false xs) (hk : keepPart false p = false) :
    Calls Tryd.prog 38 #[.string p, .pointer (some ⟨be, 0, none⟩), .pointer (some ⟨bo, 0, none⟩)] W fun e w' => e = .returned (.tuple #[]) ∧ w' = W := by
  obtain ⟨hB, hge, he, v, ho, hr⟩ := h
  have hec := blk_cell he 0
  simp only [List.getElem?_toArray, List.getElem?_cons_zero] at hec
  clear he ho hr hB
  have hp : p.toList = [] := by simpa [keepPart] using hk
  clear hk
  go_enter Tryd.func38, Tryd.ntmps38
  go_wp2
  go_end0
  exact ⟨rfl, rfl⟩
theorem put_calls (w W : World) (be bo : Nat) (empty : Bool) (xs : List ByteArray) (p : ByteArray) (h : CutAt w W be bo empty xs) (hl : xs.length < 8796093022207) :
    Calls Tryd.prog 38 #[.string p, .pointer (some ⟨be, 0, none⟩), .pointer (some ⟨bo, 0, none⟩)] W fun e w' => e = .returned (.tuple #[]) ∧ CutAt w w' be bo empty (xs ++ (if keepPart empty p = true then [p] else [])) := by
  by_cases hk : keepPart empty p = true
  · rw [if_pos hk]; exact put_keeps w W be bo empty xs p h hl hk
  · rw [if_neg hk, List.append_nil]
    cases empty with
    | true => exact absurd (by simp [keepPart]) hk
    | false => exact (put_drops w W be bo xs p h (by simpa using hk)).mono fun e w' ⟨h1, h2⟩ => ⟨h1, by subst h2; exact h⟩
set_option maxHeartbeats 2000000 in
set_option maxRecDepth 100000 in
theorem cut_calls (g : Nat) (lb : Array Value) (p : Int → Bool) (empty : Bool) (a0 : ByteArray) (w : World) (hsz : a0.size ≤ 8796093022200)
    (eg : ∀ (args : Array Value) (w : World), (callFunc g args).run Tryd.prog w = .ok (.enter g args) w)
    (hp : ∀ (W : World) (c : Int), 0 ≤ c → c ≤ 255 → Below w.heap.size w W → Calls Tryd.prog g (#[.int .u8 c] ++ lb) W fun e w' => e = .returned (.bool (p c)) ∧ ∃ q, w' = W.drewN q) :
    Calls Tryd.prog 23 #[.string a0, .func (.func g) #[] lb, .bool empty] w fun e w' => ∃ v0_ : Value, e = .returned v0_ ∧ Kd.R Kd.string 9 w' w.heap.size (fun _ => True) v0_ (cutOf p empty a0) ∧ Below w.heap.size w w' := by
  have hmf : ∀ (fn : Fn) (first cap : Array Value) (w : World), (Instr.makeFunc fn first cap).run Tryd.prog w = .ok (.func fn first cap) w := fun _ _ _ _ => rfl
  have HP := Aside0.mk hp
  clear hp
  have h0 : CutAt w ((w.alloc (.cells #[.bool empty] 4)).alloc (.cells #[.slice none 0 0] 28)) w.heap.size (w.heap.size + 1) empty (keepParts empty (cutSt p a0 0).1) := by
    refine ⟨((Below.refl _ _).alloc (Nat.le_refl _) _).alloc (by simp) _, by omega, blk_alloc (blk_new _ _) _, .slice none 0 0, ?_, Kd.R_nil _ _ _ _ _⟩
    have := blk_new (w.alloc (.cells #[.bool empty] 4)) (.cells #[.slice none 0 0] 28)
    simpa using this
  have H0 := Aside0.mk h0
  clear h0
  go_enter Tryd.func23, Tryd.ntmps23
  go_wp2
  go_loopw [9, 10, 14] (fun v9 v10 v14 wr => ∃ k : Nat, k ≤ a0.size ∧ v14 = .int .i64 k ∧ v9 = .int .i64 (cutSt p a0 k).2 ∧ CutAt w wr w.heap.size (w.heap.size + 1) empty (keepParts empty (cutSt p a0 k).1)) (fun _ _ v14 _ => a0.size - (intOf v14).toNat)
  case atStart => exact ⟨0, Nat.zero_le _, rfl, rfl, H0.out⟩
  case round =>
    clear H0
    obtain ⟨k, hk, rfl, rfl, hC⟩ := hrel
    by_cases hlt : k < a0.size
    · have hx : ∀ h : k < a0.size, ((a0[k]'h).toNat : Int) = bt a0 k := fun h => by have := bt_at a0 k (by simpa using h); simpa using this
      obtain ⟨hb0, hb1⟩ := bt_range a0 k
      have hfr := cutSt_le p a0 k
      have hln := keepParts_len empty (cutSt p a0 k).1
      have hln2 := cutSt_len p a0 k
      have hS : cutSt p a0 (k + 1) = if p (bt a0 k) = true then ((cutSt p a0 k).1 ++ [a0.extract (cutSt p a0 k).2 k], k + 1) else cutSt p a0 k := rfl
      have hcall := HP.out wr (bt a0 k) hb0 hb1 hC.below
      clear HP
      generalize bt a0 k = c at *
      cases hpk : p c with
      | true =>
        rw [hpk] at hcall hS
        rw [if_pos rfl] at hS
        have HS := Aside0.mk hS
        clear hS hpk
        generalize hxs : (cutSt p a0 k).1 = ps at *
        generalize hfm : (cutSt p a0 k).2 = fr at *
        clear hxs hfm
        have hput := fun n => put_calls w (wr.drewN n) _ _ empty (keepParts empty ps) (a0.extract fr k) (hC.drewN n) (by omega)
        have HCA := Aside0.mk hcall
        have HPU := Aside0.mk hput
        clear hcall hput hC
        go_wp2_with (first | (go_at_fn g; refine HCA.out.mono ?_; rintro e w' ⟨rfl, q, rfl⟩) | (go_at_call 38; refine (HPU.out _).mono ?_; rintro e w' ⟨rfl, hC2⟩))
        go_roundw
        case rel => exact ⟨k + 1, by omega, by go_num, by rw [HS.out]; go_num, by rw [HS.out, keepParts_snoc]; exact hC2⟩
        case measure => simp [intOf]; omega
      | false =>
        rw [hpk] at hcall hS
        rw [if_neg (by decide)] at hS
        have HS := Aside0.mk hS
        clear hS hpk
        have HCA := Aside0.mk hcall
        have HC := Aside0.mk hC
        clear hcall hC
        go_wp2_with (first | (go_at_fn g; refine HCA.out.mono ?_; rintro e w' ⟨rfl, q, rfl⟩))
        go_roundw
        case rel => exact ⟨k + 1, by omega, by go_num, by rw [HS.out], by rw [HS.out]; exact HC.out.drewN q⟩
        case measure => simp [intOf]; omega
    · obtain rfl : k = a0.size := by omega
      have hfr := cutSt_le p a0 a0.size
      have hln := keepParts_len empty (cutSt p a0 a0.size).1
      have hln2 := cutSt_len p a0 a0.size
      have hput := put_calls w wr _ _ empty (keepParts empty (cutSt p a0 a0.size).1) (a0.extract (cutSt p a0 a0.size).2 a0.size) hC (by omega)
      rw [← keepParts_snoc] at hput
      have HPU := Aside0.mk hput
      clear hput hC HP
      go_wp2_with (first | (go_at_call 38; refine HPU.out.mono ?_; rintro e w' ⟨rfl, ⟨hB2, _, _, v2, ho2, hr2⟩⟩; have hoc2 := blk_cell ho2 0; simp only [List.getElem?_toArray, List.getElem?_cons_zero] at hoc2; have HR2 := Aside0.mk hr2; have HB2 := Aside0.mk hB2; clear ho2 hr2 hB2))
      go_ret
      exact ⟨_, rfl, HR2.out, HB2.out⟩


/-! ### octet_Split: function 16 -/
def octet_Split.f (a0 : ByteArray) (a1 : Int) : Option (List ByteArray) := if a0.size ≤ 8796093022200 then some (cutOf (fun c => c == a1) true a0) else none
set_option maxHeartbeats 1000000 in
theorem split_is (a1 : Int) (g : Nat) (W : World) (c : Int) (hg : W.heap[g]? = some (.cells #[.int .u8 a1] 5 (0, 0))) :
    Calls Tryd.prog 24 #[.int .u8 c, .pointer (some ⟨g, 0, none⟩)] W fun e w' => e = .returned (.bool (c == a1)) ∧ ∃ q, w' = W.drewN q := by
  have hc := blk_cell hg 0
  simp only [List.getElem?_toArray, List.getElem?_cons_zero] at hc
  clear hg
  go_enter Tryd.func24, Tryd.ntmps24
  go_wp2
  go_ret
  exact ⟨rfl, 0, rfl⟩
set_option maxHeartbeats 1000000 in
theorem octet_Split.calls (a0 : ByteArray) (a1 : Int) (r : List ByteArray) (w : World) (h : octet_Split.f a0 a1 = some r) :
    Calls Tryd.prog 16 #[.string a0, .int .u8 a1] w fun e w' => ∃ v0_ : Value, e = .returned v0_ ∧ Kd.R Kd.string 9 w' w.heap.size (fun _ => True) v0_ r ∧ Below w.heap.size w w' := by
  unfold octet_Split.f at h
  split at h
  · rename_i hsz
    obtain rfl := Option.some.inj h
    clear h
    have hmf : ∀ (fn : Fn) (first cap : Array Value) (w : World), (Instr.makeFunc fn first cap).run Tryd.prog w = .ok (.func fn first cap) w := fun _ _ _ _ => rfl
    have hcut := cut_calls 24 #[.pointer (some ⟨w.heap.size, 0, none⟩)] (fun c => c == a1) true a0 (w.alloc (.cells #[.int .u8 a1] 5)) hsz (enters_of Tryd.func24 (by kernel_rfl) rfl)
      (fun W c _ _ hB => split_is a1 w.heap.size W c (blk_below (blk_new w _) hB))
    have HC := Aside0.mk hcut
    clear hcut
    go_enter Tryd.func16, Tryd.ntmps16
    go_wp2_with (first | (go_at_call 23; refine HC.out.mono ?_; rintro e w' ⟨v, rfl, hr, hB⟩; have HR := Aside0.mk hr; have HB := Aside0.mk hB; clear hr hB))
    go_ret
    exact ⟨_, rfl, Kd.R_lower HR.out (by simp), ((Below.refl _ _).alloc (Nat.le_refl _) _).trans (HB.out.mono (by simp))⟩
  · cases h


/-! ### glacisref01_Texts: function 17 -/
def glacisref01_Texts.l0 : Nat → List ByteArray → List ByteArray → Int → Option (Bool)
  | 0, _, _, _ => none
  | k + 1, x0, x1, x5 => if x5 < (x0.length : Int) then (if 0 ≤ x5 then (if x5 < (x1.length : Int) then (if (rdOf ByteArray.empty x0 x5).toList = (rdOf ByteArray.empty x1 x5).toList then (glacisref01_Texts.l0 k x0 x1 (wrap64 (x5 + 1))) else (some false)) else (none)) else (none)) else (some true)
def glacisref01_Texts.f (k : Nat) (l0 : List ByteArray) (l1 : List ByteArray) : Option (Bool) := if (l0.length : Int) = (l1.length : Int) then (glacisref01_Texts.l0 k l0 l1 0) else (some false)
theorem glacisref01_Texts.mono_l : ∀ k, (∀ y0 y1 y2, LeO (glacisref01_Texts.l0 k y0 y1 y2) (glacisref01_Texts.l0 (k + 1) y0 y1 y2))
  | 0 => fun _ _ _ r h => by simp [glacisref01_Texts.l0] at h
  | k + 1 => by
    have ih0 := glacisref01_Texts.mono_l k
    · intro y0 y1 y2
      unfold glacisref01_Texts.l0
      repeat' first
      | (with_reducible exact ih0 _ _ _)
      | (with_reducible exact LeO.refl _)
      | (with_reducible exact LeO.none _)
      | (with_reducible refine LeO.ite ?_ ?_)
      | (with_reducible refine LeO.bind ?_ (fun _ => ?_))
      | exact ih0 _ _ _
      | exact LeO.none _
      | refine LeO.ite ?_ ?_
      | refine LeO.bind ?_ (fun _ => ?_)
theorem glacisref01_Texts.mono : ∀ a0 a1 k, LeO (glacisref01_Texts.f k a0 a1) (glacisref01_Texts.f (k + 1) a0 a1) := by
  intro a0 a1 k
  have ih0 := glacisref01_Texts.mono_l k
  unfold glacisref01_Texts.f
  repeat' first
      | (with_reducible exact ih0 _ _ _)
      | (with_reducible exact LeO.refl _)
      | (with_reducible exact LeO.none _)
      | (with_reducible refine LeO.ite ?_ ?_)
      | (with_reducible refine LeO.bind ?_ (fun _ => ?_))
      | exact ih0 _ _ _
      | exact LeO.none _
      | refine LeO.ite ?_ ?_
      | refine LeO.bind ?_ (fun _ => ?_)
set_option maxHeartbeats 8000000 in
set_option maxRecDepth 100000 in
theorem glacisref01_Texts.calls (k : Nat) (A0 : Option Addr) (c0 : Nat) (l0 : List ByteArray) (A1 : Option Addr) (c1 : Nat) (l1 : List ByteArray) (r : Bool) (w : World) (hr0 : Kd.C Kd.string w A0 l0.length l0) (hc0 : l0.length ≤ c0) (hr1 : Kd.C Kd.string w A1 l1.length l1) (hc1 : l1.length ≤ c1) (h : glacisref01_Texts.f k l0 l1 = some r) :
    Calls Tryd.prog 17 #[.slice A0 l0.length c0, .slice A1 l1.length c1] w fun e w' => e = .returned (.bool r) ∧ Drawn0 w w' := by
  have HR0 := Aside0.mk hr0
  have HC0 := Aside0.mk hc0
  clear hr0 hc0
  have HR1 := Aside0.mk hr1
  have HC1 := Aside0.mk hc1
  clear hr1 hc1
  have H : (if (l0.length : Int) = (l1.length : Int) then (glacisref01_Texts.l0 k l0 l1 0) else (some false)) = some r := h
  clear h
  by_cases c3 : (l0.length : Int) = (l1.length : Int)
  · rw [if_pos c3] at H
    have c3b0 : ((l0.length : Int) == (l1.length : Int)) = true := beq_iff_eq.mpr c3
    have c3b1 : ((l0.length : Int) != (l1.length : Int)) = false := bne_eq_false_iff_eq.mpr c3
    have c3b2 : (l0.length == l1.length) = true := by first | simpa using c3 | (simp at c3 ⊢; omega)
    clear c3
    have H' := Aside0.mk H
    clear H
    go_enter Tryd.func17, Tryd.ntmps17
    go_wp2
    repeat (go_quiet (fail); try go_wp2)
    go_loopg [5] k (fun kq v5 w' => ∃ (x5_1 : Int), v5 = .int .i64 x5_1 ∧ Aside0 (glacisref01_Texts.l0 kq l0 l1 x5_1 = some r) ∧ Aside0 (kq ≤ k) ∧ Drawn0 w w')
    case atStart => exact ⟨(0), (by first | rfl | (simp; done) | (simp [*]; done) | (simp [q_ne_nil]; done)), H', ⟨Nat.le_refl _⟩, by repeat (first | exact Drawn0.refl _ | apply Drawn0.step)⟩
    case round =>
      clear H'
      try clear c1
      try clear p2
      try clear c3
      try clear c3b0
      try clear c3b1
      try clear c3b2
      obtain ⟨x5_1, rfl, HA, HK1, ⟨m1, rfl⟩⟩ := hrel
      cases gk with
      | zero => exact absurd HA.out (by simp [glacisref01_Texts.l0])
      | succ k1 =>
        have H := HA.out
        clear HA
        simp only [glacisref01_Texts.l0] at H
        by_cases c4 : x5_1 < (l0.length : Int)
        · rw [if_pos c4] at H
          have c4b0 : decide (x5_1 < (l0.length : Int)) = true := decide_eq_true c4
          clear c4
          by_cases c5 : 0 ≤ x5_1
          · rw [if_pos c5] at H
            have c5b0 : decide (0 ≤ x5_1) = true := decide_eq_true c5
            clear c5
            by_cases c6 : x5_1 < (l1.length : Int)
            · rw [if_pos c6] at H
              have c6b0 : decide (x5_1 < (l1.length : Int)) = true := decide_eq_true c6
              clear c6
              by_cases c7 : (rdOf ByteArray.empty l0 x5_1).toList = (rdOf ByteArray.empty l1 x5_1).toList
              · rw [if_pos c7] at H
                have c7b0 : ((rdOf ByteArray.empty l0 x5_1).toList == (rdOf ByteArray.empty l1 x5_1).toList) = true := beq_iff_eq.mpr c7
                have c7b1 : ((rdOf ByteArray.empty l0 x5_1).toList != (rdOf ByteArray.empty l1 x5_1).toList) = false := bne_eq_false_iff_eq.mpr c7
                clear c7
                have H' := Aside0.mk H
                clear H
                have p192 : 0 ≤ (x5_1 : Int) := of_decide_eq_true (by first | (with_reducible assumption) | assumption)
                have q192 : x5_1 < (l0.length : Int) := of_decide_eq_true (by first | (with_reducible assumption) | assumption)
                obtain ⟨ad192, e192, hx192_0⟩ := Kd.at_string HR0.out x5_1 p192 q192
                cases e192
                replace p192 := eq_true p192
                replace q192 := eq_true q192
                have p193 : 0 ≤ (x5_1 : Int) := of_decide_eq_true (by first | (with_reducible assumption) | assumption)
                have q193 : x5_1 < (l1.length : Int) := of_decide_eq_true (by first | (with_reducible assumption) | assumption)
                obtain ⟨ad193, e193, hx193_0⟩ := Kd.at_string HR1.out x5_1 p193 q193
                cases e193
                replace p193 := eq_true p193
                replace q193 := eq_true q193
                go_wp2
                repeat (go_quiet (fail); try go_wp2)
                go_roundg k1
                case measure => have := HK1.out; omega
                case rel => exact ⟨(wrap64 (x5_1 + 1)), (by first | rfl | (simp; done) | (simp [*]; done) | (simp [q_ne_nil]; done)), H', ⟨by have := HK1.out; omega⟩, by repeat (first | exact Drawn0.refl _ | apply Drawn0.step)⟩
              · rw [if_neg c7] at H
                have c7b0 : ((rdOf ByteArray.empty l0 x5_1).toList == (rdOf ByteArray.empty l1 x5_1).toList) = false := beq_eq_false_iff_ne.mpr c7
                have c7b1 : ((rdOf ByteArray.empty l0 x5_1).toList != (rdOf ByteArray.empty l1 x5_1).toList) = true := bne_iff_ne.mpr c7
                obtain rfl := Option.some.inj H
                have p192 : 0 ≤ (x5_1 : Int) := of_decide_eq_true (by first | (with_reducible assumption) | assumption)
                have q192 : x5_1 < (l0.length : Int) := of_decide_eq_true (by first | (with_reducible assumption) | assumption)
                obtain ⟨ad192, e192, hx192_0⟩ := Kd.at_string HR0.out x5_1 p192 q192
                cases e192
                replace p192 := eq_true p192
                replace q192 := eq_true q192
                have p193 : 0 ≤ (x5_1 : Int) := of_decide_eq_true (by first | (with_reducible assumption) | assumption)
                have q193 : x5_1 < (l1.length : Int) := of_decide_eq_true (by first | (with_reducible assumption) | assumption)
                obtain ⟨ad193, e193, hx193_0⟩ := Kd.at_string HR1.out x5_1 p193 q193
                cases e193
                replace p193 := eq_true p193
                replace q193 := eq_true q193
                go_wp2
                repeat (go_quiet (fail); try go_wp2)
                go_ret
                exact ⟨by first | rfl | (simp; done) | (simp [*]; done) | (simp [q_ne_nil]; done), by repeat (first | exact Drawn0.refl _ | apply Drawn0.step)⟩
            · rw [if_neg c6] at H
              exact absurd H (by simp)
          · rw [if_neg c5] at H
            exact absurd H (by simp)
        · rw [if_neg c4] at H
          have c4b0 : decide (x5_1 < (l0.length : Int)) = false := decide_eq_false c4
          clear c4
          obtain rfl := Option.some.inj H
          go_wp2
          repeat (go_quiet (fail); try go_wp2)
          go_ret
          exact ⟨by first | rfl | (simp; done) | (simp [*]; done) | (simp [q_ne_nil]; done), by repeat (first | exact Drawn0.refl _ | apply Drawn0.step)⟩
  · rw [if_neg c3] at H
    have c3b0 : ((l0.length : Int) == (l1.length : Int)) = false := beq_eq_false_iff_ne.mpr c3
    have c3b1 : ((l0.length : Int) != (l1.length : Int)) = true := bne_iff_ne.mpr c3
    have c3b2 : (l0.length == l1.length) = false := by first | simpa using c3 | (simp at c3 ⊢; omega)
    obtain rfl := Option.some.inj H
    go_enter Tryd.func17, Tryd.ntmps17
    go_wp2
    repeat (go_quiet (fail); try go_wp2)
    go_ret
    exact ⟨by first | rfl | (simp; done) | (simp [*]; done) | (simp [q_ne_nil]; done), by repeat (first | exact Drawn0.refl _ | apply Drawn0.step)⟩

end Go.Proofs.YtebkibohejjkcaaDoor.Q
