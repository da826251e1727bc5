-- Laid by this seat's own driver (wip/tools/drive.py) out of the translation.
import Derived.Test.YtabjpoapnbkljaaDoorQx0
import Derived.Test.YtabjpoapnbkljaaDoorQx3
import Derived.Test.YtabjpoapnbkljaaDoorQx4
namespace Go.Proofs.YtabjpoapnbkljaaDoor.Q
open Go.RowKit Go.Proofs.YtabjpoapnbkljaaDoorW.PrintWords Go.Proofs.YtabjpoapnbkljaaDoorW.PrintLast Go.Proofs.YtabjpoapnbkljaaDoorW.PrintMore
attribute [local go_sem] max2_int min2_int max_two min_two max_three min_three max_four min_four   -- for this text's walks alone
set_option linter.unusedVariables false
set_option linter.unusedSimpArgs false

/-! ### host_small: function 44 -/
def host_small.f (a0 : Int) : Option (Bool) := if a0 ≥ 97 then (if a0 ≤ 122 then (some true) else ((host_digit.f a0).bind fun t138 => (if t138 = true then (some true) else (if a0 = 45 then (some true) else (some (a0 == 95)))))) else ((host_digit.f a0).bind fun t139 => (if t139 = true then (some true) else (if a0 = 45 then (some true) else (some (a0 == 95)))))
set_option maxHeartbeats 8000000 in
set_option maxRecDepth 100000 in
theorem host_small.calls (a0 : Int) (r : Bool) (w : World) (h : host_small.f a0 = some r) :
    Calls Tryd.prog 44 #[.int .u8 a0] w fun e w' => e = .returned (.bool r) ∧ Drawn0 w w' := by
  have H : (if a0 ≥ 97 then (if a0 ≤ 122 then (some true) else ((host_digit.f a0).bind fun t138 => (if t138 = true then (some true) else (if a0 = 45 then (some true) else (some (a0 == 95)))))) else ((host_digit.f a0).bind fun t139 => (if t139 = true then (some true) else (if a0 = 45 then (some true) else (some (a0 == 95)))))) = some r := h
  clear h
  by_cases c2 : a0 ≥ 97
  · rw [if_pos c2] at H
    have c2b0 : decide (97 ≤ a0) = true := decide_eq_true c2
    clear c2
    by_cases c3 : a0 ≤ 122
    · rw [if_pos c3] at H
      have c3b0 : decide (a0 ≤ 122) = true := decide_eq_true c3
      clear c3
      obtain rfl := Option.some.inj H
      go_enter Tryd.func44, Tryd.ntmps44
      go_wp2
      go_ret
      exact ⟨by first | rfl | (simp; done) | (simp [*]; done) | (simp [q_ne_nil]; done), by repeat (first | exact Drawn0.refl _ | apply Drawn0.step)⟩
    · rw [if_neg c3] at H
      have c3b0 : decide (a0 ≤ 122) = false := decide_eq_false c3
      clear c3
      replace H := Option.bind_eq_some_iff.mp H
      obtain ⟨t138, A40, H⟩ := H
      replace H : (if t138 = true then (some true) else (if a0 = 45 then (some true) else (some (a0 == 95)))) = some r := H
      have A4 := Aside0.mk A40
      clear A40
      by_cases c5 : t138 = true
      · subst c5
        have H1 : (some true) = some r := by rw [if_pos rfl] at H; exact H
        clear H
        have H := H1
        clear H1
        obtain rfl := Option.some.inj H
        go_enter Tryd.func44, Tryd.ntmps44
        go_wp2_with (first | (go_at_call 45; (with_reducible refine (host_digit.calls a0 true _ A4.out).mono ?_); rintro e w' ⟨rfl, ⟨nd, rfl⟩⟩))
        go_ret
        exact ⟨by first | rfl | (simp; done) | (simp [*]; done) | (simp [q_ne_nil]; done), by repeat (first | exact Drawn0.refl _ | apply Drawn0.step)⟩
      · replace c5 := Bool.eq_false_iff.mpr c5
        subst c5
        have H1 : (if a0 = 45 then (some true) else (some (a0 == 95))) = some r := by rw [if_neg (show ¬ (false = true) by decide)] at H; exact H
        clear H
        have H := H1
        clear H1
        by_cases c6 : a0 = 45
        · rw [if_pos c6] at H
          have c6b0 : (a0 == 45) = true := beq_iff_eq.mpr c6
          have c6b1 : (a0 != 45) = false := bne_eq_false_iff_eq.mpr c6
          clear c6
          obtain rfl := Option.some.inj H
          go_enter Tryd.func44, Tryd.ntmps44
          go_wp2_with (first | (go_at_call 45; (with_reducible refine (host_digit.calls a0 false _ A4.out).mono ?_); rintro e w' ⟨rfl, ⟨nd, rfl⟩⟩))
          go_ret
          exact ⟨by first | rfl | (simp; done) | (simp [*]; done) | (simp [q_ne_nil]; done), by repeat (first | exact Drawn0.refl _ | apply Drawn0.step)⟩
        · rw [if_neg c6] at H
          have c6b0 : (a0 == 45) = false := beq_eq_false_iff_ne.mpr c6
          have c6b1 : (a0 != 45) = true := bne_iff_ne.mpr c6
          obtain rfl := Option.some.inj H
          go_enter Tryd.func44, Tryd.ntmps44
          go_wp2_with (first | (go_at_call 45; (with_reducible refine (host_digit.calls a0 false _ A4.out).mono ?_); rintro e w' ⟨rfl, ⟨nd, rfl⟩⟩))
          go_ret
          exact ⟨by first | rfl | (simp; done) | (simp [*]; done) | (simp [q_ne_nil]; done), by repeat (first | exact Drawn0.refl _ | apply Drawn0.step)⟩
  · rw [if_neg c2] at H
    have c2b0 : decide (97 ≤ a0) = false := decide_eq_false c2
    clear c2
    replace H := Option.bind_eq_some_iff.mp H
    obtain ⟨t139, A70, H⟩ := H
    replace H : (if t139 = true then (some true) else (if a0 = 45 then (some true) else (some (a0 == 95)))) = some r := H
    have A7 := Aside0.mk A70
    clear A70
    by_cases c8 : t139 = true
    · subst c8
      have H1 : (some true) = some r := by rw [if_pos rfl] at H; exact H
      clear H
      have H := H1
      clear H1
      obtain rfl := Option.some.inj H
      go_enter Tryd.func44, Tryd.ntmps44
      go_wp2_with (first | (go_at_call 45; (with_reducible refine (host_digit.calls a0 true _ A7.out).mono ?_); rintro e w' ⟨rfl, ⟨nd, rfl⟩⟩))
      go_ret
      exact ⟨by first | rfl | (simp; done) | (simp [*]; done) | (simp [q_ne_nil]; done), by repeat (first | exact Drawn0.refl _ | apply Drawn0.step)⟩
    · replace c8 := Bool.eq_false_iff.mpr c8
      subst c8
      have H1 : (if a0 = 45 then (some true) else (some (a0 == 95))) = some r := by rw [if_neg (show ¬ (false = true) by decide)] at H; exact H
      clear H
      have H := H1
      clear H1
      by_cases c9 : a0 = 45
      · rw [if_pos c9] at H
        have c9b0 : (a0 == 45) = true := beq_iff_eq.mpr c9
        have c9b1 : (a0 != 45) = false := bne_eq_false_iff_eq.mpr c9
        clear c9
        obtain rfl := Option.some.inj H
        go_enter Tryd.func44, Tryd.ntmps44
        go_wp2_with (first | (go_at_call 45; (with_reducible refine (host_digit.calls a0 false _ A7.out).mono ?_); rintro e w' ⟨rfl, ⟨nd, rfl⟩⟩))
        go_ret
        exact ⟨by first | rfl | (simp; done) | (simp [*]; done) | (simp [q_ne_nil]; done), by repeat (first | exact Drawn0.refl _ | apply Drawn0.step)⟩
      · rw [if_neg c9] at H
        have c9b0 : (a0 == 45) = false := beq_eq_false_iff_ne.mpr c9
        have c9b1 : (a0 != 45) = true := bne_iff_ne.mpr c9
        obtain rfl := Option.some.inj H
        go_enter Tryd.func44, Tryd.ntmps44
        go_wp2_with (first | (go_at_call 45; (with_reducible refine (host_digit.calls a0 false _ A7.out).mono ?_); rintro e w' ⟨rfl, ⟨nd, rfl⟩⟩))
        go_ret
        exact ⟨by first | rfl | (simp; done) | (simp [*]; done) | (simp [q_ne_nil]; done), by repeat (first | exact Drawn0.refl _ | apply Drawn0.step)⟩

/-! ### host_Parse: function 35 -/
def digitB (c : Int) : Bool := decide (48 ≤ c) && decide (c ≤ 57)
def smallB (c : Int) : Bool := (decide (97 ≤ c) && decide (c ≤ 122)) || digitB c || (c == 45) || (c == 95)
theorem digit_someH (c : Int) : host_digit.f c = some (digitB c) := by
  unfold host_digit.f digitB
  by_cases h : c ≥ 48 <;> simp [h]
theorem small_someH (c : Int) : host_small.f c = some (smallB c) := by
  unfold host_small.f smallB
  rw [digit_someH]
  simp only [Option.bind_some]
  by_cases h1 : c ≥ 97 <;> by_cases h2 : c ≤ 122 <;> by_cases h3 : digitB c = true <;> by_cases h4 : c = 45 <;> simp [h1, h2, h3, h4] <;> omega
def okLabel (l : ByteArray) : Bool := decide (1 ≤ l.size) && decide (l.size ≤ 63) && allB smallB l
def labelsAt (s : ByteArray) : List ByteArray := cutOf (fun c => c == 46) true s
/-- A name that is a host: labels that may be, the last one no number. -/
def hostNm (s : ByteArray) : Bool := decide (s.size ≤ 253) && (labelsAt s).all okLabel && !allB digitB ((labelsAt s).getLastD ⟨#[]⟩)
def host_Parse.f (a0 : ByteArray) : Option (ByteArray × Bool × Int × Int) := if a0.size ≤ 8796093022200 ∧ hostNm (lowBA a0) = true then some (lowBA a0, false, 0, 0) else none
theorem low_sizeH (s : ByteArray) : (lowBA s).size = s.size := by
  unfold lowBA
  rw [strOfNums_size, List.length_map, bytesOf_length]
/-- A label, its place, and the word that it may be. -/
abbrev Lab := { x : Nat × ByteArray // okLabel x.2 = true }
def labsOf (ls : List ByteArray) (h : ∀ x ∈ ls, okLabel x = true) : List Lab := (List.range ls.length).pmap (fun i (hi : i < ls.length) => ⟨(i, ls[i]), h _ (List.getElem_mem hi)⟩) (fun i hi => List.mem_range.1 hi)
abbrev encLab (x : Lab) : Array Value := #[.int .i64 x.1.1, .string x.1.2]
theorem keepsH {A B : World} (h : Below A.heap.size A B) : KeepsOthers A B := ⟨h.size, fun k o hk _ => (h.block k (blk_lt hk)).trans hk⟩
def lastOf (pre : List Lab) : ByteArray := (pre.map (fun x => x.1.2)).getLastD ⟨#[]⟩
theorem lastOf_snoc (pre : List Lab) (x : Lab) : lastOf (pre ++ [x]) = x.1.2 := by simp [lastOf]
theorem last_size (pre : List Lab) (h : ∀ x ∈ pre, x.1.2.size ≤ 63) : (lastOf pre).size ≤ 63 := by
  rcases List.eq_nil_or_concat pre with rfl | ⟨l, x, rfl⟩
  · show (0 : Nat) ≤ 63; omega
  · rw [List.concat_eq_append, lastOf_snoc]; exact h x (by simp)
/-- Between two labels: the last one, how many, the results' variables. -/
def ParseAt (w w1 : World) (pre : List Lab) (W : World) : Prop :=
  Boxed W w1.heap.size 9 (.string (lastOf pre)) ∧ Boxed W (w1.heap.size + 1) 3 (.int .i64 pre.length) ∧ W.heap[w.heap.size]? = some (.cells #[.string ⟨#[]⟩, .bool false, .int .u32 0] 26 (0, 0)) ∧ W.heap[w.heap.size + 1]? = some (.cells #[.int .i64 0] 43 (0, 0)) ∧ Below w.heap.size w W ∧ (∀ x ∈ pre, x.1.2.size ≤ 63) ∧ w1.heap.size + 1 < W.heap.size
theorem blk_ownF {W W' : World} {row : Option Nat} {g B : Nat} {cs : Array Value} {t : TypeId} {fr : Nat × Nat} (h : W.heap[g]? = some (.cells cs t fr)) (hg : W.grownBy W' row) (hr : ∀ r, row = some r → B ≤ r ∧ ∃ o : Obj, W.heap[r]? = some o ∧ o.isCells = false) : W'.heap[g]? = some (.cells cs t fr) := by
  refine blk_grown h hg (fun e => ?_)
  obtain ⟨_, o, ho, hc⟩ := hr g e.symm
  rw [h] at ho
  injection ho with ho
  subst ho
  cases hc
theorem ParseAt.own (w w1 : World) (B : Nat) (hB : w.heap.size ≤ B) : OwnFrom B (ParseAt w w1) := by
  intro s W W' row ⟨h1, h2, h3, h4, h5, h6, h7⟩ hg hr
  exact ⟨blk_ownF h1 hg hr, blk_ownF h2 hg hr, blk_ownF h3 hg hr, blk_ownF h4 hg hr, ownFrom_below (Nat.le_refl _) hB () W W' row h5 hg hr, h6, Nat.lt_of_lt_of_le h7 hg.size⟩
theorem last_labs (ls : List ByteArray) (h : ∀ x ∈ ls, okLabel x = true) : lastOf (labsOf ls h) = ls.getLastD ⟨#[]⟩ := by
  have e : (labsOf ls h).map (fun x => x.1.2) = ls := List.ext_getElem (by simp [labsOf]) (fun i h1 h2 => by simp [labsOf])
  unfold lastOf
  rw [e]
attribute [local go_sem] Oper.semAt_some in
set_option maxRecDepth 100000 in
set_option maxHeartbeats 4000000 in
theorem host_ok (s : ByteArray) (hs : s.size ≤ 8796093022200) (hok : hostNm (lowBA s) = true) (w : World) :
    Calls Tryd.prog 35 #[.string s] w fun e w' => e = .returned (.tuple #[.agg #[.string (lowBA s), .bool false, .int .u32 0], .int .i64 0]) ∧ Below w.heap.size w w' := by
  have hzt := low_sizeH s
  have hlow := fun W => octet_Lower.calls s (lowBA s) W (by unfold octet_Lower.f; exact if_pos (by omega))
  generalize lowBA s = t at *
  refine (callsIn_wide (n := 5)).1 ?_
  refine callsIn_of_wp_marks Tryd.func35 rfl trivial ?_ rfl
  simp only [Tryd.ntmps35, List.size_toArray, List.length_cons, List.length_nil, Nat.reduceAdd, Nat.reduceSub, Array.replicate_succ, Array.replicate_zero, List.push_toArray, List.append_toArray, List.nil_append, List.cons_append]
  have fw1 : Fence.wide.fn 24 := trivial
  have fw2 : Fence.wide.fn 42 := trivial
  have HL := Aside0.mk hlow
  have HV := Aside0.mk (fun W => labels_any t W)
  have HOK := Aside0.mk hok
  clear hlow hok
  gi_wp2_with (first | (gi_at_call 24; refine (callsIn_wide.2 (HL.out _)).mono ?_; rintro e w1 ⟨rfl, hb1⟩; have HB1 := Aside0.mk hb1; clear hb1) | (gi_at_call 42; refine (callsIn_wide.2 (HV.out _)).mono ?_; rintro e w' ⟨rfl, rfl⟩))
  have r0 : w1.heap[w.heap.size]? = some (.cells #[.string ⟨#[]⟩, .bool false, .int .u32 0] 26 (0, 0)) := blk_below (blk_alloc (blk_new w _) _) HB1.out
  have r1 : w1.heap[w.heap.size + 1]? = some (.cells #[.int .i64 0] 43 (0, 0)) := blk_below (by simpa using blk_new (w.alloc (.cells #[.string ⟨#[]⟩, .bool false, .int .u32 0] 26)) (.cells #[.int .i64 0] 43)) HB1.out
  have hB1 : Below w.heap.size w w1 := (below_alloc (below_alloc (Below.refl _ w) _) _).trans (HB1.out.mono (by simp; omega))
  have hs1 : w.heap.size + 1 < w1.heap.size := by have := HB1.out.size; simp at this; omega
  have bO := Boxed.new w1 9 (.string ⟨#[]⟩)
  have bC := Boxed.new (w1.alloc (.cells #[.string ⟨#[]⟩] 9)) 3 (.int .i64 0)
  have bS := Boxed.new ((w1.alloc (.cells #[.string ⟨#[]⟩] 9)).alloc (.cells #[.int .i64 0] 3)) 9 (.string t)
  rw [World.size_alloc] at bC
  rw [World.size_alloc, World.size_alloc] at bS
  have hB0 : Below w.heap.size w (((w1.alloc (.cells #[.string ⟨#[]⟩] 9)).alloc (.cells #[.int .i64 0] 3)).alloc (.cells #[.string t] 9)) := ((hB1.alloc (by omega) _).alloc (by simp; omega) _).alloc (by simp; omega) _
  have hok := HOK.out
  unfold hostNm at hok
  simp only [Bool.and_eq_true, decide_eq_true_eq, Bool.not_eq_true'] at hok
  obtain ⟨⟨ht, hall⟩, hlast⟩ := hok
  have hall2 : ∀ x ∈ labelsAt t, okLabel x = true := List.all_eq_true.1 hall
  have hlen : (labsOf (labelsAt t) hall2).length = (labelsAt t).length := by simp [labsOf]
  have henc : ∀ (k : Nat) (h : k < (labsOf (labelsAt t) hall2).length), encLab ((labsOf (labelsAt t) hall2)[k]'h) = #[.int .i64 k, .string ((labelsAt t).getD k ⟨#[]⟩)] := by
    intro k h
    have h2 : k < (labelsAt t).length := by rw [← hlen]; exact h
    simp [labsOf, encLab, List.getElem?_eq_getElem h2]
  have hlst : lastOf (labsOf (labelsAt t) hall2) = (labelsAt t).getLastD ⟨#[]⟩ := last_labs _ hall2
  rw [← hlst] at hlast
  have hN : (labsOf (labelsAt t) hall2).length ≤ 8796093022201 := by
    rw [hlen]
    unfold labelsAt cutOf
    have h1 := keepParts_len true ((cutSt (fun c => c == 46) t t.size).1 ++ [t.extract (cutSt (fun c => c == 46) t t.size).2 t.size])
    have h2 := cutSt_len (fun c => c == 46) t t.size
    simp only [List.length_append, List.length_singleton] at h1
    omega
  clear hlst hall
  have hst := labels_stops encLab 4 (by omega) _ (w1.heap.size + 1 + 1) t (by omega) (labelsAt t) rfl (labsOf (labelsAt t) hall2) hlen henc bS
  clear hlen henc hzt
  generalize labsOf (labelsAt t) hall2 = ys at *
  clear hall2
  have HLAST := Aside0.mk hlast
  have hsmall := fun (l : ByteArray) (hl : allB smallB l = true) (hz : l.size ≤ 63) W => fits_calls 44 smallB l W (by omega) (enters_of Tryd.func44 (by kernel_rfl) rfl) (fun W c _ _ => host_small.calls c (smallB c) W (small_someH c))
  have hdig := fun (l : ByteArray) (hz : l.size ≤ 63) W => fits_calls 45 digitB l W (by omega) (enters_of Tryd.func45 (by kernel_rfl) rfl) (fun W c _ _ => host_digit.calls c (digitB c) W (digit_someH c))
  have HSM := Aside0.mk hsmall
  have HDG := Aside0.mk hdig
  clear hsmall hdig hlast
  refine wpIn_rangeFunc_ownG rfl (by omega) (gf := 53) (lb := #[.pointer (some ⟨w1.heap.size + 1 + 1, 0, none⟩)]) rfl trivial (enters_of Tryd.func53 (by kernel_rfl) rfl)
    hst KpAb.trans (fun W l o o' _ h1 h2 _ => KpAb.putObj W l o o' h1 h2) (Below.refl _ _) (fun _ => rfl)
    (fun pre W => ParseAt w w1 pre W) (fun _ _ _ => False)
    (ParseAt.own w w1 _ (by simp; omega))
    (fun _ _ _ _ _ hs _ _ => hs)
    ⟨((bO.alloc _).alloc _), bC.alloc _, blk_alloc (blk_alloc (blk_alloc r0 _) _) _, blk_alloc (blk_alloc (blk_alloc r1 _) _) _, hB0, (fun _ h => by cases h), by simp⟩
    (fun x => { tmps := #[.string t, undef, .pointer (some ⟨w.heap.size, 0, none⟩), .pointer (some ⟨w.heap.size + 1, 0, none⟩), .pointer (some ⟨w1.heap.size, 0, none⟩), .pointer (some ⟨w1.heap.size + 1, 0, none⟩), undef, .string x.1.2, undef, undef, undef, undef, undef, .string s, .string t, .string t, .func (.func 53) #[] #[.pointer (some ⟨w1.heap.size + 1 + 1, 0, none⟩)], .int .i64 x.1.1, .string x.1.2, undef, undef, undef, undef, undef, undef, undef, undef, undef, undef, undef, undef, undef, undef, undef, undef, undef, undef, undef, undef, undef, undef, undef, undef, undef, undef, undef, undef, undef, undef, undef, undef, undef, undef, undef, undef, undef, undef, undef, undef, undef, undef, undef, undef, undef, undef, undef, undef, undef, undef, undef, undef, undef, undef, undef, undef, undef], defers := [] }) ?assign ?body ?done ?stop
  case assign =>
    intro l x W K hK
    gi_wp2
    exact hK
  case body =>
    rintro l pre ⟨⟨i, x⟩, hx⟩ W ⟨bO, bC, r0, r1, hB, hl, hsz⟩ hlt
    unfold okLabel at hx
    simp only [Bool.and_eq_true, decide_eq_true_eq] at hx
    obtain ⟨⟨hx1, hx2⟩, hx3⟩ := hx
    have hc4 := bO.cell
    have hc5 := bC.cell
    have hf4 := bO.frozen
    have hf5 := bC.frozen
    have n1 : decide ((x.size : Int) < 1) = false := by simp; omega
    have n2 : decide ((63 : Int) < (x.size : Int)) = false := by simp; omega
    have hpl : pre.length ≤ 8796093022201 := by omega
    have HX := Aside0.mk hx2
    have HFT := Aside0.mk (fun W => by have := HSM.out x hx3 hx2 W; rw [hx3] at this; exact this)
    have BO := Aside0.mk bO
    have BC := Aside0.mk bC
    have R0 := Aside0.mk r0
    have R1 := Aside0.mk r1
    have HB := Aside0.mk hB
    have HLL := Aside0.mk hl
    have HSZ := Aside0.mk hsz
    clear bO bC r0 r1 hB hl hsz hx1 hx2 hx3 HSM
    have fw3 : Fence.wide.fn 43 := trivial
    gi_wp2_with (first | (gi_at_call 43; refine (CallsIn.inRound l (callsIn_wide.2 (HFT.out _))).mono ?_; rintro e w2 ⟨rfl, ⟨m, rfl⟩⟩))
    have e1 : (↑pre.length + 1 : Int) = ((pre ++ [(⟨(i, x), hx⟩ : Lab)]).length : Int) := by simp
    rw [e1]
    refine ⟨((keepsH (Below.refl _ _ |> (pw_below_drewN · m))).trans ((KeepsOthers.setCell _ _ _).trans (KeepsOthers.setCell _ _ _))).from _, (KpAb.below (pw_below_drewN (Below.refl _ _) m)).trans ((KpAb.setCell _ (by simp; omega) _ _).trans (KpAb.setCell _ (by simp) _ _)), ?_⟩
    have hne : w1.heap.size ≠ w1.heap.size + 1 := by omega
    have b4 : Boxed (((W.drewN m).setCell ⟨w1.heap.size, 0, none⟩ (.string x)).setCell ⟨w1.heap.size + 1, 0, none⟩ (.int .i64 ((pre ++ [(⟨(i, x), hx⟩ : Lab)]).length : Int))) w1.heap.size 9 (.string x) := Boxed.other (Boxed.set _ (W := W.drewN m) BO.out) hne _
    have b5 : Boxed (((W.drewN m).setCell ⟨w1.heap.size, 0, none⟩ (.string x)).setCell ⟨w1.heap.size + 1, 0, none⟩ (.int .i64 ((pre ++ [(⟨(i, x), hx⟩ : Lab)]).length : Int))) (w1.heap.size + 1) 3 (.int .i64 ((pre ++ [(⟨(i, x), hx⟩ : Lab)]).length : Int)) := Boxed.set _ (Boxed.other (W := W.drewN m) BC.out (Ne.symm hne) _)
    have hb := ((pw_below_drewN HB.out m).setCell (p := ⟨w1.heap.size, 0, none⟩) (by show w.heap.size ≤ w1.heap.size; omega) (.string x)).setCell (p := ⟨w1.heap.size + 1, 0, none⟩) (by show w.heap.size ≤ w1.heap.size + 1; omega) (.int .i64 ((pre ++ [(⟨(i, x), hx⟩ : Lab)]).length : Int))
    refine ⟨by rw [lastOf_snoc]; exact b4, b5, blk_far (blk_far (w := W.drewN m) R0.out (by show w.heap.size ≠ w1.heap.size; omega) _) (by show w.heap.size ≠ w1.heap.size + 1; omega) _, blk_far (blk_far (w := W.drewN m) R1.out (by show w.heap.size + 1 ≠ w1.heap.size; omega) _) (by show w.heap.size + 1 ≠ w1.heap.size + 1; omega) _, hb, ?_, by have := HSZ.out; simpa using this⟩
    intro y hy
    rcases List.mem_append.1 hy with h | h
    · exact HLL.out y h
    · rw [List.mem_singleton.1 h]; exact HX.out
  case done =>
    rintro D zs W hD rfl ⟨bO, bC, r0, r1, hB, hl, hsz⟩ hK
    have hz := last_size _ hl
    have hc4 := bO.cell
    have hc5 := bC.cell
    have n3 : decide ((253 : Int) < (t.size : Int)) = false := by simp; omega
    have HFT := Aside0.mk (fun W => by have := HDG.out _ hz W; rw [HLAST.out] at this; exact this)
    generalize lastOf zs = ll at *
    have k0 : W.cell? ⟨w.heap.size, 0, none⟩ = some (.string ⟨#[]⟩) := (blk_cell r0 0).trans rfl
    have k1 : W.cell? ⟨w.heap.size, 1, none⟩ = some (.bool false) := (blk_cell r0 1).trans rfl
    have k2 : W.cell? ⟨w.heap.size, 2, none⟩ = some (.int .u32 0) := (blk_cell r0 2).trans rfl
    have k3 : W.cell? ⟨w.heap.size + 1, 0, none⟩ = some (.int .i64 0) := (blk_cell r1 0).trans rfl
    have f0 := blk_frozen r0 0
    have f1 := blk_frozen r0 1
    have f2 := blk_frozen r0 2
    have f3 := blk_frozen r1 0
    have BO := Aside0.mk bO
    have BC := Aside0.mk bC
    have R0 := Aside0.mk r0
    have R1 := Aside0.mk r1
    have HB := Aside0.mk hB
    have HSZ := Aside0.mk hsz
    have HK := Aside0.mk hK
    clear bO bC r0 r1 hB hsz hl hK hst HSM HDG
    have fw3 : Fence.wide.fn 43 := trivial
    gi_wp2_with (first | (gi_at_call 43; refine (callsIn_wide.2 (HFT.out _)).mono ?_; rintro e w2 ⟨rfl, ⟨m, rfl⟩⟩))
    rename_i m1
    have q0 : ((((((W.drewN (m1 + m)).setCell ⟨w.heap.size, 0, none⟩ (.string t)).setCell ⟨w.heap.size, 1, none⟩ (.bool false)).setCell ⟨w.heap.size, 2, none⟩ (.int .u32 0)).setCell ⟨w.heap.size + 1, 0, none⟩ (.int .i64 0))).heap[w.heap.size]? = some (.cells #[.string t, .bool false, .int .u32 0] 26 (0, 0)) :=
      blk_far (blk_set (blk_set (blk_set (w := W.drewN (m1 + m)) R0.out 0 (.string t)) 1 (.bool false)) 2 (.int .u32 0)) (by show w.heap.size ≠ w.heap.size + 1; omega) _
    have q1 : ((((((W.drewN (m1 + m)).setCell ⟨w.heap.size, 0, none⟩ (.string t)).setCell ⟨w.heap.size, 1, none⟩ (.bool false)).setCell ⟨w.heap.size, 2, none⟩ (.int .u32 0)).setCell ⟨w.heap.size + 1, 0, none⟩ (.int .i64 0))).heap[w.heap.size + 1]? = some (.cells #[.int .i64 0] 43 (0, 0)) :=
      blk_set (blk_far (blk_far (blk_far (w := W.drewN (m1 + m)) R1.out (by show w.heap.size + 1 ≠ w.heap.size; omega) _) (by show w.heap.size + 1 ≠ w.heap.size; omega) _) (by show w.heap.size + 1 ≠ w.heap.size; omega) _) 0 (.int .i64 0)
    have hko : KeepsOthers W ((((((W.drewN (m1 + m)).setCell ⟨w.heap.size, 0, none⟩ (.string t)).setCell ⟨w.heap.size, 1, none⟩ (.bool false)).setCell ⟨w.heap.size, 2, none⟩ (.int .u32 0)).setCell ⟨w.heap.size + 1, 0, none⟩ (.int .i64 0))) :=
      (keepsH (pw_below_drewN (Below.refl _ W) (m1 + m))).trans ((KeepsOthers.setCell _ _ _).trans ((KeepsOthers.setCell _ _ _).trans ((KeepsOthers.setCell _ _ _).trans (KeepsOthers.setCell _ _ _))))
    have hbb := ((((pw_below_drewN HB.out (m1 + m)).setCell (p := ⟨w.heap.size, 0, none⟩) (Nat.le_refl _) (.string t)).setCell (p := ⟨w.heap.size, 1, none⟩) (Nat.le_refl _) (.bool false)).setCell (p := ⟨w.heap.size, 2, none⟩) (Nat.le_refl _) (.int .u32 0)).setCell (p := ⟨w.heap.size + 1, 0, none⟩) (by show w.heap.size ≤ w.heap.size + 1; omega) (.int .i64 0)
    generalize ((((((W.drewN (m1 + m)).setCell ⟨w.heap.size, 0, none⟩ (.string t)).setCell ⟨w.heap.size, 1, none⟩ (.bool false)).setCell ⟨w.heap.size, 2, none⟩ (.int .u32 0)).setCell ⟨w.heap.size + 1, 0, none⟩ (.int .i64 0))) = W5 at *
    have hK5 := hko.same D _ HK.out rfl
    have hD2 : w.heap.size + 2 < D := by simp at hD; omega
    refine ⟨by simp, .inl ⟨_, _, rfl, run_takeDeferred hK5, ?_⟩⟩
    have p0 : (W5.putObj D (.deferred none)).heap[w.heap.size]? = _ := (World.putObj_heap_other (by omega)).trans q0
    have p1 : (W5.putObj D (.deferred none)).heap[w.heap.size + 1]? = _ := (World.putObj_heap_other (by omega)).trans q1
    have c0 : (W5.putObj D (.deferred none)).cell? ⟨w.heap.size, 0, none⟩ = some (.string t) := (blk_cell p0 0).trans rfl
    have c1 : (W5.putObj D (.deferred none)).cell? ⟨w.heap.size, 1, none⟩ = some (.bool false) := (blk_cell p0 1).trans rfl
    have c2 : (W5.putObj D (.deferred none)).cell? ⟨w.heap.size, 2, none⟩ = some (.int .u32 0) := (blk_cell p0 2).trans rfl
    have c3 : (W5.putObj D (.deferred none)).cell? ⟨w.heap.size + 1, 0, none⟩ = some (.int .i64 0) := (blk_cell p1 0).trans rfl
    refine ⟨.tuple #[.agg #[.string t, .bool false, .int .u32 0], .int .i64 0], by simp [results, Tryd.results35, go_sem, c0, c1, c2, c3], rfl, hbb.trans (belowK_b (w := w) (Nat.le_refl _) _ D _ _ (by omega) hK5 rfl rfl)⟩
  case stop =>
    rintro D c pre W _ _ h _
    exact h.elim
theorem host_Parse.calls (a0 : ByteArray) (r1 : ByteArray) (r2 : Bool) (r3 r4 : Int) (w : World) (h : host_Parse.f a0 = some (r1, r2, r3, r4)) :
    Calls Tryd.prog 35 #[.string a0] w fun e w' => e = .returned (.tuple #[.agg #[.string r1, .bool r2, .int .u32 r3], .int .i64 r4]) ∧ Below w.heap.size w w' := by
  unfold host_Parse.f at h
  split at h
  · rename_i hok
    obtain ⟨rfl, rfl, rfl, rfl⟩ : lowBA a0 = r1 ∧ false = r2 ∧ 0 = r3 ∧ 0 = r4 := by simpa using h
    exact host_ok a0 hok.1 hok.2 w
  · cases h


/-! ### strings_Split: function 46 -/
def splitOf (a0 a1 : ByteArray) : List ByteArray := Lib.splitB a1 0 (Lib.countB a0 a1) a0
def strings_Split.f (a0 : ByteArray) (a1 : ByteArray) : Option (List ByteArray) := if a1.size = 1 ∧ a0.size < 4294967281 then some (splitOf a0 a1) else none
set_option maxHeartbeats 1000000 in
set_option maxRecDepth 100000 in
theorem strings_Split.calls (a0 : ByteArray) (a1 : ByteArray) (r : List ByteArray) (w : World) (h : strings_Split.f a0 a1 = some r) :
    Calls Tryd.prog 46 #[.string a0, .string a1] w fun e w' => ∃ v0_ : Value, e = .returned v0_ ∧ Kd.R Kd.string 9 w' w.heap.size (fun _ => True) v0_ r ∧ Below w.heap.size w w' := by
  unfold strings_Split.f at h
  split at h
  · rename_i hs
    obtain ⟨h1, hs⟩ := hs
    obtain rfl := Option.some.inj h
    clear h
    obtain ⟨c, rfl⟩ := Lib.one_byte a1 h1
    have hle := Lib.countB_le ⟨#[c]⟩ (by rw [h1]; exact Nat.le_refl _) a0.size a0 (Nat.le_refl _)
    have hlen := Lib.splitB_all ⟨#[c]⟩ (by rw [h1]; exact Nat.le_refl _) 0 _ a0 rfl
    have c1 := Any.strings_genSplit_core { Tryd.lays146 with } (by kernel_rfl) a0 ⟨#[c]⟩ 0 (-1) (Lib.countB a0 ⟨#[c]⟩ + 1) w hs (by rw [h1]; exact Nat.le_refl _) (Nat.zero_le _)
      (fun x cs hx => (Tryd.strings_Index_one x c _).mono fun e w1 ⟨h1, h2⟩ => ⟨by rw [h1]; show _ = Ending.returned (Value.int .i64 (Lib.index x.data.toList [c])); rw [Lib.index_one], h2⟩)
      ((Tryd.strings_Count_one a0 c w).mono fun e w' ⟨he, hw⟩ => ⟨by
        rw [he]
        show _ = Ending.returned (Value.int .i64 ((Lib.count a0.data.toList [c] : Nat) : Int))
        rw [Lib.count_one]
        rfl, hw⟩) (by decide) (by decide) (by rw [if_pos (by decide)]; omega)
    change Calls Tryd.prog 55 #[.string a0, .string ⟨#[c]⟩, .int .i64 0, .int .i64 (-1)] w _ at c1
    rw [Nat.add_sub_cancel, hlen] at c1
    have e2 : Lib.cellsOf (Lib.splitB ⟨#[c]⟩ 0 (Lib.countB a0 ⟨#[c]⟩) a0) (Lib.countB a0 ⟨#[c]⟩ + 1) = ((Lib.splitB ⟨#[c]⟩ 0 (Lib.countB a0 ⟨#[c]⟩) a0).map Value.string).toArray := by rw [← hlen]; exact Lib.cellsOf_full _
    rw [e2, ← hlen] at c1
    change Calls Tryd.prog 55 #[.string a0, .string ⟨#[c]⟩, .int .i64 0, .int .i64 (-1)] w (fun e w' => e = .returned (.slice (some ⟨w.heap.size, 0, none⟩) (splitOf a0 ⟨#[c]⟩).length (splitOf a0 ⟨#[c]⟩).length) ∧ w' = w.alloc (.cells ((splitOf a0 ⟨#[c]⟩).map Value.string).toArray 9)) at c1
    have hl : (splitOf a0 ⟨#[c]⟩).length ≤ 4294967290 := by have : (splitOf a0 ⟨#[c]⟩).length = Lib.countB a0 ⟨#[c]⟩ + 1 := hlen; omega
    clear hlen e2 hle
    generalize splitOf a0 ⟨#[c]⟩ = l at *
    have C1 := Aside0.mk c1
    clear c1
    go_enter Tryd.func46, Tryd.ntmps46
    go_wp2_with (go_at_call 55; refine C1.out.mono ?_; rintro e w' ⟨rfl, hw⟩; have HW := Aside0.mk hw; clear hw)
    go_ret
    refine ⟨_, rfl, ?_, ?_⟩
    · rw [HW.out]
      exact Kd.R_of_own (by simpa [encs] using own_lit_of (enc := Value.string) w w.heap.size 9 l (Nat.le_refl _) (by omega)) (fun _ _ => trivial)
    · rw [HW.out]
      exact (Below.refl _ _).alloc (Nat.le_refl _) _
  · cases h


/-! ### stringslite_TrimPrefix: function 56 -/
def stringslite_TrimPrefix.f (a0 : ByteArray) (a1 : ByteArray) : Option (ByteArray) := (stringslite_HasPrefix.f a0 a1).bind fun t140 => (if t140 = true then (if 0 ≤ (a1.size : Int) then (if (a1.size : Int) ≤ (a0.size : Int) then (some (a0.extract ((a1.size : Int) : Int).toNat a0.size)) else (none)) else (none)) else (some a0))
set_option maxHeartbeats 8000000 in
set_option maxRecDepth 100000 in
theorem stringslite_TrimPrefix.calls (a0 : ByteArray) (a1 : ByteArray) (r : ByteArray) (w : World) (h : stringslite_TrimPrefix.f a0 a1 = some r) :
    Calls Tryd.prog 56 #[.string a0, .string a1] w fun e w' => e = .returned (.string r) ∧ Drawn0 w w' := by
  have H : ((stringslite_HasPrefix.f a0 a1).bind fun t140 => (if t140 = true then (if 0 ≤ (a1.size : Int) then (if (a1.size : Int) ≤ (a0.size : Int) then (some (a0.extract ((a1.size : Int) : Int).toNat a0.size)) else (none)) else (none)) else (some a0))) = some r := h
  clear h
  replace H := Option.bind_eq_some_iff.mp H
  obtain ⟨t140, A30, H⟩ := H
  replace H : (if t140 = true then (if 0 ≤ (a1.size : Int) then (if (a1.size : Int) ≤ (a0.size : Int) then (some (a0.extract ((a1.size : Int) : Int).toNat a0.size)) else (none)) else (none)) else (some a0)) = some r := H
  have A3 := Aside0.mk A30
  clear A30
  by_cases c4 : t140 = true
  · subst c4
    have H1 : (if 0 ≤ (a1.size : Int) then (if (a1.size : Int) ≤ (a0.size : Int) then (some (a0.extract ((a1.size : Int) : Int).toNat a0.size)) else (none)) else (none)) = some r := by rw [if_pos rfl] at H; exact H
    clear H
    have H := H1
    clear H1
    by_cases c5 : 0 ≤ (a1.size : Int)
    · rw [if_pos c5] at H
      have c5b0 := eq_true c5
      have c5b1 : decide (0 ≤ (a1.size : Int)) = true := decide_eq_true c5
      clear c5
      by_cases c6 : (a1.size : Int) ≤ (a0.size : Int)
      · rw [if_pos c6] at H
        have c6b0 := eq_true c6
        have c6b1 : decide ((a1.size : Int) ≤ (a0.size : Int)) = true := decide_eq_true c6
        clear c6
        obtain rfl := Option.some.inj H
        go_enter Tryd.func56, Tryd.ntmps56
        go_wp2_with (first | ((with_reducible refine gate_callee (f := 38) rfl ?_); refine goesL_ (some 7) rfl rfl Tryd.func38 (by kernel_rfl) rfl #[.string a0, .string a1] rfl (by (try simp only [List.map_toArray, List.map_cons, List.map_nil]); first | done | rfl | (simp only [List.length_drop, List.length_take]; rfl)) ?_; (with_reducible refine (stringslite_HasPrefix.calls a0 a1 true _ A3.out).mono ?_); rintro e w' ⟨rfl, ⟨nd, rfl⟩⟩; refine ⟨_, rfl, ?_⟩))
        go_ret
        exact ⟨by first | rfl | (simp; done) | (simp [*]; done) | (simp [q_ne_nil]; done), by repeat (first | exact Drawn0.refl _ | apply Drawn0.step)⟩
      · rw [if_neg c6] at H
        exact absurd H (by simp)
    · rw [if_neg c5] at H
      exact absurd H (by simp)
  · replace c4 := Bool.eq_false_iff.mpr c4
    subst c4
    have H1 : (some a0) = some r := by rw [if_neg (show ¬ (false = true) by decide)] at H; exact H
    clear H
    have H := H1
    clear H1
    obtain rfl := Option.some.inj H
    go_enter Tryd.func56, Tryd.ntmps56
    go_wp2_with (first | ((with_reducible refine gate_callee (f := 38) rfl ?_); refine goesL_ (some 7) rfl rfl Tryd.func38 (by kernel_rfl) rfl #[.string a0, .string a1] rfl (by (try simp only [List.map_toArray, List.map_cons, List.map_nil]); first | done | rfl | (simp only [List.length_drop, List.length_take]; rfl)) ?_; (with_reducible refine (stringslite_HasPrefix.calls a0 a1 false _ A3.out).mono ?_); rintro e w' ⟨rfl, ⟨nd, rfl⟩⟩; refine ⟨_, rfl, ?_⟩))
    go_ret
    exact ⟨by first | rfl | (simp; done) | (simp [*]; done) | (simp [q_ne_nil]; done), by repeat (first | exact Drawn0.refl _ | apply Drawn0.step)⟩

/-! ### strings_TrimPrefix: function 47 -/
def strings_TrimPrefix.f (a0 : ByteArray) (a1 : ByteArray) : Option (ByteArray) := (stringslite_TrimPrefix.f a0 a1).bind fun t141 => (some t141)
set_option maxHeartbeats 8000000 in
set_option maxRecDepth 100000 in
theorem strings_TrimPrefix.calls (a0 : ByteArray) (a1 : ByteArray) (r : ByteArray) (w : World) (h : strings_TrimPrefix.f a0 a1 = some r) :
    Calls Tryd.prog 47 #[.string a0, .string a1] w fun e w' => e = .returned (.string r) ∧ Drawn0 w w' := by
  have H : ((stringslite_TrimPrefix.f a0 a1).bind fun t141 => (some t141)) = some r := h
  clear h
  replace H := Option.bind_eq_some_iff.mp H
  obtain ⟨t141, A30, H⟩ := H
  replace H : (some t141) = some r := H
  have A3 := Aside0.mk A30
  clear A30
  obtain rfl := Option.some.inj H
  go_enter Tryd.func47, Tryd.ntmps47
  go_wp2_with (first | ((with_reducible refine gate_callee (f := 56) rfl ?_); refine goesL_ (some 7) rfl rfl Tryd.func56 (by kernel_rfl) rfl #[.string a0, .string a1] rfl (by (try simp only [List.map_toArray, List.map_cons, List.map_nil]); first | done | rfl | (simp only [List.length_drop, List.length_take]; rfl)) ?_; (with_reducible refine (stringslite_TrimPrefix.calls a0 a1 t141 _ A3.out).mono ?_); rintro e w' ⟨rfl, ⟨nd, rfl⟩⟩; refine ⟨_, rfl, ?_⟩))
  go_ret
  exact ⟨by first | rfl | (simp; done) | (simp [*]; done) | (simp [q_ne_nil]; done), by repeat (first | exact Drawn0.refl _ | apply Drawn0.step)⟩

/-! ### strings_Join: function 48 -/
def joinBA (l : List ByteArray) (sep : ByteArray) : ByteArray := ⟨(Lib.join (l.map (·.data.toList)) sep.data.toList).toArray⟩
def strings_Join.f (l0 : List ByteArray) (a1 : ByteArray) : Option ByteArray := if (joinBA l0 a1).size ≤ 140737488355328 ∧ l0.length ≤ 8796093022208 then some (joinBA l0 a1) else none
theorem cell_spot {w : World} {a : Addr} {v : Value} (h : w.cell? a = some v) : a.spot = none := by
  unfold World.cell? at h
  split at h
  · cases hs : a.spot with
    | none => rfl
    | some x => simp [hs] at h
  · cases h
theorem strings_Join.calls (A0 : Option Addr) (c0 : Nat) (l0 : List ByteArray) (a1 : ByteArray) (r : ByteArray) (w : World) (hr0 : Kd.C Kd.string w A0 l0.length l0) (hc0 : l0.length ≤ c0) (h : strings_Join.f l0 a1 = some r) :
    Calls Tryd.prog 48 #[.slice A0 l0.length c0, .string a1] w fun e w' => e = .returned (.string r) ∧ Below w.heap.size w w' := by
  unfold strings_Join.f at h
  split at h
  · rename_i hs
    obtain rfl := Option.some.inj h
    clear h
    cases l0 with
    | nil => exact (Tryd.strings_Join_none A0 c0 a1 w).mono fun e w' ⟨h1, h2⟩ => ⟨h1, by subst h2; exact Below.refl _ _⟩
    | cons x xs =>
      obtain ⟨ad, c, e, _, hK, hc⟩ := Kd.C_get hr0 (⟨#[]⟩ : ByteArray) 0 (Int.le_refl _) (by simp)
      obtain rfl := e
      have hall : ∀ (j : Nat) y, (x :: xs)[j]? = some y → w.cell? (ad.add j) = some (.string y) := by
        intro j y hj
        have hjl : j < (x :: xs).length := (List.getElem?_eq_some_iff.1 hj).1
        obtain ⟨ad', c', e', _, hK', hc'⟩ := Kd.C_get hr0 (⟨#[]⟩ : ByteArray) (j : Int) (by omega) (by omega)
        injection e' with e'
        subst e'
        have e2 : c' = [.string y] := by
          have : (x :: xs).getD j (⟨#[]⟩ : ByteArray) = y := by rw [List.getD_eq_getElem?_getD, hj]; rfl
          simp only [Int.toNat_natCast, this] at hK'
          exact hK'
        subst e2
        have := hc' 0 _ rfl
        simpa [show (Kd.string).sz = 1 from rfl] using this
      have h0 := hall 0 x rfl
      have hsp : ad.spot = none := by have := cell_spot h0; unfold Addr.add at this; simpa using this
      obtain ⟨bk, o, sp⟩ := ad
      simp only at hsp
      subst hsp
      have hlt := World.block_lt_of_cell? w _ h0
      refine (Tryd.strings_Join bk o c0 (x :: xs) a1 w (fun j y hj => ?_) (by simpa [Addr.add] using hlt) (by omega) hc0 (by have := hs.1; unfold joinBA at this; simpa [ByteArray.size] using this)).mono fun e w' hh => hh
      have := hall j y hj
      unfold Addr.add at this
      by_cases hj0 : j = 0
      · subst hj0; simpa using this
      · simpa [hj0] using this
  · cases h


/-! ### urlp_clean: function 37 -/
/-- A part that is no point, nor two. -/
def plainPart (p : ByteArray) : Bool := !(p.toList == ([46, 46] : List UInt8)) && !(p.toList == ([46] : List UInt8))
def urlp_clean.f (a0 : ByteArray) : Option ByteArray := (strings_TrimPrefix.f a0 ⟨#[47]⟩).bind fun t => (strings_Split.f t ⟨#[47]⟩).bind fun l => (strings_Join.f l ⟨#[47]⟩).bind fun j => if l.all plainPart = true ∧ l.length ≤ 4294967290 ∧ j.size ≤ 140737488355328 then some (⟨#[47]⟩ ++ j) else none
/-- Between two parts. -/
def ClRel (w w1 : World) (ls : List ByteArray) (g : Nat) (v3 v12 : Value) (wr : World) : Prop :=
  ∃ k : Nat, k ≤ ls.length ∧ v12 = .int .i64 k ∧ (∃ A c, v3 = .slice A k c) ∧ Kd.R Kd.string 9 wr w.heap.size (fun b => b ≠ g) v3 (ls.take k) ∧ Below w.heap.size w wr ∧ wr.heap[g]? = w1.heap[g]? ∧ g < wr.heap.size
set_option maxHeartbeats 4000000 in
set_option maxRecDepth 100000 in
theorem urlp_clean.calls (a0 : ByteArray) (r : ByteArray) (w : World) (h : urlp_clean.f a0 = some r) :
    Calls Tryd.prog 37 #[.string a0] w fun e w' => e = .returned (.string r) ∧ Below w.heap.size w w' := by
  unfold urlp_clean.f at h
  obtain ⟨t, ht, h⟩ := Option.bind_eq_some_iff.mp h
  obtain ⟨ls, hl, h⟩ := Option.bind_eq_some_iff.mp h
  obtain ⟨j, hj, h⟩ := Option.bind_eq_some_iff.mp h
  split at h
  · rename_i hok
    obtain ⟨hall, hlen, hjz⟩ := hok
    obtain rfl := Option.some.inj h
    clear h
    have hpos : 0 < ls.length := by
      unfold strings_Split.f at hl
      split at hl
      · rename_i hs
        obtain rfl := Option.some.inj hl
        have : (splitOf t ⟨#[47]⟩).length = _ + 1 := Lib.splitB_all ⟨#[47]⟩ (by rw [hs.1]; exact Nat.le_refl _) 0 _ t rfl
        omega
      · cases hl
    have HT := Aside0.mk (fun W => strings_TrimPrefix.calls a0 ⟨#[47]⟩ t W ht)
    have HL := Aside0.mk (fun W => strings_Split.calls t ⟨#[47]⟩ ls W hl)
    have HJ := Aside0.mk (fun A c W hr hc => strings_Join.calls A c ls ⟨#[47]⟩ j W hr hc hj)
    have HALL := Aside0.mk (List.all_eq_true.1 hall)
    clear ht hl hj hall
    go_enter Tryd.func37, Tryd.ntmps37
    go_wp2
    go_step3
    go_wp2_with (first | (go_at_call 47; refine (HT.out _).mono ?_; rintro e w1 ⟨rfl, ⟨m, rfl⟩⟩) | (go_at_call 46; refine (HL.out _).mono ?_; rintro e w1 ⟨v0, rfl, hR1, hb1⟩; have hR1b := Kd.R_form hR1 hpos; obtain ⟨g, cap, rfl, hg1, hg2, cells, hcells⟩ := hR1b; obtain ⟨_, _, hC1⟩ := Kd.R_reads' hR1; have HR1 := Aside0.mk hR1; have HB1 := Aside0.mk hb1; have HC1 := Aside0.mk hC1; have HG2 := Aside0.mk hg2; have HG1 := Aside0.mk hg1; have HCL := Aside0.mk hcells; clear hR1 hb1 hC1 hg1 hg2 hcells))
    go_step3
    go_wp2
    have hbw : Below w.heap.size w w1 := (pw_below_drewN (Below.refl _ w) m).trans (HB1.out.mono (by simp))
    have HBW := Aside0.mk hbw
    clear hbw
    go_loopw [3, 12] (fun v3 v12 wr => ClRel w w1 ls g v3 v12 wr) (fun _ v12 _ => ls.length - (intOf v12).toNat)
    case atStart => exact ⟨0, Nat.zero_le _, rfl, ⟨none, 0, rfl⟩, by simpa using Kd.R_nil _ _ _ _ _, HBW.out, rfl, HG2.out⟩
    case round =>
      clear HBW
      obtain ⟨k, hk, rfl, ⟨A3, c3, rfl⟩, hR, hbw, hg, hgl⟩ := hrel
      by_cases hlt : k < ls.length
      · obtain ⟨ad, c, hA, _, hKc, hc⟩ := Kd.C_get HC1.out (⟨#[]⟩ : ByteArray) (k : Int) (by omega) (by omega)
        injection hA with hA
        subst hA
        have hgd : ls.getD k (⟨#[]⟩ : ByteArray) = ls[k] := by rw [List.getD_eq_getElem?_getD, List.getElem?_eq_getElem hlt]; rfl
        simp only [Int.toNat_natCast, hgd] at hKc hc
        obtain rfl : c = [.string ls[k]] := hKc
        have hx := hc 0 _ rfl
        replace hx : w1.cell? ⟨g, k, none⟩ = some (.string ls[k]) := by simpa [show (Kd.string).sz = 1 from rfl, add_plain] using hx
        have hy : wr.cell? ⟨g, k, none⟩ = some (.string ls[k]) := (World.cell?_of_block hg).trans hx
        have hpl := HALL.out _ (List.getElem_mem hlt)
        have htk : ls.take (k + 1) = ls.take k ++ [ls[k]] := List.take_succ_eq_append_getElem hlt
        have htl : (ls.take k).length = k := by rw [List.length_take]; omega
        unfold plainPart at hpl
        simp only [Bool.and_eq_true, Bool.not_eq_true'] at hpl
        obtain ⟨p1, p2⟩ := hpl
        have HTK := Aside0.mk htk
        have HTL := Aside0.mk htl
        have HR := Aside0.mk hR
        have HBW := Aside0.mk hbw
        have HG := Aside0.mk hg
        clear htk htl hR hbw hg hc hx hgd
        generalize ls[k] = p at *
        go_wp2_with (first | ((with_reducible refine gate_builtin (b := .append) (xs := #[.tmp 18, .tmp 20]) rfl ?_); at_builtin; refine Kd.R_append Kd.string (w0 := w) w.heap.size rfl (.tmp 18) (.tmp 20) 73 9 (.string ⟨#[]⟩) 16 rfl Tryd.underlying73 info9 rfl (by decide) (by omega) (.slice A3 k c3) (ls.take k) p [.string p] (fun b => b ≠ g) (fun _ => False) rfl rfl ?aP (fun _ hk => hk.elim) ?aF ?aO ?aB ?aS ?aL ?_; (case aP => exact rfl); (case aB => exact HBW.out); (case aF => exact (fun b hb => by omega)); (case aO => exact HR.out); (case aS => exact HBW.out.size); (case aL => rw [HTL.out]; omega); intro v1 w2 ho1 hb1 hg1 hat1; obtain ⟨A1, c1, hv1⟩ := Kd.R_slice ho1; rw [List.length_append, HTL.out, List.length_singleton] at hv1; subst hv1; have hgg := hg1.block g hgl (fun e => HR.out.1 g e.symm rfl); have HO1 := Aside0.mk ho1; have HB2 := Aside0.mk hb1; have HGG := Aside0.mk (hgg.trans HG.out); have HSZ := Aside0.mk (Nat.lt_of_lt_of_le hgl hg1.size); clear ho1 hb1 hg1 hat1 hgg))
        go_roundw
        case rel => exact ⟨k + 1, by omega, by go_num, ⟨_, _, rfl⟩, by rw [HTK.out]; exact HO1.out, HB2.out, HGG.out, HSZ.out⟩
        case measure => simp [intOf]; omega
      · obtain rfl : k = ls.length := by omega
        rw [List.take_length] at hR
        obtain ⟨_, _, hC⟩ := Kd.R_reads' hR
        have HC := Aside0.mk hC
        have HR := Aside0.mk hR
        have HBW := Aside0.mk hbw
        have hlc := (Kd.R_reads' hR).2.1
        clear hC hR hbw hg
        go_wp2_with (first | (go_at_call 48; refine (HJ.out _ _ _ HC.out hlc).mono ?_; rintro e w2 ⟨rfl, hb2⟩; have HB2 := Aside0.mk hb2; clear hb2))
        rw [Exit.noGoto_ret]
        go_ret
        exact ⟨rfl, HBW.out.trans (HB2.out.mono HBW.out.size)⟩
  · cases h


/-! ### urlp_web: function 27 -/
theorem fill9 {W : World} {b : Nat} {t : TypeId} {o0 o1 o2 o3 o4 o5 o6 o7 o8 : Value} (v0 v1 v2 v3 v4 v5 v6 v7 v8 : Value) (h : W.heap[b]? = some (.cells #[o0, o1, o2, o3, o4, o5, o6, o7, o8] t (0, 0))) : (((((((((W.setCell ⟨b, 0, none⟩ v0).setCell ⟨b, 1, none⟩ v1).setCell ⟨b, 2, none⟩ v2).setCell ⟨b, 3, none⟩ v3).setCell ⟨b, 4, none⟩ v4).setCell ⟨b, 5, none⟩ v5).setCell ⟨b, 6, none⟩ v6).setCell ⟨b, 7, none⟩ v7).setCell ⟨b, 8, none⟩ v8).heap[b]? = some (.cells #[v0, v1, v2, v3, v4, v5, v6, v7, v8] t (0, 0)) := by
  have h0 : (W.setCell ⟨b, 0, none⟩ v0).heap[b]? = some (.cells #[v0, o1, o2, o3, o4, o5, o6, o7, o8] t (0, 0)) := blk_set h 0 v0
  have h1 : ((W.setCell ⟨b, 0, none⟩ v0).setCell ⟨b, 1, none⟩ v1).heap[b]? = some (.cells #[v0, v1, o2, o3, o4, o5, o6, o7, o8] t (0, 0)) := blk_set h0 1 v1
  have h2 : (((W.setCell ⟨b, 0, none⟩ v0).setCell ⟨b, 1, none⟩ v1).setCell ⟨b, 2, none⟩ v2).heap[b]? = some (.cells #[v0, v1, v2, o3, o4, o5, o6, o7, o8] t (0, 0)) := blk_set h1 2 v2
  have h3 : ((((W.setCell ⟨b, 0, none⟩ v0).setCell ⟨b, 1, none⟩ v1).setCell ⟨b, 2, none⟩ v2).setCell ⟨b, 3, none⟩ v3).heap[b]? = some (.cells #[v0, v1, v2, v3, o4, o5, o6, o7, o8] t (0, 0)) := blk_set h2 3 v3
  have h4 : (((((W.setCell ⟨b, 0, none⟩ v0).setCell ⟨b, 1, none⟩ v1).setCell ⟨b, 2, none⟩ v2).setCell ⟨b, 3, none⟩ v3).setCell ⟨b, 4, none⟩ v4).heap[b]? = some (.cells #[v0, v1, v2, v3, v4, o5, o6, o7, o8] t (0, 0)) := blk_set h3 4 v4
  have h5 : ((((((W.setCell ⟨b, 0, none⟩ v0).setCell ⟨b, 1, none⟩ v1).setCell ⟨b, 2, none⟩ v2).setCell ⟨b, 3, none⟩ v3).setCell ⟨b, 4, none⟩ v4).setCell ⟨b, 5, none⟩ v5).heap[b]? = some (.cells #[v0, v1, v2, v3, v4, v5, o6, o7, o8] t (0, 0)) := blk_set h4 5 v5
  have h6 : (((((((W.setCell ⟨b, 0, none⟩ v0).setCell ⟨b, 1, none⟩ v1).setCell ⟨b, 2, none⟩ v2).setCell ⟨b, 3, none⟩ v3).setCell ⟨b, 4, none⟩ v4).setCell ⟨b, 5, none⟩ v5).setCell ⟨b, 6, none⟩ v6).heap[b]? = some (.cells #[v0, v1, v2, v3, v4, v5, v6, o7, o8] t (0, 0)) := blk_set h5 6 v6
  have h7 : ((((((((W.setCell ⟨b, 0, none⟩ v0).setCell ⟨b, 1, none⟩ v1).setCell ⟨b, 2, none⟩ v2).setCell ⟨b, 3, none⟩ v3).setCell ⟨b, 4, none⟩ v4).setCell ⟨b, 5, none⟩ v5).setCell ⟨b, 6, none⟩ v6).setCell ⟨b, 7, none⟩ v7).heap[b]? = some (.cells #[v0, v1, v2, v3, v4, v5, v6, v7, o8] t (0, 0)) := blk_set h6 7 v7
  have h8 : (((((((((W.setCell ⟨b, 0, none⟩ v0).setCell ⟨b, 1, none⟩ v1).setCell ⟨b, 2, none⟩ v2).setCell ⟨b, 3, none⟩ v3).setCell ⟨b, 4, none⟩ v4).setCell ⟨b, 5, none⟩ v5).setCell ⟨b, 6, none⟩ v6).setCell ⟨b, 7, none⟩ v7).setCell ⟨b, 8, none⟩ v8).heap[b]? = some (.cells #[v0, v1, v2, v3, v4, v5, v6, v7, v8] t (0, 0)) := blk_set h7 8 v8
  exact h8
set_option maxHeartbeats 4000000 in
set_option maxRecDepth 100000 in
/-- A URL of the net without a port of its own. -/
theorem web_ok (a0_0 : ByteArray) (a0_1 : ByteArray) (a0_2 : Bool) (a0_3 : Int) (a0_4 : Int) (a0_5 : ByteArray) (a0_6 : Bool) (a0_7 : ByteArray) (a0_8 : ByteArray) (rest : ByteArray) (own : Int) (w : World) (rest1 : ByteArray) (m : Nat) (nm : ByteArray) (b4 : Bool) (hn : ByteArray) (hv : Bool) (ha : Int) (path query : ByteArray) (has : Bool) (p : ByteArray) (i3 : Int)
    (h1 : strings_CutPrefix.f rest ⟨#[47, 47]⟩ = some (rest1, true)) (hm : m < rest1.size) (hz : rest1.size ≤ 281474976710656) (hb : ∀ i : Nat, i < m → (bt rest1 i == 47) = false ∧ (bt rest1 i == 63) = false) (he : (bt rest1 m == 47) = true)
    (h3 : strings_IndexByte.f (rest1.extract 0 m) 64 = some i3) (h3n : i3 < 0) (h4 : strings_Cut.f (rest1.extract 0 m) ⟨#[58]⟩ = some (nm, ⟨#[]⟩, b4)) (h5 : host_Parse.f nm = some (hn, hv, ha, 0))
    (h6 : strings_Cut.f (rest1.extract m rest1.size) ⟨#[63]⟩ = some (path, query, has)) (h7 : urlp_clean.f path = some p) :
    Calls Tryd.prog 27 #[.agg #[.string a0_0, .string a0_1, .bool a0_2, .int .u32 a0_3, .int .i64 a0_4, .string a0_5, .bool a0_6, .string a0_7, .string a0_8], .string rest, .int .i64 own] w fun e w' => e = .returned (.tuple #[.agg #[.string a0_0, .string hn, .bool hv, .int .u32 ha, .int .i64 a0_4, .string p, .bool has, .string query, .string a0_8], .int .i64 0]) ∧ Below w.heap.size w w' := by
  have H1 := Aside0.mk (fun W => strings_CutPrefix.calls rest ⟨#[47, 47]⟩ rest1 true W h1)
  have H3 := Aside0.mk (fun W => strings_IndexByte.calls (rest1.extract 0 m) 64 i3 W h3)
  have H4 := Aside0.mk (fun W => strings_Cut.calls (rest1.extract 0 m) ⟨#[58]⟩ nm ⟨#[]⟩ b4 W h4)
  have H5 := Aside0.mk (fun W => host_Parse.calls nm hn hv ha 0 W h5)
  have H6 := Aside0.mk (fun W => strings_Cut.calls (rest1.extract m rest1.size) ⟨#[63]⟩ path query has W h6)
  have H7 := Aside0.mk (fun W => urlp_clean.calls path p W h7)
  have HBT := Aside0.mk hb
  have HE := Aside0.mk he
  clear h1 h3 h4 h5 h6 h7 hb he
  have n3 : decide (0 ≤ i3) = false := by simp; omega
  have n3b : ¬ 0 ≤ i3 := by omega
  have qu : ((w.alloc (.cells #[.string a0_0, .string a0_1, .bool a0_2, .int .u32 a0_3, .int .i64 a0_4, .string a0_5, .bool a0_6, .string a0_7, .string a0_8] 42)).alloc (.cells #[.string ⟨#[]⟩, .string ⟨#[]⟩, .bool false, .int .u32 0, .int .i64 0, .string ⟨#[]⟩, .bool false, .string ⟨#[]⟩, .string ⟨#[]⟩] 42)).heap[w.heap.size]? = some (.cells #[.string a0_0, .string a0_1, .bool a0_2, .int .u32 a0_3, .int .i64 a0_4, .string a0_5, .bool a0_6, .string a0_7, .string a0_8] 42 (0, 0)) := blk_alloc (blk_new w _) _
  have qr : ((w.alloc (.cells #[.string a0_0, .string a0_1, .bool a0_2, .int .u32 a0_3, .int .i64 a0_4, .string a0_5, .bool a0_6, .string a0_7, .string a0_8] 42)).alloc (.cells #[.string ⟨#[]⟩, .string ⟨#[]⟩, .bool false, .int .u32 0, .int .i64 0, .string ⟨#[]⟩, .bool false, .string ⟨#[]⟩, .string ⟨#[]⟩] 42)).heap[w.heap.size + 1]? = some (.cells #[.string ⟨#[]⟩, .string ⟨#[]⟩, .bool false, .int .u32 0, .int .i64 0, .string ⟨#[]⟩, .bool false, .string ⟨#[]⟩, .string ⟨#[]⟩] 42 (0, 0)) := by simpa using blk_new (w.alloc (.cells #[.string a0_0, .string a0_1, .bool a0_2, .int .u32 a0_3, .int .i64 a0_4, .string a0_5, .bool a0_6, .string a0_7, .string a0_8] 42)) (.cells #[.string ⟨#[]⟩, .string ⟨#[]⟩, .bool false, .int .u32 0, .int .i64 0, .string ⟨#[]⟩, .bool false, .string ⟨#[]⟩, .string ⟨#[]⟩] 42)
  have hB0 : Below w.heap.size w ((w.alloc (.cells #[.string a0_0, .string a0_1, .bool a0_2, .int .u32 a0_3, .int .i64 a0_4, .string a0_5, .bool a0_6, .string a0_7, .string a0_8] 42)).alloc (.cells #[.string ⟨#[]⟩, .string ⟨#[]⟩, .bool false, .int .u32 0, .int .i64 0, .string ⟨#[]⟩, .bool false, .string ⟨#[]⟩, .string ⟨#[]⟩] 42)) := below_alloc (below_alloc (Below.refl _ w) _) _
  have QU := Aside0.mk qu
  have QR := Aside0.mk qr
  have HB0 := Aside0.mk hB0
  clear qu qr hB0
  go_enter Tryd.func27, Tryd.ntmps27
  go_wp2_with (first | (go_at_call 34; refine (H1.out _).mono ?_; rintro e w1 ⟨rfl, ⟨m1, rfl⟩⟩))
  have hsW : ((w.alloc (.cells #[.string a0_0, .string a0_1, .bool a0_2, .int .u32 a0_3, .int .i64 a0_4, .string a0_5, .bool a0_6, .string a0_7, .string a0_8] 42)).alloc (.cells #[.string ⟨#[]⟩, .string ⟨#[]⟩, .bool false, .int .u32 0, .int .i64 0, .string ⟨#[]⟩, .bool false, .string ⟨#[]⟩, .string ⟨#[]⟩] 42)).heap.size = w.heap.size + 2 := by simp
  generalize (w.alloc (.cells #[.string a0_0, .string a0_1, .bool a0_2, .int .u32 a0_3, .int .i64 a0_4, .string a0_5, .bool a0_6, .string a0_7, .string a0_8] 42)).alloc (.cells #[.string ⟨#[]⟩, .string ⟨#[]⟩, .bool false, .int .u32 0, .int .i64 0, .string ⟨#[]⟩, .bool false, .string ⟨#[]⟩, .string ⟨#[]⟩] 42) = W0 at *
  go_loopw [9, 10, 30] (fun v9 v10 v30 wr => ∃ k : Nat, k ≤ m ∧ v30 = .int .i64 k ∧ v9 = .string rest1 ∧ v10 = .string ⟨#[]⟩ ∧ wr = W0.drewN m1) (fun _ _ v30 _ => m - (intOf v30).toNat)
  case atStart => exact ⟨0, Nat.zero_le _, rfl, rfl, rfl, by first | rfl | trivial⟩
  case round =>
    obtain ⟨k, hk, rfl, rfl, rfl, rfl⟩ := hrel
    have hlt : k < rest1.size := by omega
    have hx : ∀ h : k < rest1.size, ((rest1[k]'h).toNat : Int) = bt rest1 k := fun h => by have := bt_at rest1 k (by simpa using h); simpa using this
    by_cases hkm : k < m
    · obtain ⟨b1, b2⟩ := HBT.out k hkm
      generalize bt rest1 k = c at *
      go_wp2
      go_roundw
      case rel => exact ⟨k + 1, by omega, by go_num, rfl, rfl, by first | rfl | trivial⟩
      case measure => simp [intOf]; omega
    · obtain rfl : k = m := by omega
      have b1 := HE.out
      generalize bt rest1 k = c at *
      go_wp2
      go_quiet (fail)
      go_wp2_with (first | (go_at_call 33; refine (H3.out _).mono ?_; rintro e w1 ⟨rfl, ⟨m2, rfl⟩⟩) | (go_at_call 23; refine (H4.out _).mono ?_; rintro e w1 ⟨rfl, ⟨m3, rfl⟩⟩))
      refine (H5.out _).mono ?_
      rintro e w3 ⟨rfl, hb3⟩
      have hq3 : Below W0.heap.size W0 w3 := (pw_below_drewN (Below.refl _ W0) _).trans hb3
      have qu3 := blk_below QU.out hq3
      have qr3 := blk_below QR.out hq3

      have hs3 : w.heap.size + 1 < w3.heap.size := by have := hq3.size; omega
      have ne1 : ¬ w.heap.size = w3.heap.size := by omega
      have ne2 : ¬ w.heap.size + 1 = w3.heap.size := by omega
      have ne3 : ¬ w3.heap.size = w.heap.size := by omega
      have ne4 : ¬ w3.heap.size = w.heap.size + 1 := by omega
      have qu4 := blk_alloc qu3 (.cells #[.string hn, .bool hv, .int .u32 ha] 26)
      have qr4 := blk_alloc qr3 (.cells #[.string hn, .bool hv, .int .u32 ha] 26)
      have ku0 : (w3.alloc (.cells #[.string hn, .bool hv, .int .u32 ha] 26)).cell? ⟨w.heap.size, 0, none⟩ = some (.string a0_0) := (blk_cell qu4 0).trans rfl
      have fu0 := blk_frozen qu4 0
      have kr0 : (w3.alloc (.cells #[.string hn, .bool hv, .int .u32 ha] 26)).cell? ⟨w.heap.size + 1, 0, none⟩ = some (.string ⟨#[]⟩) := (blk_cell qr4 0).trans rfl
      have fr0 := blk_frozen qr4 0
      have ku1 : (w3.alloc (.cells #[.string hn, .bool hv, .int .u32 ha] 26)).cell? ⟨w.heap.size, 1, none⟩ = some (.string a0_1) := (blk_cell qu4 1).trans rfl
      have fu1 := blk_frozen qu4 1
      have kr1 : (w3.alloc (.cells #[.string hn, .bool hv, .int .u32 ha] 26)).cell? ⟨w.heap.size + 1, 1, none⟩ = some (.string ⟨#[]⟩) := (blk_cell qr4 1).trans rfl
      have fr1 := blk_frozen qr4 1
      have ku2 : (w3.alloc (.cells #[.string hn, .bool hv, .int .u32 ha] 26)).cell? ⟨w.heap.size, 2, none⟩ = some (.bool a0_2) := (blk_cell qu4 2).trans rfl
      have fu2 := blk_frozen qu4 2
      have kr2 : (w3.alloc (.cells #[.string hn, .bool hv, .int .u32 ha] 26)).cell? ⟨w.heap.size + 1, 2, none⟩ = some (.bool false) := (blk_cell qr4 2).trans rfl
      have fr2 := blk_frozen qr4 2
      have ku3 : (w3.alloc (.cells #[.string hn, .bool hv, .int .u32 ha] 26)).cell? ⟨w.heap.size, 3, none⟩ = some (.int .u32 a0_3) := (blk_cell qu4 3).trans rfl
      have fu3 := blk_frozen qu4 3
      have kr3 : (w3.alloc (.cells #[.string hn, .bool hv, .int .u32 ha] 26)).cell? ⟨w.heap.size + 1, 3, none⟩ = some (.int .u32 0) := (blk_cell qr4 3).trans rfl
      have fr3 := blk_frozen qr4 3
      have ku4 : (w3.alloc (.cells #[.string hn, .bool hv, .int .u32 ha] 26)).cell? ⟨w.heap.size, 4, none⟩ = some (.int .i64 a0_4) := (blk_cell qu4 4).trans rfl
      have fu4 := blk_frozen qu4 4
      have kr4 : (w3.alloc (.cells #[.string hn, .bool hv, .int .u32 ha] 26)).cell? ⟨w.heap.size + 1, 4, none⟩ = some (.int .i64 0) := (blk_cell qr4 4).trans rfl
      have fr4 := blk_frozen qr4 4
      have ku5 : (w3.alloc (.cells #[.string hn, .bool hv, .int .u32 ha] 26)).cell? ⟨w.heap.size, 5, none⟩ = some (.string a0_5) := (blk_cell qu4 5).trans rfl
      have fu5 := blk_frozen qu4 5
      have kr5 : (w3.alloc (.cells #[.string hn, .bool hv, .int .u32 ha] 26)).cell? ⟨w.heap.size + 1, 5, none⟩ = some (.string ⟨#[]⟩) := (blk_cell qr4 5).trans rfl
      have fr5 := blk_frozen qr4 5
      have ku6 : (w3.alloc (.cells #[.string hn, .bool hv, .int .u32 ha] 26)).cell? ⟨w.heap.size, 6, none⟩ = some (.bool a0_6) := (blk_cell qu4 6).trans rfl
      have fu6 := blk_frozen qu4 6
      have kr6 : (w3.alloc (.cells #[.string hn, .bool hv, .int .u32 ha] 26)).cell? ⟨w.heap.size + 1, 6, none⟩ = some (.bool false) := (blk_cell qr4 6).trans rfl
      have fr6 := blk_frozen qr4 6
      have ku7 : (w3.alloc (.cells #[.string hn, .bool hv, .int .u32 ha] 26)).cell? ⟨w.heap.size, 7, none⟩ = some (.string a0_7) := (blk_cell qu4 7).trans rfl
      have fu7 := blk_frozen qu4 7
      have kr7 : (w3.alloc (.cells #[.string hn, .bool hv, .int .u32 ha] 26)).cell? ⟨w.heap.size + 1, 7, none⟩ = some (.string ⟨#[]⟩) := (blk_cell qr4 7).trans rfl
      have fr7 := blk_frozen qr4 7
      have ku8 : (w3.alloc (.cells #[.string hn, .bool hv, .int .u32 ha] 26)).cell? ⟨w.heap.size, 8, none⟩ = some (.string a0_8) := (blk_cell qu4 8).trans rfl
      have fu8 := blk_frozen qu4 8
      have kr8 : (w3.alloc (.cells #[.string hn, .bool hv, .int .u32 ha] 26)).cell? ⟨w.heap.size + 1, 8, none⟩ = some (.string ⟨#[]⟩) := (blk_cell qr4 8).trans rfl
      have fr8 := blk_frozen qr4 8
      clear qu4 qr4
      have QU3 := Aside0.mk qu3
      have QR3 := Aside0.mk qr3
      have HQ3 := Aside0.mk hq3
      clear qu3 qr3 hq3 hb3 QU QR H1 H3 H4 H5 HBT HE b1 hx
      go_wp2_with (first | (go_at_call 23; refine (H6.out _).mono ?_; rintro e w1 ⟨rfl, ⟨m4, rfl⟩⟩))
      refine (H7.out _).mono ?_
      rintro e w5 ⟨rfl, hb5⟩
      replace hb5 := (pw_below_drewN (Below.refl _ ((((w3.alloc (.cells #[.string hn, .bool hv, .int .u32 ha] 26)).setCell ⟨w.heap.size, 1, none⟩ (.string hn)).setCell ⟨w.heap.size, 2, none⟩ (.bool hv)).setCell ⟨w.heap.size, 3, none⟩ (.int .u32 ha))) m4).trans hb5
      have qu5 : w5.heap[w.heap.size]? = some (.cells #[.string a0_0, .string hn, .bool hv, .int .u32 ha, .int .i64 a0_4, .string a0_5, .bool a0_6, .string a0_7, .string a0_8] 42 (0, 0)) := blk_below (blk_set (blk_set (blk_set (blk_alloc QU3.out _) 1 (.string hn)) 2 (.bool hv)) 3 (.int .u32 ha)) hb5
      have qr5 : w5.heap[w.heap.size + 1]? = some (.cells #[.string ⟨#[]⟩, .string ⟨#[]⟩, .bool false, .int .u32 0, .int .i64 0, .string ⟨#[]⟩, .bool false, .string ⟨#[]⟩, .string ⟨#[]⟩] 42 (0, 0)) := blk_below (blk_far (blk_far (blk_far (blk_alloc QR3.out _) (by show w.heap.size + 1 ≠ w.heap.size; omega) _) (by show w.heap.size + 1 ≠ w.heap.size; omega) _) (by show w.heap.size + 1 ≠ w.heap.size; omega) _) hb5
      have hbw : Below w.heap.size w w3 := HB0.out.trans (HQ3.out.mono (by omega))
      have hb6 : Below w.heap.size w w5 := ((((hbw.alloc (by omega) (.cells #[.string hn, .bool hv, .int .u32 ha] 26)).setCell (p := ⟨w.heap.size, 1, none⟩) (Nat.le_refl _) (.string hn)).setCell (p := ⟨w.heap.size, 2, none⟩) (Nat.le_refl _) (.bool hv)).setCell (p := ⟨w.heap.size, 3, none⟩) (Nat.le_refl _) (.int .u32 ha)).trans (hb5.mono (by simp; omega))
      have HB6 := Aside0.mk hb6
      have QR5 := Aside0.mk qr5
      have ku0b : w5.cell? ⟨w.heap.size, 0, none⟩ = some (.string a0_0) := (blk_cell qu5 0).trans rfl
      have fu0b := blk_frozen qu5 0
      have kr0b : w5.cell? ⟨w.heap.size + 1, 0, none⟩ = some (.string ⟨#[]⟩) := (blk_cell qr5 0).trans rfl
      have fr0b := blk_frozen qr5 0
      have ku1b : w5.cell? ⟨w.heap.size, 1, none⟩ = some (.string hn) := (blk_cell qu5 1).trans rfl
      have fu1b := blk_frozen qu5 1
      have kr1b : w5.cell? ⟨w.heap.size + 1, 1, none⟩ = some (.string ⟨#[]⟩) := (blk_cell qr5 1).trans rfl
      have fr1b := blk_frozen qr5 1
      have ku2b : w5.cell? ⟨w.heap.size, 2, none⟩ = some (.bool hv) := (blk_cell qu5 2).trans rfl
      have fu2b := blk_frozen qu5 2
      have kr2b : w5.cell? ⟨w.heap.size + 1, 2, none⟩ = some (.bool false) := (blk_cell qr5 2).trans rfl
      have fr2b := blk_frozen qr5 2
      have ku3b : w5.cell? ⟨w.heap.size, 3, none⟩ = some (.int .u32 ha) := (blk_cell qu5 3).trans rfl
      have fu3b := blk_frozen qu5 3
      have kr3b : w5.cell? ⟨w.heap.size + 1, 3, none⟩ = some (.int .u32 0) := (blk_cell qr5 3).trans rfl
      have fr3b := blk_frozen qr5 3
      have ku4b : w5.cell? ⟨w.heap.size, 4, none⟩ = some (.int .i64 a0_4) := (blk_cell qu5 4).trans rfl
      have fu4b := blk_frozen qu5 4
      have kr4b : w5.cell? ⟨w.heap.size + 1, 4, none⟩ = some (.int .i64 0) := (blk_cell qr5 4).trans rfl
      have fr4b := blk_frozen qr5 4
      have ku5b : w5.cell? ⟨w.heap.size, 5, none⟩ = some (.string a0_5) := (blk_cell qu5 5).trans rfl
      have fu5b := blk_frozen qu5 5
      have kr5b : w5.cell? ⟨w.heap.size + 1, 5, none⟩ = some (.string ⟨#[]⟩) := (blk_cell qr5 5).trans rfl
      have fr5b := blk_frozen qr5 5
      have ku6b : w5.cell? ⟨w.heap.size, 6, none⟩ = some (.bool a0_6) := (blk_cell qu5 6).trans rfl
      have fu6b := blk_frozen qu5 6
      have kr6b : w5.cell? ⟨w.heap.size + 1, 6, none⟩ = some (.bool false) := (blk_cell qr5 6).trans rfl
      have fr6b := blk_frozen qr5 6
      have ku7b : w5.cell? ⟨w.heap.size, 7, none⟩ = some (.string a0_7) := (blk_cell qu5 7).trans rfl
      have fu7b := blk_frozen qu5 7
      have kr7b : w5.cell? ⟨w.heap.size + 1, 7, none⟩ = some (.string ⟨#[]⟩) := (blk_cell qr5 7).trans rfl
      have fr7b := blk_frozen qr5 7
      have ku8b : w5.cell? ⟨w.heap.size, 8, none⟩ = some (.string a0_8) := (blk_cell qu5 8).trans rfl
      have fu8b := blk_frozen qu5 8
      have kr8b : w5.cell? ⟨w.heap.size + 1, 8, none⟩ = some (.string ⟨#[]⟩) := (blk_cell qr5 8).trans rfl
      have fr8b := blk_frozen qr5 8
      clear ku0 fu0 kr0 fr0 ku1 fu1 kr1 fr1 ku2 fu2 kr2 fr2 ku3 fu3 kr3 fr3 ku4 fu4 kr4 fr4 ku5 fu5 kr5 fr5 ku6 fu6 kr6 fr6 ku7 fu7 kr7 fr7 ku8 fu8 kr8 fr8 qu5 qr5 hb5 hb6 hbw ne1 ne2 ne3 ne4 hs3 QU3 QR3 HQ3
      go_wp2
      have q6 : ((((((((((((w5.setCell ⟨w.heap.size, 5, none⟩ (.string p)).setCell ⟨w.heap.size, 7, none⟩ (.string query)).setCell ⟨w.heap.size, 6, none⟩ (.bool has)).setCell ⟨w.heap.size + 1, 0, none⟩ (.string a0_0)).setCell ⟨w.heap.size + 1, 1, none⟩ (.string hn)).setCell ⟨w.heap.size + 1, 2, none⟩ (.bool hv)).setCell ⟨w.heap.size + 1, 3, none⟩ (.int .u32 ha)).setCell ⟨w.heap.size + 1, 4, none⟩ (.int .i64 a0_4)).setCell ⟨w.heap.size + 1, 5, none⟩ (.string p)).setCell ⟨w.heap.size + 1, 6, none⟩ (.bool has)).setCell ⟨w.heap.size + 1, 7, none⟩ (.string query)).setCell ⟨w.heap.size + 1, 8, none⟩ (.string a0_8)).heap[w.heap.size + 1]? = some (.cells #[.string a0_0, .string hn, .bool hv, .int .u32 ha, .int .i64 a0_4, .string p, .bool has, .string query, .string a0_8] 42 (0, 0)) := fill9 (.string a0_0) (.string hn) (.bool hv) (.int .u32 ha) (.int .i64 a0_4) (.string p) (.bool has) (.string query) (.string a0_8) (blk_far (blk_far (blk_far QR5.out (by show w.heap.size + 1 ≠ w.heap.size; omega) (.string p)) (by show w.heap.size + 1 ≠ w.heap.size; omega) (.string query)) (by show w.heap.size + 1 ≠ w.heap.size; omega) (.bool has))
      have hb7 : Below w.heap.size w ((((((((((((w5.setCell ⟨w.heap.size, 5, none⟩ (.string p)).setCell ⟨w.heap.size, 7, none⟩ (.string query)).setCell ⟨w.heap.size, 6, none⟩ (.bool has)).setCell ⟨w.heap.size + 1, 0, none⟩ (.string a0_0)).setCell ⟨w.heap.size + 1, 1, none⟩ (.string hn)).setCell ⟨w.heap.size + 1, 2, none⟩ (.bool hv)).setCell ⟨w.heap.size + 1, 3, none⟩ (.int .u32 ha)).setCell ⟨w.heap.size + 1, 4, none⟩ (.int .i64 a0_4)).setCell ⟨w.heap.size + 1, 5, none⟩ (.string p)).setCell ⟨w.heap.size + 1, 6, none⟩ (.bool has)).setCell ⟨w.heap.size + 1, 7, none⟩ (.string query)).setCell ⟨w.heap.size + 1, 8, none⟩ (.string a0_8)) := ((((((((((((HB6.out.setCell (p := ⟨w.heap.size, 5, none⟩) (Nat.le_refl _) (.string p)).setCell (p := ⟨w.heap.size, 7, none⟩) (Nat.le_refl _) (.string query)).setCell (p := ⟨w.heap.size, 6, none⟩) (Nat.le_refl _) (.bool has)).setCell (p := ⟨w.heap.size + 1, 0, none⟩) (by show w.heap.size ≤ w.heap.size + 1; omega) (.string a0_0)).setCell (p := ⟨w.heap.size + 1, 1, none⟩) (by show w.heap.size ≤ w.heap.size + 1; omega) (.string hn)).setCell (p := ⟨w.heap.size + 1, 2, none⟩) (by show w.heap.size ≤ w.heap.size + 1; omega) (.bool hv)).setCell (p := ⟨w.heap.size + 1, 3, none⟩) (by show w.heap.size ≤ w.heap.size + 1; omega) (.int .u32 ha)).setCell (p := ⟨w.heap.size + 1, 4, none⟩) (by show w.heap.size ≤ w.heap.size + 1; omega) (.int .i64 a0_4)).setCell (p := ⟨w.heap.size + 1, 5, none⟩) (by show w.heap.size ≤ w.heap.size + 1; omega) (.string p)).setCell (p := ⟨w.heap.size + 1, 6, none⟩) (by show w.heap.size ≤ w.heap.size + 1; omega) (.bool has)).setCell (p := ⟨w.heap.size + 1, 7, none⟩) (by show w.heap.size ≤ w.heap.size + 1; omega) (.string query)).setCell (p := ⟨w.heap.size + 1, 8, none⟩) (by show w.heap.size ≤ w.heap.size + 1; omega) (.string a0_8))
      generalize ((((((((((((w5.setCell ⟨w.heap.size, 5, none⟩ (.string p)).setCell ⟨w.heap.size, 7, none⟩ (.string query)).setCell ⟨w.heap.size, 6, none⟩ (.bool has)).setCell ⟨w.heap.size + 1, 0, none⟩ (.string a0_0)).setCell ⟨w.heap.size + 1, 1, none⟩ (.string hn)).setCell ⟨w.heap.size + 1, 2, none⟩ (.bool hv)).setCell ⟨w.heap.size + 1, 3, none⟩ (.int .u32 ha)).setCell ⟨w.heap.size + 1, 4, none⟩ (.int .i64 a0_4)).setCell ⟨w.heap.size + 1, 5, none⟩ (.string p)).setCell ⟨w.heap.size + 1, 6, none⟩ (.bool has)).setCell ⟨w.heap.size + 1, 7, none⟩ (.string query)).setCell ⟨w.heap.size + 1, 8, none⟩ (.string a0_8)) = W6 at *
      clear ku0b fu0b kr0b fr0b ku1b fu1b kr1b fr1b ku2b fu2b kr2b fr2b ku3b fu3b kr3b fr3b ku4b fu4b kr4b fr4b ku5b fu5b kr5b fr5b ku6b fu6b kr6b fr6b ku7b fu7b kr7b fr7b ku8b fu8b kr8b fr8b
      have kz0 : W6.cell? ⟨w.heap.size + 1, 0, none⟩ = some (.string a0_0) := (blk_cell q6 0).trans rfl
      have kz1 : W6.cell? ⟨w.heap.size + 1, 1, none⟩ = some (.string hn) := (blk_cell q6 1).trans rfl
      have kz2 : W6.cell? ⟨w.heap.size + 1, 2, none⟩ = some (.bool hv) := (blk_cell q6 2).trans rfl
      have kz3 : W6.cell? ⟨w.heap.size + 1, 3, none⟩ = some (.int .u32 ha) := (blk_cell q6 3).trans rfl
      have kz4 : W6.cell? ⟨w.heap.size + 1, 4, none⟩ = some (.int .i64 a0_4) := (blk_cell q6 4).trans rfl
      have kz5 : W6.cell? ⟨w.heap.size + 1, 5, none⟩ = some (.string p) := (blk_cell q6 5).trans rfl
      have kz6 : W6.cell? ⟨w.heap.size + 1, 6, none⟩ = some (.bool has) := (blk_cell q6 6).trans rfl
      have kz7 : W6.cell? ⟨w.heap.size + 1, 7, none⟩ = some (.string query) := (blk_cell q6 7).trans rfl
      have kz8 : W6.cell? ⟨w.heap.size + 1, 8, none⟩ = some (.string a0_8) := (blk_cell q6 8).trans rfl
      exact bodyPost_ret (v := .tuple #[.agg #[.string a0_0, .string hn, .bool hv, .int .u32 ha, .int .i64 a0_4, .string p, .bool has, .string query, .string a0_8], .int .i64 0]) (by simp [results, Tryd.results27, go_sem, kz0, kz1, kz2, kz3, kz4, kz5, kz6, kz7, kz8]) rfl ⟨rfl, hb7⟩


/-! ### urlp_Parse: function 21 -/
def httpsT : ByteArray := ⟨#[104, 116, 116, 112, 115]⟩
set_option maxHeartbeats 4000000 in
set_option maxRecDepth 100000 in
/-- A URL of https, as web reads what stands behind its scheme. -/
theorem parse_https (s first rest0 rest t2 : ByteArray) (b2 : Bool) (ks : Nat) (r0 : ByteArray) (r1 : ByteArray) (r2 : Bool) (r3 : Int) (r4 : Int) (r5 : ByteArray) (r6 : Bool) (r7 : ByteArray) (r8 : ByteArray) (w : World) (h0 : 0 < s.size) (hs : s.size ≤ 2000)
    (hA : decide (bt s 0 ≤ 32) = false) (hZ : decide (bt s (s.size - 1 : Nat) ≤ 32) = false) (hC : strings_Cut.f s ⟨#[58]⟩ = some (first, rest0, true)) (hL : octet_Lower.f first = some httpsT)
    (hS : urlp_scheme.f ks httpsT = some true) (hD : strings_Cut.f rest0 ⟨#[35]⟩ = some (rest, t2, b2)) (hz : rest.size ≤ 2000) (hR : ∀ i : Nat, i < rest.size → decide (bt rest i < 33) = false ∧ decide (126 < bt rest i) = false)
    (hW : ∀ W, Calls Tryd.prog 27 #[.agg #[.string httpsT, .string ⟨#[]⟩, .bool false, .int .u32 0, .int .i64 (-1), .string ⟨#[]⟩, .bool false, .string ⟨#[]⟩, .string ⟨#[]⟩], .string rest, .int .i64 443] W fun e w' => e = .returned (.tuple #[.agg #[.string r0, .string r1, .bool r2, .int .u32 r3, .int .i64 r4, .string r5, .bool r6, .string r7, .string r8], .int .i64 0]) ∧ Below W.heap.size W w') :
    Calls Tryd.prog 21 #[.string s] w fun e w' => e = .returned (.tuple #[.agg #[.string r0, .string r1, .bool r2, .int .u32 r3, .int .i64 r4, .string r5, .bool r6, .string r7, .string r8], .int .i64 0]) ∧ Below w.heap.size w w' := by
  have hne : s.toList.isEmpty = false := by
    rw [Lib.toList_data]
    cases hd : s.data.toList with
    | nil => exfalso; have := data_length s; rw [hd] at this; simp at this; omega
    | cons x xs => rfl
  have hne2 : ¬ s.toList = [] := by intro e; rw [e] at hne; cases hne
  have HC := Aside0.mk (fun W => strings_Cut.calls s ⟨#[58]⟩ first rest0 true W hC)
  have HL := Aside0.mk (fun W => octet_Lower.calls first httpsT W hL)
  have HS := Aside0.mk (fun W => urlp_scheme.calls ks httpsT true W hS)
  have HD := Aside0.mk (fun W => strings_Cut.calls rest0 ⟨#[35]⟩ rest t2 b2 W hD)
  have HW := Aside0.mk hW
  have HR := Aside0.mk hR
  clear hC hL hS hD hW hR
  have hx0 : ∀ h : 0 < s.size, ((s[0]'h).toNat : Int) = bt s 0 := fun h => by have := bt_at s 0 (by simpa using h); simpa using this
  have hxz : ∀ h : s.size - 1 < s.size, ((s[s.size - 1]'h).toNat : Int) = bt s (s.size - 1 : Nat) := fun h => by have := bt_at s (s.size - 1 : Nat) (by simpa using h); simpa using this
  generalize bt s 0 = c0 at *
  generalize bt s (s.size - 1 : Nat) = cz at *
  have q0 : (w.alloc (.cells #[.string ⟨#[]⟩, .string ⟨#[]⟩, .bool false, .int .u32 0, .int .i64 0, .string ⟨#[]⟩, .bool false, .string ⟨#[]⟩, .string ⟨#[]⟩] 42)).heap[w.heap.size]? = some (.cells #[.string ⟨#[]⟩, .string ⟨#[]⟩, .bool false, .int .u32 0, .int .i64 0, .string ⟨#[]⟩, .bool false, .string ⟨#[]⟩, .string ⟨#[]⟩] 42 (0, 0)) := blk_new _ _
  have Q0 := Aside0.mk q0
  have HB0 := Aside0.mk (below_alloc (Below.refl w.heap.size w) (.cells #[.string ⟨#[]⟩, .string ⟨#[]⟩, .bool false, .int .u32 0, .int .i64 0, .string ⟨#[]⟩, .bool false, .string ⟨#[]⟩, .string ⟨#[]⟩] 42))
  clear q0
  go_enter Tryd.func21, Tryd.ntmps21
  go_wp2
  have hsW : (w.alloc (.cells #[.string ⟨#[]⟩, .string ⟨#[]⟩, .bool false, .int .u32 0, .int .i64 0, .string ⟨#[]⟩, .bool false, .string ⟨#[]⟩, .string ⟨#[]⟩] 42)).heap.size = w.heap.size + 1 := by simp
  generalize w.alloc (.cells #[.string ⟨#[]⟩, .string ⟨#[]⟩, .bool false, .int .u32 0, .int .i64 0, .string ⟨#[]⟩, .bool false, .string ⟨#[]⟩, .string ⟨#[]⟩] 42) = W0 at *
  go_loopw [0] (fun v0 wr => v0 = .string s ∧ W0 = wr) (fun _ _ => 0)
  case atStart => exact ⟨rfl, by first | rfl | trivial⟩
  case round =>
    obtain ⟨rfl, rfl⟩ := hrel
    go_wp2
    go_loopw [0] (fun v0 wr => v0 = .string s ∧ W0 = wr) (fun _ _ => 0)
    case atStart => exact ⟨rfl, by first | rfl | trivial⟩
    case round =>
      obtain ⟨rfl, rfl⟩ := hrel
      go_wp2_with (first | (go_at_call 23; refine (HC.out _).mono ?_; rintro e w1 ⟨rfl, ⟨m1, rfl⟩⟩) | (go_at_call 24; refine (HL.out _).mono ?_; rintro e w2 ⟨rfl, hb2⟩; have HB2 := Aside0.mk hb2; clear hb2))
      have hbw : Below w.heap.size w w2 := HB0.out.trans (((pw_below_drewN (Below.refl _ W0) m1).trans HB2.out).mono (by show w.heap.size ≤ W0.heap.size; omega))
      have hsz2 : w.heap.size < w2.heap.size := by have := HB2.out.size; simp at this; omega
      have hq0 := blk_alloc (blk_below Q0.out ((pw_below_drewN (Below.refl _ W0) m1).trans HB2.out)) (.cells #[.string httpsT, .string ⟨#[]⟩, .bool false, .int .u32 0, .int .i64 (-1), .string ⟨#[]⟩, .bool false, .string ⟨#[]⟩, .string ⟨#[]⟩] 42)
      have hq7 : (w2.alloc (.cells #[.string httpsT, .string ⟨#[]⟩, .bool false, .int .u32 0, .int .i64 (-1), .string ⟨#[]⟩, .bool false, .string ⟨#[]⟩, .string ⟨#[]⟩] 42)).heap[w2.heap.size]? = some (.cells #[.string httpsT, .string ⟨#[]⟩, .bool false, .int .u32 0, .int .i64 (-1), .string ⟨#[]⟩, .bool false, .string ⟨#[]⟩, .string ⟨#[]⟩] 42 (0, 0)) := blk_new _ _
      have hbw7 := hbw.alloc (Nat.le_of_lt hsz2) (.cells #[.string httpsT, .string ⟨#[]⟩, .bool false, .int .u32 0, .int .i64 (-1), .string ⟨#[]⟩, .bool false, .string ⟨#[]⟩, .string ⟨#[]⟩] 42)
      have hsz7 : w2.heap.size < (w2.alloc (.cells #[.string httpsT, .string ⟨#[]⟩, .bool false, .int .u32 0, .int .i64 (-1), .string ⟨#[]⟩, .bool false, .string ⟨#[]⟩, .string ⟨#[]⟩] 42)).heap.size := by simp
      clear HB2 HB0 Q0 HC HL hbw
      generalize w2.alloc (.cells #[.string httpsT, .string ⟨#[]⟩, .bool false, .int .u32 0, .int .i64 (-1), .string ⟨#[]⟩, .bool false, .string ⟨#[]⟩, .string ⟨#[]⟩] 42) = W2 at *
      generalize w2.heap.size = bu at *
      have kq : W2.cell? ⟨bu, 0, none⟩ = some (.string httpsT) := (blk_cell hq7 0).trans rfl
      have K := Aside0.mk (fun W (hb : Below W2.heap.size W2 W) => pw_cell_below hb kq)
      have e443 : valAt portsD httpsT = 443 := by kernel_rfl
      have ehas : Go.Maps.has portsD (keyP httpsT) = true := by kernel_rfl
      have HQ0 := Aside0.mk hq0
      have HQ7 := Aside0.mk hq7
      have HBW := Aside0.mk hbw7
      have E1 := Aside0.mk e443
      have E2 := Aside0.mk ehas
      clear hq0 hq7 hbw7 e443 ehas
      go_region_held3 (fun w' => w'.cell? ⟨bu, 0, none⟩ = some (.string httpsT)) (first | exact K.out _ (below_drew (Below.refl _ _)) | exact K.out _ (Below.refl _ _) | exact K.out _ (by assumption)) (first | (go_at_call 25; ((with_reducible refine (ports_map _).mono ?_); rintro e w3 ⟨rfl, hown, hb3⟩; have hrun : (Instr.lookup 51 (.map (some W2.heap.size)) (.string httpsT) true).run Tryd.prog w3 = .ok (.tuple #[.int .i64 443, .bool true]) w3 := (by have z := (valAt_is hown httpsT (by decide)).1; rw [E1.out, E2.out] at z; exact z); have hb4 := below_then (below_drew (Below.refl W2.heap.size W2)) (Nat.le_refl _) hb3; clear hown hb3)))
      have q0 := blk_below HQ0.out hb4
      have q7 := blk_below HQ7.out hb4
      have kr0 : w3.cell? ⟨w.heap.size, 0, none⟩ = some (.string ⟨#[]⟩) := (blk_cell q0 0).trans rfl
      have fr0 := blk_frozen q0 0
      have kr1 : w3.cell? ⟨w.heap.size, 1, none⟩ = some (.string ⟨#[]⟩) := (blk_cell q0 1).trans rfl
      have fr1 := blk_frozen q0 1
      have kr2 : w3.cell? ⟨w.heap.size, 2, none⟩ = some (.bool false) := (blk_cell q0 2).trans rfl
      have fr2 := blk_frozen q0 2
      have kr3 : w3.cell? ⟨w.heap.size, 3, none⟩ = some (.int .u32 0) := (blk_cell q0 3).trans rfl
      have fr3 := blk_frozen q0 3
      have kr4 : w3.cell? ⟨w.heap.size, 4, none⟩ = some (.int .i64 0) := (blk_cell q0 4).trans rfl
      have fr4 := blk_frozen q0 4
      have kr5 : w3.cell? ⟨w.heap.size, 5, none⟩ = some (.string ⟨#[]⟩) := (blk_cell q0 5).trans rfl
      have fr5 := blk_frozen q0 5
      have kr6 : w3.cell? ⟨w.heap.size, 6, none⟩ = some (.bool false) := (blk_cell q0 6).trans rfl
      have fr6 := blk_frozen q0 6
      have kr7 : w3.cell? ⟨w.heap.size, 7, none⟩ = some (.string ⟨#[]⟩) := (blk_cell q0 7).trans rfl
      have fr7 := blk_frozen q0 7
      have kr8 : w3.cell? ⟨w.heap.size, 8, none⟩ = some (.string ⟨#[]⟩) := (blk_cell q0 8).trans rfl
      have fr8 := blk_frozen q0 8
      have ku0 : w3.cell? ⟨bu, 0, none⟩ = some (.string httpsT) := (blk_cell q7 0).trans rfl
      have fu0 := blk_frozen q7 0
      have ku1 : w3.cell? ⟨bu, 1, none⟩ = some (.string ⟨#[]⟩) := (blk_cell q7 1).trans rfl
      have fu1 := blk_frozen q7 1
      have ku2 : w3.cell? ⟨bu, 2, none⟩ = some (.bool false) := (blk_cell q7 2).trans rfl
      have fu2 := blk_frozen q7 2
      have ku3 : w3.cell? ⟨bu, 3, none⟩ = some (.int .u32 0) := (blk_cell q7 3).trans rfl
      have fu3 := blk_frozen q7 3
      have ku4 : w3.cell? ⟨bu, 4, none⟩ = some (.int .i64 (-1)) := (blk_cell q7 4).trans rfl
      have fu4 := blk_frozen q7 4
      have ku5 : w3.cell? ⟨bu, 5, none⟩ = some (.string ⟨#[]⟩) := (blk_cell q7 5).trans rfl
      have fu5 := blk_frozen q7 5
      have ku6 : w3.cell? ⟨bu, 6, none⟩ = some (.bool false) := (blk_cell q7 6).trans rfl
      have fu6 := blk_frozen q7 6
      have ku7 : w3.cell? ⟨bu, 7, none⟩ = some (.string ⟨#[]⟩) := (blk_cell q7 7).trans rfl
      have fu7 := blk_frozen q7 7
      have ku8 : w3.cell? ⟨bu, 8, none⟩ = some (.string ⟨#[]⟩) := (blk_cell q7 8).trans rfl
      have fu8 := blk_frozen q7 8
      have hb5 := HBW.out.trans (hb4.mono (Nat.le_of_lt (Nat.lt_trans hsz2 hsz7)))
      have hs5 : bu < w3.heap.size := Nat.lt_of_lt_of_le hsz7 hb4.size
      have Q0 := Aside0.mk q0
      have HB5 := Aside0.mk hb5
      have s1 : (httpsT.toList == ([104, 116, 116, 112] : List UInt8)) = false := by kernel_rfl
      have s2 : (httpsT.toList == ([104, 116, 116, 112, 115] : List UInt8)) = true := by kernel_rfl
      clear hrun hb4 hb5 q0 q7 HQ0 HQ7 HBW E1 E2 K kq hx0 hxz
      have n2000 : decide ((2000 : Int) < (s.size : Int)) = false := by simp; omega
      go_wp2_with (first | (go_at_call 26; refine (HS.out _).mono ?_; rintro e w1 ⟨rfl, ⟨m2, rfl⟩⟩) | (go_at_call 23; refine (HD.out _).mono ?_; rintro e w1 ⟨rfl, ⟨m3, rfl⟩⟩))
      go_loopw [80] (fun v80 wr => ∃ k : Nat, k ≤ rest.size ∧ v80 = .int .i64 k ∧ w3.drewN (m2 + m3) = wr) (fun v80 _ => rest.size - (intOf v80).toNat)
      case atStart => exact ⟨0, Nat.zero_le _, rfl, by first | rfl | trivial⟩
      case round =>
        obtain ⟨k, hk, rfl, rfl⟩ := hrel
        by_cases hlt : k < rest.size
        · have hx : ∀ h : k < rest.size, ((rest[k]'h).toNat : Int) = bt rest k := fun h => by have := bt_at rest k (by simpa using h); simpa using this
          obtain ⟨b1, b3⟩ := HR.out k hlt
          generalize bt rest k = c at *
          go_wp2
          go_roundw
          case rel => exact ⟨k + 1, by omega, by go_num, by first | rfl | trivial⟩
          case measure => simp [intOf]; omega
        · obtain rfl : k = rest.size := by omega
          go_wp2_with (first | (go_at_call 27; refine (HW.out _).mono ?_; rintro e w5 ⟨rfl, hb6⟩; replace hb6 := (pw_below_drewN (Below.refl _ w3) _).trans hb6; have q5 := blk_below Q0.out hb6; have kz0 : w5.cell? ⟨w.heap.size, 0, none⟩ = some (.string ⟨#[]⟩) := (blk_cell q5 0).trans rfl; have fz0 := blk_frozen q5 0; have kz1 : w5.cell? ⟨w.heap.size, 1, none⟩ = some (.string ⟨#[]⟩) := (blk_cell q5 1).trans rfl; have fz1 := blk_frozen q5 1; have kz2 : w5.cell? ⟨w.heap.size, 2, none⟩ = some (.bool false) := (blk_cell q5 2).trans rfl; have fz2 := blk_frozen q5 2; have kz3 : w5.cell? ⟨w.heap.size, 3, none⟩ = some (.int .u32 0) := (blk_cell q5 3).trans rfl; have fz3 := blk_frozen q5 3; have kz4 : w5.cell? ⟨w.heap.size, 4, none⟩ = some (.int .i64 0) := (blk_cell q5 4).trans rfl; have fz4 := blk_frozen q5 4; have kz5 : w5.cell? ⟨w.heap.size, 5, none⟩ = some (.string ⟨#[]⟩) := (blk_cell q5 5).trans rfl; have fz5 := blk_frozen q5 5; have kz6 : w5.cell? ⟨w.heap.size, 6, none⟩ = some (.bool false) := (blk_cell q5 6).trans rfl; have fz6 := blk_frozen q5 6; have kz7 : w5.cell? ⟨w.heap.size, 7, none⟩ = some (.string ⟨#[]⟩) := (blk_cell q5 7).trans rfl; have fz7 := blk_frozen q5 7; have kz8 : w5.cell? ⟨w.heap.size, 8, none⟩ = some (.string ⟨#[]⟩) := (blk_cell q5 8).trans rfl; have fz8 := blk_frozen q5 8; have Q5 := Aside0.mk q5; have HB6 := Aside0.mk hb6; clear q5 hb6 kr0 fr0 ku0 fu0 kr1 fr1 ku1 fu1 kr2 fr2 ku2 fu2 kr3 fr3 ku3 fu3 kr4 fr4 ku4 fu4 kr5 fr5 ku5 fu5 kr6 fr6 ku6 fu6 kr7 fr7 ku7 fu7 kr8 fr8 ku8 fu8))
          have q6 : (((((((((w5.setCell ⟨w.heap.size, 0, none⟩ (.string r0)).setCell ⟨w.heap.size, 1, none⟩ (.string r1)).setCell ⟨w.heap.size, 2, none⟩ (.bool r2)).setCell ⟨w.heap.size, 3, none⟩ (.int .u32 r3)).setCell ⟨w.heap.size, 4, none⟩ (.int .i64 r4)).setCell ⟨w.heap.size, 5, none⟩ (.string r5)).setCell ⟨w.heap.size, 6, none⟩ (.bool r6)).setCell ⟨w.heap.size, 7, none⟩ (.string r7)).setCell ⟨w.heap.size, 8, none⟩ (.string r8)).heap[w.heap.size]? = some (.cells #[.string r0, .string r1, .bool r2, .int .u32 r3, .int .i64 r4, .string r5, .bool r6, .string r7, .string r8] 42 (0, 0)) := fill9 (.string r0) (.string r1) (.bool r2) (.int .u32 r3) (.int .i64 r4) (.string r5) (.bool r6) (.string r7) (.string r8) Q5.out
          have hb7 : Below w.heap.size w (((((((((w5.setCell ⟨w.heap.size, 0, none⟩ (.string r0)).setCell ⟨w.heap.size, 1, none⟩ (.string r1)).setCell ⟨w.heap.size, 2, none⟩ (.bool r2)).setCell ⟨w.heap.size, 3, none⟩ (.int .u32 r3)).setCell ⟨w.heap.size, 4, none⟩ (.int .i64 r4)).setCell ⟨w.heap.size, 5, none⟩ (.string r5)).setCell ⟨w.heap.size, 6, none⟩ (.bool r6)).setCell ⟨w.heap.size, 7, none⟩ (.string r7)).setCell ⟨w.heap.size, 8, none⟩ (.string r8)) := ((((((((((HB5.out.trans (HB6.out.mono (Nat.le_of_lt (Nat.lt_trans hsz2 hs5)))).setCell (p := ⟨w.heap.size, 0, none⟩) (Nat.le_refl _) (.string r0)).setCell (p := ⟨w.heap.size, 1, none⟩) (Nat.le_refl _) (.string r1)).setCell (p := ⟨w.heap.size, 2, none⟩) (Nat.le_refl _) (.bool r2)).setCell (p := ⟨w.heap.size, 3, none⟩) (Nat.le_refl _) (.int .u32 r3)).setCell (p := ⟨w.heap.size, 4, none⟩) (Nat.le_refl _) (.int .i64 r4)).setCell (p := ⟨w.heap.size, 5, none⟩) (Nat.le_refl _) (.string r5)).setCell (p := ⟨w.heap.size, 6, none⟩) (Nat.le_refl _) (.bool r6)).setCell (p := ⟨w.heap.size, 7, none⟩) (Nat.le_refl _) (.string r7)).setCell (p := ⟨w.heap.size, 8, none⟩) (Nat.le_refl _) (.string r8))
          clear kz0 fz0 kz1 fz1 kz2 fz2 kz3 fz3 kz4 fz4 kz5 fz5 kz6 fz6 kz7 fz7 kz8 fz8
          generalize (((((((((w5.setCell ⟨w.heap.size, 0, none⟩ (.string r0)).setCell ⟨w.heap.size, 1, none⟩ (.string r1)).setCell ⟨w.heap.size, 2, none⟩ (.bool r2)).setCell ⟨w.heap.size, 3, none⟩ (.int .u32 r3)).setCell ⟨w.heap.size, 4, none⟩ (.int .i64 r4)).setCell ⟨w.heap.size, 5, none⟩ (.string r5)).setCell ⟨w.heap.size, 6, none⟩ (.bool r6)).setCell ⟨w.heap.size, 7, none⟩ (.string r7)).setCell ⟨w.heap.size, 8, none⟩ (.string r8)) = W6 at *
          have kk0 : W6.cell? ⟨w.heap.size, 0, none⟩ = some (.string r0) := (blk_cell q6 0).trans rfl
          have kk1 : W6.cell? ⟨w.heap.size, 1, none⟩ = some (.string r1) := (blk_cell q6 1).trans rfl
          have kk2 : W6.cell? ⟨w.heap.size, 2, none⟩ = some (.bool r2) := (blk_cell q6 2).trans rfl
          have kk3 : W6.cell? ⟨w.heap.size, 3, none⟩ = some (.int .u32 r3) := (blk_cell q6 3).trans rfl
          have kk4 : W6.cell? ⟨w.heap.size, 4, none⟩ = some (.int .i64 r4) := (blk_cell q6 4).trans rfl
          have kk5 : W6.cell? ⟨w.heap.size, 5, none⟩ = some (.string r5) := (blk_cell q6 5).trans rfl
          have kk6 : W6.cell? ⟨w.heap.size, 6, none⟩ = some (.bool r6) := (blk_cell q6 6).trans rfl
          have kk7 : W6.cell? ⟨w.heap.size, 7, none⟩ = some (.string r7) := (blk_cell q6 7).trans rfl
          have kk8 : W6.cell? ⟨w.heap.size, 8, none⟩ = some (.string r8) := (blk_cell q6 8).trans rfl
          exact bodyPost_ret (v := .tuple #[.agg #[.string r0, .string r1, .bool r2, .int .u32 r3, .int .i64 r4, .string r5, .bool r6, .string r7, .string r8], .int .i64 0]) (by simp [results, Tryd.results21, go_sem, kk0, kk1, kk2, kk3, kk4, kk5, kk6, kk7, kk8]) rfl ⟨rfl, hb7⟩


end Go.Proofs.YtabjpoapnbkljaaDoor.Q
