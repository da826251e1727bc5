-- Laid by this seat's own driver (wip/tools/drive.py) out of the translation.
import Derived.Test.YtkjlhhhnananlaaDoorQx0
namespace Go.Proofs.YtkjlhhhnananlaaDoor.Q
open Go.RowKit Go.Proofs.YtkjlhhhnananlaaDoorW.PrintWords Go.Proofs.YtkjlhhhnananlaaDoorW.PrintLast Go.Proofs.YtkjlhhhnananlaaDoorW.PrintMore
attribute [local go_sem] max2_int min2_int max_two min_two max_three min_three max_four min_four   -- for this text's walks alone
set_option linter.unusedVariables false
set_option linter.unusedSimpArgs false

/-! ### octet_cut: function 29 -/
/-- The parts that are shut after i bytes, and where the next one begins. -/
def cutSt (p : Int → Bool) (s : ByteArray) : Nat → List ByteArray × Nat
  | 0 => ([], 0)
  | i + 1 => if p (bt s i) = true then ((cutSt p s i).1 ++ [s.extract (cutSt p s i).2 i], i + 1) else cutSt p s i
theorem cutSt_le (p : Int → Bool) (s : ByteArray) (i : Nat) : (cutSt p s i).2 ≤ i := by
  induction i with
  | zero => exact Nat.le_refl _
  | succ i ih => unfold cutSt; split <;> (try simp) <;> omega
theorem cutSt_len (p : Int → Bool) (s : ByteArray) (i : Nat) : (cutSt p s i).1.length ≤ i := by
  induction i with
  | zero => exact Nat.le_refl _
  | succ i ih => unfold cutSt; split <;> (try simp) <;> omega
def keepPart (empty : Bool) (x : ByteArray) : Bool := empty || !x.toList.isEmpty
def keepParts (empty : Bool) (l : List ByteArray) : List ByteArray := l.filter (keepPart empty)
theorem keepParts_snoc (empty : Bool) (l : List ByteArray) (x : ByteArray) : keepParts empty (l ++ [x]) = keepParts empty l ++ (if keepPart empty x = true then [x] else []) := by
  unfold keepParts
  rw [List.filter_append]
  by_cases h : keepPart empty x = true <;> simp [h]
theorem keepParts_len (empty : Bool) (l : List ByteArray) : (keepParts empty l).length ≤ l.length := List.length_filter_le _ _
def cutOf (p : Int → Bool) (empty : Bool) (s : ByteArray) : List ByteArray := keepParts empty ((cutSt p s s.size).1 ++ [s.extract (cutSt p s s.size).2 s.size])
/-- What the gathering closure's variables are like: the box of 'empty', the box of 'out', and the row that 'out' holds. -/
structure CutAt (w W : World) (be bo : Nat) (empty : Bool) (xs : List ByteArray) : Prop where
  below : Below w.heap.size w W
  ge : w.heap.size ≤ bo
  ebox : W.heap[be]? = some (.cells #[.bool empty] 4 (0, 0))
  obox : ∃ v : Value, W.heap[bo]? = some (.cells #[v] 24 (0, 0)) ∧ Kd.R Kd.string 9 W w.heap.size (fun _ => True) v xs
theorem CutAt.drewN {w W : World} {be bo : Nat} {empty : Bool} {xs : List ByteArray} (h : CutAt w W be bo empty xs) (n : Nat) : CutAt w (W.drewN n) be bo empty xs := by
  obtain ⟨h1, h2, h3, v, h4, h5⟩ := h
  exact ⟨pw_below_drewN h1 n, h2, h3, v, h4, Kd.R_drewN h5 n⟩
set_option maxHeartbeats 1000000 in
set_option maxRecDepth 100000 in
theorem put_keeps (w W : World) (be bo : Nat) (empty : Bool) (xs : List ByteArray) (p : ByteArray) (h : CutAt w W be bo empty xs) (hl : xs.length < 8796093022207) (hk : keepPart empty p = true) :
    Calls Tryd.prog 41 #[.string p, .pointer (some ⟨be, 0, none⟩), .pointer (some ⟨bo, 0, none⟩)] W fun e w' => e = .returned (.tuple #[]) ∧ CutAt w w' be bo empty (xs ++ [p]) := by
  obtain ⟨hB, hge, he, v, ho, hr⟩ := h
  have hec := blk_cell he 0
  have hoc := blk_cell ho 0
  have hofr := blk_frozen ho 0
  simp only [List.getElem?_toArray, List.getElem?_cons_zero] at hec hoc
  have hne := blk_ne he ho (by decide)
  have HE := Aside0.mk he
  have HO := Aside0.mk ho
  have HR := Aside0.mk hr
  have HB := Aside0.mk hB
  clear he ho hr hB
  cases empty with
  | true =>
    clear hk
    go_enter Tryd.func41, Tryd.ntmps41
    go_wp2_with (first | ((with_reducible refine gate_builtin (b := .append) (xs := #[.tmp 9, .tmp 11]) rfl ?_); at_builtin; refine Kd.R_append Kd.string (w0 := w) w.heap.size rfl (.tmp 9) (.tmp 11) 24 9 (.string ⟨#[]⟩) 16 rfl Tryd.underlying24 info9 rfl (by decide) (by omega) v xs p [.string p] (fun _ => True) (fun _ => False) rfl rfl ?aP (fun _ hk => hk.elim) ?aF ?aO ?aB ?aS ?aL ?_; (case aP => exact rfl); (case aB => exact HB.out); (case aF => exact (fun _ _ => trivial)); (case aO => exact HR.out); (case aS => exact HB.out.size); (case aL => omega); intro v1 w1 ho1 hb1 hg1 hat1; obtain ⟨A1, c1, hv1⟩ := Kd.R_slice ho1; generalize (xs ++ [p]).length = n1 at hv1; subst hv1; have hq := blk_grown HO.out hg1 (Kd.R_ne HR.out HO.out (by decide)); have hqe := blk_grown HE.out hg1 (Kd.R_ne HR.out HE.out (by decide)); have hqc := blk_cell hq 0; have hqf := blk_frozen hq 0; simp only [List.getElem?_toArray, List.getElem?_cons_zero] at hqc; have HO1 := Aside0.mk ho1; have HB1 := Aside0.mk hb1; have HQ := Aside0.mk hq; have HQE := Aside0.mk hqe; clear ho1 hb1 hg1 hat1 hq hqe))
    go_end0
    exact ⟨rfl, HB1.out.setCell hge _, hge, blk_far HQE.out hne _, .slice A1 n1 c1, blk_put HQ.out 0 _ rfl, Kd.R_set HO1.out HQ.out (by decide) 0 _⟩
  | false =>
    have hp : p.toList.isEmpty = false := by simpa [keepPart] using hk
    have hp2 : ¬ p.toList = [] := by intro e; rw [e] at hp; cases hp
    clear hk
    go_enter Tryd.func41, Tryd.ntmps41
    go_wp2_with (first | ((with_reducible refine gate_builtin (b := .append) (xs := #[.tmp 9, .tmp 11]) rfl ?_); at_builtin; refine Kd.R_append Kd.string (w0 := w) w.heap.size rfl (.tmp 9) (.tmp 11) 24 9 (.string ⟨#[]⟩) 16 rfl Tryd.underlying24 info9 rfl (by decide) (by omega) v xs p [.string p] (fun _ => True) (fun _ => False) rfl rfl ?aP (fun _ hk => hk.elim) ?aF ?aO ?aB ?aS ?aL ?_; (case aP => exact rfl); (case aB => exact HB.out); (case aF => exact (fun _ _ => trivial)); (case aO => exact HR.out); (case aS => exact HB.out.size); (case aL => omega); intro v1 w1 ho1 hb1 hg1 hat1; obtain ⟨A1, c1, hv1⟩ := Kd.R_slice ho1; generalize (xs ++ [p]).length = n1 at hv1; subst hv1; have hq := blk_grown HO.out hg1 (Kd.R_ne HR.out HO.out (by decide)); have hqe := blk_grown HE.out hg1 (Kd.R_ne HR.out HE.out (by decide)); have hqc := blk_cell hq 0; have hqf := blk_frozen hq 0; simp only [List.getElem?_toArray, List.getElem?_cons_zero] at hqc; have HO1 := Aside0.mk ho1; have HB1 := Aside0.mk hb1; have HQ := Aside0.mk hq; have HQE := Aside0.mk hqe; clear ho1 hb1 hg1 hat1 hq hqe))
    go_end0
    exact ⟨rfl, HB1.out.setCell hge _, hge, blk_far HQE.out hne _, .slice A1 n1 c1, blk_put HQ.out 0 _ rfl, Kd.R_set HO1.out HQ.out (by decide) 0 _⟩
set_option maxHeartbeats 1000000 in
set_option maxRecDepth 100000 in
theorem put_drops (w W : World) (be bo : Nat) (xs : List ByteArray) (p : ByteArray) (h : CutAt w W be bo false xs) (hk : keepPart false p = false) :
    Calls Tryd.prog 41 #[.string p, .pointer (some ⟨be, 0, none⟩), .pointer (some ⟨bo, 0, none⟩)] W fun e w' => e = .returned (.tuple #[]) ∧ w' = W := by
  obtain ⟨hB, hge, he, v, ho, hr⟩ := h
  have hec := blk_cell he 0
  simp only [List.getElem?_toArray, List.getElem?_cons_zero] at hec
  clear he ho hr hB
  have hp : p.toList = [] := by simpa [keepPart] using hk
  clear hk
  go_enter Tryd.func41, Tryd.ntmps41
  go_wp2
  go_end0
  exact ⟨rfl, rfl⟩
theorem put_calls (w W : World) (be bo : Nat) (empty : Bool) (xs : List ByteArray) (p : ByteArray) (h : CutAt w W be bo empty xs) (hl : xs.length < 8796093022207) :
    Calls Tryd.prog 41 #[.string p, .pointer (some ⟨be, 0, none⟩), .pointer (some ⟨bo, 0, none⟩)] W fun e w' => e = .returned (.tuple #[]) ∧ CutAt w w' be bo empty (xs ++ (if keepPart empty p = true then [p] else [])) := by
  by_cases hk : keepPart empty p = true
  · rw [if_pos hk]; exact put_keeps w W be bo empty xs p h hl hk
  · rw [if_neg hk, List.append_nil]
    cases empty with
    | true => exact absurd (by simp [keepPart]) hk
    | false => exact (put_drops w W be bo xs p h (by simpa using hk)).mono fun e w' ⟨h1, h2⟩ => ⟨h1, by subst h2; exact h⟩
set_option maxHeartbeats 2000000 in
set_option maxRecDepth 100000 in
theorem cut_calls (g : Nat) (lb : Array Value) (p : Int → Bool) (empty : Bool) (a0 : ByteArray) (w : World) (hsz : a0.size ≤ 8796093022200)
    (eg : ∀ (args : Array Value) (w : World), (callFunc g args).run Tryd.prog w = .ok (.enter g args) w)
    (hp : ∀ (W : World) (c : Int), 0 ≤ c → c ≤ 255 → Below w.heap.size w W → Calls Tryd.prog g (#[.int .u8 c] ++ lb) W fun e w' => e = .returned (.bool (p c)) ∧ ∃ q, w' = W.drewN q) :
    Calls Tryd.prog 29 #[.string a0, .func (.func g) #[] lb, .bool empty] w fun e w' => ∃ v0_ : Value, e = .returned v0_ ∧ Kd.R Kd.string 9 w' w.heap.size (fun _ => True) v0_ (cutOf p empty a0) ∧ Below w.heap.size w w' := by
  have hmf : ∀ (fn : Fn) (first cap : Array Value) (w : World), (Instr.makeFunc fn first cap).run Tryd.prog w = .ok (.func fn first cap) w := fun _ _ _ _ => rfl
  have HP := Aside0.mk hp
  clear hp
  have h0 : CutAt w ((w.alloc (.cells #[.bool empty] 4)).alloc (.cells #[.slice none 0 0] 24)) w.heap.size (w.heap.size + 1) empty (keepParts empty (cutSt p a0 0).1) := by
    refine ⟨((Below.refl _ _).alloc (Nat.le_refl _) _).alloc (by simp) _, by omega, blk_alloc (blk_new _ _) _, .slice none 0 0, ?_, Kd.R_nil _ _ _ _ _⟩
    have := blk_new (w.alloc (.cells #[.bool empty] 4)) (.cells #[.slice none 0 0] 24)
    simpa using this
  have H0 := Aside0.mk h0
  clear h0
  go_enter Tryd.func29, Tryd.ntmps29
  go_wp2
  go_loopw [9, 10, 14] (fun v9 v10 v14 wr => ∃ k : Nat, k ≤ a0.size ∧ v14 = .int .i64 k ∧ v9 = .int .i64 (cutSt p a0 k).2 ∧ CutAt w wr w.heap.size (w.heap.size + 1) empty (keepParts empty (cutSt p a0 k).1)) (fun _ _ v14 _ => a0.size - (intOf v14).toNat)
  case atStart => exact ⟨0, Nat.zero_le _, rfl, rfl, H0.out⟩
  case round =>
    clear H0
    obtain ⟨k, hk, rfl, rfl, hC⟩ := hrel
    by_cases hlt : k < a0.size
    · have hx : ∀ h : k < a0.size, ((a0[k]'h).toNat : Int) = bt a0 k := fun h => by have := bt_at a0 k (by simpa using h); simpa using this
      obtain ⟨hb0, hb1⟩ := bt_range a0 k
      have hfr := cutSt_le p a0 k
      have hln := keepParts_len empty (cutSt p a0 k).1
      have hln2 := cutSt_len p a0 k
      have hS : cutSt p a0 (k + 1) = if p (bt a0 k) = true then ((cutSt p a0 k).1 ++ [a0.extract (cutSt p a0 k).2 k], k + 1) else cutSt p a0 k := rfl
      have hcall := HP.out wr (bt a0 k) hb0 hb1 hC.below
      clear HP
      generalize bt a0 k = c at *
      cases hpk : p c with
      | true =>
        rw [hpk] at hcall hS
        rw [if_pos rfl] at hS
        have HS := Aside0.mk hS
        clear hS hpk
        generalize hxs : (cutSt p a0 k).1 = ps at *
        generalize hfm : (cutSt p a0 k).2 = fr at *
        clear hxs hfm
        have hput := fun n => put_calls w (wr.drewN n) _ _ empty (keepParts empty ps) (a0.extract fr k) (hC.drewN n) (by omega)
        have HCA := Aside0.mk hcall
        have HPU := Aside0.mk hput
        clear hcall hput hC
        go_wp2_with (first | (go_at_fn g; refine HCA.out.mono ?_; rintro e w' ⟨rfl, q, rfl⟩) | (go_at_call 41; refine (HPU.out _).mono ?_; rintro e w' ⟨rfl, hC2⟩))
        go_roundw
        case rel => exact ⟨k + 1, by omega, by go_num, by rw [HS.out]; go_num, by rw [HS.out, keepParts_snoc]; exact hC2⟩
        case measure => simp [intOf]; omega
      | false =>
        rw [hpk] at hcall hS
        rw [if_neg (by decide)] at hS
        have HS := Aside0.mk hS
        clear hS hpk
        have HCA := Aside0.mk hcall
        have HC := Aside0.mk hC
        clear hcall hC
        go_wp2_with (first | (go_at_fn g; refine HCA.out.mono ?_; rintro e w' ⟨rfl, q, rfl⟩))
        go_roundw
        case rel => exact ⟨k + 1, by omega, by go_num, by rw [HS.out], by rw [HS.out]; exact HC.out.drewN q⟩
        case measure => simp [intOf]; omega
    · obtain rfl : k = a0.size := by omega
      have hfr := cutSt_le p a0 a0.size
      have hln := keepParts_len empty (cutSt p a0 a0.size).1
      have hln2 := cutSt_len p a0 a0.size
      have hput := put_calls w wr _ _ empty (keepParts empty (cutSt p a0 a0.size).1) (a0.extract (cutSt p a0 a0.size).2 a0.size) hC (by omega)
      rw [← keepParts_snoc] at hput
      have HPU := Aside0.mk hput
      clear hput hC HP
      go_wp2_with (first | (go_at_call 41; refine HPU.out.mono ?_; rintro e w' ⟨rfl, ⟨hB2, _, _, v2, ho2, hr2⟩⟩; have hoc2 := blk_cell ho2 0; simp only [List.getElem?_toArray, List.getElem?_cons_zero] at hoc2; have HR2 := Aside0.mk hr2; have HB2 := Aside0.mk hB2; clear ho2 hr2 hB2))
      go_ret
      exact ⟨_, rfl, HR2.out, HB2.out⟩


/-! ### octet_Split: function 20 -/
def octet_Split.f (a0 : ByteArray) (a1 : Int) : Option (List ByteArray) := if a0.size ≤ 8796093022200 then some (cutOf (fun c => c == a1) true a0) else none
set_option maxHeartbeats 1000000 in
theorem split_is (a1 : Int) (g : Nat) (W : World) (c : Int) (hg : W.heap[g]? = some (.cells #[.int .u8 a1] 5 (0, 0))) :
    Calls Tryd.prog 30 #[.int .u8 c, .pointer (some ⟨g, 0, none⟩)] W fun e w' => e = .returned (.bool (c == a1)) ∧ ∃ q, w' = W.drewN q := by
  have hc := blk_cell hg 0
  simp only [List.getElem?_toArray, List.getElem?_cons_zero] at hc
  clear hg
  go_enter Tryd.func30, Tryd.ntmps30
  go_wp2
  go_ret
  exact ⟨rfl, 0, rfl⟩
set_option maxHeartbeats 1000000 in
theorem octet_Split.calls (a0 : ByteArray) (a1 : Int) (r : List ByteArray) (w : World) (h : octet_Split.f a0 a1 = some r) :
    Calls Tryd.prog 20 #[.string a0, .int .u8 a1] w fun e w' => ∃ v0_ : Value, e = .returned v0_ ∧ Kd.R Kd.string 9 w' w.heap.size (fun _ => True) v0_ r ∧ Below w.heap.size w w' := by
  unfold octet_Split.f at h
  split at h
  · rename_i hsz
    obtain rfl := Option.some.inj h
    clear h
    have hmf : ∀ (fn : Fn) (first cap : Array Value) (w : World), (Instr.makeFunc fn first cap).run Tryd.prog w = .ok (.func fn first cap) w := fun _ _ _ _ => rfl
    have hcut := cut_calls 30 #[.pointer (some ⟨w.heap.size, 0, none⟩)] (fun c => c == a1) true a0 (w.alloc (.cells #[.int .u8 a1] 5)) hsz (enters_of Tryd.func30 (by kernel_rfl) rfl)
      (fun W c _ _ hB => split_is a1 w.heap.size W c (blk_below (blk_new w _) hB))
    have HC := Aside0.mk hcut
    clear hcut
    go_enter Tryd.func20, Tryd.ntmps20
    go_wp2_with (first | (go_at_call 29; refine HC.out.mono ?_; rintro e w' ⟨v, rfl, hr, hB⟩; have HR := Aside0.mk hr; have HB := Aside0.mk hB; clear hr hB))
    go_ret
    exact ⟨_, rfl, Kd.R_lower HR.out (by simp), ((Below.refl _ _).alloc (Nat.le_refl _) _).trans (HB.out.mono (by simp))⟩
  · cases h


/-! ### strings_IndexByte: function 43 -/
def strings_IndexByte.f (a0 : ByteArray) (a1 : Int) : Option Int := some (Lib.indexByte a0.data.toList a1.toNat.toUInt8)
theorem strings_IndexByte.calls (a0 : ByteArray) (a1 : Int) (r : Int) (w : World) (h : strings_IndexByte.f a0 a1 = some r) :
    Calls Tryd.prog 43 #[.string a0, .int .u8 a1] w fun e w' => e = .returned (.int .i64 r) ∧ Drawn0 w w' := by
  obtain rfl := Option.some.inj h
  exact (Tryd.strings_IndexByte a0 a1 w).mono fun e w' ⟨h1, h2⟩ => ⟨h1, by subst h2; exact Drawn0.refl _⟩


/-! ### octet_Words: function 31 -/
def blankB (c : Int) : Bool := decide (0 ≤ Lib.indexByte [9, 10, 12, 13, 32] c.toNat.toUInt8)
def octet_Words.f (a0 : ByteArray) : Option (List ByteArray) := if a0.size ≤ 8796093022200 then some (cutOf blankB false a0) else none
set_option maxHeartbeats 1000000 in
theorem words_is (W : World) (c : Int) :
    Calls Tryd.prog 42 #[.int .u8 c] W fun e w' => e = .returned (.bool (blankB c)) ∧ ∃ q, w' = W.drewN q := by
  have hcon := Tryd.strings_IndexByte ⟨#[9, 10, 12, 13, 32]⟩ c W
  change Calls Tryd.prog 43 _ _ (fun e w' => e = .returned (.int .i64 (Lib.indexByte [9, 10, 12, 13, 32] c.toNat.toUInt8)) ∧ w' = W) at hcon
  unfold blankB
  generalize Lib.indexByte [9, 10, 12, 13, 32] c.toNat.toUInt8 = i at hcon ⊢
  have HC := Aside0.mk hcon
  clear hcon
  go_enter Tryd.func42, Tryd.ntmps42
  go_wp2_with (first | (go_at_call 43; refine HC.out.mono ?_; rintro e w' ⟨rfl, hw⟩; subst hw))
  go_ret
  exact ⟨rfl, 0, rfl⟩
set_option maxHeartbeats 1000000 in
theorem octet_Words.calls (a0 : ByteArray) (r : List ByteArray) (w : World) (h : octet_Words.f a0 = some r) :
    Calls Tryd.prog 31 #[.string a0] w fun e w' => ∃ v0_ : Value, e = .returned v0_ ∧ Kd.R Kd.string 9 w' w.heap.size (fun _ => True) v0_ r ∧ Below w.heap.size w w' := by
  unfold octet_Words.f at h
  split at h
  · rename_i hsz
    obtain rfl := Option.some.inj h
    clear h
    have hcut := cut_calls 42 #[] blankB false a0 w hsz (enters_of Tryd.func42 (by kernel_rfl) rfl)
      (fun W c _ _ _ => words_is W c)
    have HC := Aside0.mk hcut
    clear hcut
    go_enter Tryd.func31, Tryd.ntmps31
    go_wp2_with (first | (go_at_call 29; refine HC.out.mono ?_; rintro e w' ⟨v, rfl, hr, hB⟩; have HR := Aside0.mk hr; have HB := Aside0.mk hB; clear hr hB))
    go_ret
    exact ⟨_, rfl, HR.out, HB.out⟩
  · cases h


/-! ### octet_Lower: function 32 -/
/-- A letter A to Z made small. -/
def lowByte (c : Int) : Int := if 65 ≤ c ∧ c ≤ 90 then c + 32 else c
def lowBA (s : ByteArray) : ByteArray := strOfNums ((bytesOf s).map lowByte)
theorem lowByte_range (c : Int) (h0 : 0 ≤ c) (h1 : c ≤ 255) : 0 ≤ lowByte c ∧ lowByte c ≤ 255 := by
  unfold lowByte; split <;> omega
/-- The world after k rounds of making small: the new row's bytes below k are small, the others as they came. -/
structure LowAt (w W : World) (s : ByteArray) (k : Nat) : Prop where
  below : Below w.heap.size w W
  size : W.heap.size = w.heap.size + 1
  cell : ∀ j, j < s.size → W.cell? ⟨w.heap.size, j, none⟩ = some (.int .u8 (if j < k then lowByte (bt s j) else bt s j))
  free : ∀ j, j < s.size → W.frozen? ⟨w.heap.size, j, none⟩ = false
theorem bt_nat (s : ByteArray) (j : Nat) : bt s (j : Int) = ((s.data.toList.getD j 0).toNat : Int) := by
  unfold bt
  split
  · rename_i h
    have h' : j < s.data.toList.length := by rw [data_length]; simpa using h
    simp [List.getD_eq_getElem?_getD, List.getElem?_eq_getElem h']
    rfl
  · rename_i h
    have h' : s.data.toList.length ≤ j := by rw [data_length]; simp at h; omega
    simp [List.getD_eq_getElem?_getD, List.getElem?_eq_none h']
theorem LowAt.start (w : World) (e : TypeId) (s : ByteArray) : LowAt w (Lib.bytesWorld w e s) s 0 where
  below := bytes_below (Below.refl _ _) (Nat.le_refl _) e s
  size := Lib.bytesWorld_size w e s
  cell := fun j hj => by rw [Lib.bytesWorld_cell w e s j hj, if_neg (by omega), bt_nat]
  free := fun j hj => by
    have h1 : s.size ≤ (Lib.bytesCells w e s).size := by
      simp only [Lib.bytesCells, Array.size_append, Array.size_map]
      exact Nat.le_add_right _ _
    simp [World.frozen?, Lib.bytesWorld_at_new]
    omega
theorem LowAt.drew {w W : World} {s : ByteArray} {k : Nat} (h : LowAt w W s k) : LowAt w W.drew s k :=
  ⟨below_drew h.below, h.size, h.cell, h.free⟩
theorem LowAt.same {w W : World} {s : ByteArray} {k : Nat} (h : LowAt w W s k) (hs : lowByte (bt s k) = bt s k) : LowAt w W s (k + 1) where
  below := h.below
  size := h.size
  cell := fun j hj => by
    rw [h.cell j hj]
    rcases Nat.lt_trichotomy j k with h1 | h1 | h1
    · rw [if_pos h1, if_pos (by omega)]
    · subst h1; rw [if_neg (by omega), if_pos (by omega), hs]
    · rw [if_neg (by omega), if_neg (by omega)]
  free := h.free
theorem LowAt.store {w W : World} {s : ByteArray} {k : Nat} (h : LowAt w W s k) (hk : k < s.size) : LowAt w (W.setCell ⟨w.heap.size, k, none⟩ (.int .u8 (lowByte (bt s k)))) s (k + 1) where
  below := h.below.setCell (Nat.le_refl _) _
  size := by rw [← h.size]; simp [World.setCell]
  cell := fun j hj => by
    by_cases e : j = k
    · subst e; rw [World.cell?_setCell_same _ _ _ (h.cell j hj), if_pos (by omega)]
    · rw [World.cell?_setCell_other _ _ _ _ (by intro e'; injection e' with _ e' _; exact e e'.symm), h.cell j hj]
      by_cases h1 : j < k
      · rw [if_pos h1, if_pos (by omega)]
      · rw [if_neg h1, if_neg (by omega)]
  free := fun j hj => by rw [← h.free j hj]; simp [go_sem]
theorem LowAt.done {P : Program} {src dst e : TypeId} (hs : P.underlying src = some (.slice e)) (he : P.underlying e = some (.int .u8)) (hd : P.underlying dst = some .string)
    {w W : World} {s : ByteArray} (h : LowAt w W s s.size) (c : Nat) :
    (convert src dst (.slice (some ⟨w.heap.size, 0, none⟩) s.size c)).run P W = .ok (.string (lowBA s)) W := by
  refine run_convert_bytes_arg W src e hs he w.heap.size 0 s.size c _ (by rw [List.length_map, bytesOf_length]) (fun i hi => ?_) dst hd
  rw [Nat.zero_add, h.cell i hi, if_pos hi]
  have h1 : i < (bytesOf s).length := by rw [bytesOf_length]; exact hi
  have h2 : rd (bytesOf s) i = bt s i := rd_bytesOf s i
  simp only [rd, Int.toNat_natCast] at h2
  rw [List.getD_eq_getElem?_getD, List.getElem?_map, ← h2, List.getD_eq_getElem?_getD]
  simp [List.getElem?_eq_getElem h1]
theorem low_or : ∀ c : Int, 65 ≤ c → c ≤ 90 → Go.bits .or .u8 c 32 = c + 32 := by
  intro c h0 h1
  obtain ⟨n, rfl⟩ := Int.eq_ofNat_of_zero_le (by omega : 0 ≤ c)
  have h2 : n < 91 := by omega
  have h3 : 65 ≤ n := by omega
  revert h3
  exact (by decide : ∀ n : Nat, n < 91 → 65 ≤ n → Go.bits .or .u8 (n : Int) 32 = (n : Int) + 32) n h2
def octet_Lower.f (a0 : ByteArray) : Option ByteArray := if a0.size ≤ 281474976710656 then some (lowBA a0) else none
set_option maxHeartbeats 1000000 in
set_option maxRecDepth 100000 in
theorem octet_Lower.calls (a0 : ByteArray) (r : ByteArray) (w : World) (h : octet_Lower.f a0 = some r) :
    Calls Tryd.prog 32 #[.string a0] w fun e w' => e = .returned (.string r) ∧ Below w.heap.size w w' := by
  unfold octet_Lower.f at h
  split at h
  · rename_i hsz
    obtain rfl := Option.some.inj h
    clear h
    have kb := fun W => print_bytes (P := Tryd.prog) 9 57 5 Tryd.underlying9 Tryd.underlying57 Tryd.underlying5 a0 W
    go_enter Tryd.func32, Tryd.ntmps32
    go_wp2
    generalize grownCap w a0.size 0 5 = cap
    go_loopw [4, 5, 10] (fun v4 v5 v10 wr => ∃ k : Nat, k ≤ a0.size ∧ v10 = .int .i64 k ∧ LowAt w wr a0 k) (fun v4 v5 v10 _ => a0.size - (intOf v10).toNat)
    case atStart => exact ⟨0, Nat.zero_le _, rfl, LowAt.start w _ a0⟩
    case round =>
      clear kb
      obtain ⟨k, hk, rfl, hL⟩ := hrel
      by_cases hlt : k < a0.size
      · have hcell : wr.cell? ⟨w.heap.size, k, none⟩ = some (.int .u8 (bt a0 k)) := by rw [hL.cell k hlt, if_neg (by omega)]
        have hfree := hL.free k hlt
        obtain ⟨hb0, hb1⟩ := bt_range a0 k
        have hS := Aside0.mk (hL.store hlt)
        have hN := Aside0.mk (fun e => hL.same (k := k) e)
        generalize hc : bt a0 k = c at hcell hb0 hb1 hS hN
        clear hc
        have HL := Aside0.mk hL
        clear hL
        by_cases hu1 : 65 ≤ c
        · by_cases hu2 : c ≤ 90
          · have hl : lowByte c = c + 32 := by unfold lowByte; rw [if_pos ⟨hu1, hu2⟩]
            have hor := low_or c hu1 hu2
            rw [hl] at hS
            clear hl hN
            go_wp2
            go_roundw
            case rel => exact ⟨k + 1, by omega, by go_num, hS.out⟩
            case measure => simp [intOf]; omega
          · have hl : lowByte c = c := by unfold lowByte; rw [if_neg (by omega)]
            clear hS
            have hN' := Aside0.mk (hN.out hl)
            clear hN hl
            go_wp2
            go_roundw
            case rel => exact ⟨k + 1, by omega, by go_num, hN'.out⟩
            case measure => simp [intOf]; omega
        · have hl : lowByte c = c := by unfold lowByte; rw [if_neg (by omega)]
          clear hS
          have hN' := Aside0.mk (hN.out hl)
          clear hN hl
          go_wp2
          go_roundw
          case rel => exact ⟨k + 1, by omega, by go_num, hN'.out⟩
          case measure => simp [intOf]; omega
      · obtain rfl : k = a0.size := by omega
        have hd := fun c => hL.done (P := Tryd.prog) (src := 57) (dst := 9) (e := 5) Tryd.underlying57 Tryd.underlying5 Tryd.underlying9 c
        go_wp2
        go_ret
        exact ⟨rfl, hL.below⟩
  · cases h


/-! ### cspparse_One: function 11 -/
def ancName : ByteArray := ⟨#[102, 114, 97, 109, 101, 45, 97, 110, 99, 101, 115, 116, 111, 114, 115]⟩
def boxName : ByteArray := ⟨#[115, 97, 110, 100, 98, 111, 120]⟩
def headIs (n : ByteArray) : List ByteArray → Bool
  | [] => false
  | x :: _ => decide (lowBA x = n)
/-- The words behind the first directive of a name. -/
def firstOf (n : ByteArray) (ds : List (List ByteArray)) : Option (List ByteArray) := (ds.find? (headIs n)).map List.tail
theorem firstOf_snoc (n : ByteArray) (ds : List (List ByteArray)) (w : List ByteArray) : firstOf n (ds ++ [w]) = if (firstOf n ds).isSome = true then firstOf n ds else if headIs n w = true then some w.tail else none := by
  unfold firstOf
  rw [List.find?_append]
  cases h : ds.find? (headIs n) with
  | some x => simp
  | none =>
    simp only [Option.none_or, Option.map_none, Option.isSome_none]
    rw [List.find?_cons]
    cases headIs n w <;> simp
def partsAt (s : ByteArray) : List ByteArray := cutOf (fun x => x == 59) true s
def dirWords (ps : List ByteArray) : List (List ByteArray) := ps.map (fun d => cutOf blankB false d)
def cspparse_One.f (a0 : ByteArray) : Option (Bool × List ByteArray × Bool × List ByteArray) :=
  if a0.size ≤ 8796093022200 then some ((firstOf ancName (dirWords (partsAt a0))).isSome, (firstOf ancName (dirWords (partsAt a0))).getD [], (firstOf boxName (dirWords (partsAt a0))).isSome, (firstOf boxName (dirWords (partsAt a0))).getD []) else none
/-- A text as a map's key. -/
def keyL (s : ByteArray) : Lit := .string s.data.toList
theorem keyL_inj {s t : ByteArray} (h : keyL s = keyL t) : s = t := by
  unfold keyL at h
  injection h with h
  exact ByteArray.ext (Array.toList_inj.1 h)
theorem keyL_is (s : ByteArray) : WideAt.IsKeyLit (keyL s) := trivial
/-- An element of the map as the walk knows it: the value itself. -/
def heldR (v : Value) : Option (DataW Value × List MemPlace) := some (.held v, [])
def nilD : DataW Value := .held (.slice none 0 0)
/-- What the map says of names, and what the two names' slices hold. -/
def DirAt (W : World) (base B : Nat) (D : DataW Value) (ds : List (List ByteArray)) : Prop :=
  (∀ n : ByteArray, Go.Maps.has D (keyL n) = (firstOf n ds).isSome) ∧ Go.Maps.IsMap D ∧ ∃ va vb : Value, D.atKey (keyL ancName) nilD = .held va ∧ D.atKey (keyL boxName) nilD = .held vb ∧
    Kd.Q Kd.string 9 W base (fun k => k ≠ B ∧ some k ≠ vb.ownBlock) va ((firstOf ancName ds).getD []) ∧ Kd.Q Kd.string 9 W base (fun k => k ≠ B ∧ some k ≠ va.ownBlock) vb ((firstOf boxName ds).getD [])
theorem DirAt.start (W : World) (base B : Nat) : DirAt W base B (.map []) [] :=
  ⟨fun _ => rfl, ⟨[], rfl⟩, .slice none 0 0, .slice none 0 0, rfl, rfl, Kd.Q_nil _ _ _ _ _, Kd.Q_nil _ _ _ _ _⟩
theorem DirAt.below {W W1 : World} {base B : Nat} {D : DataW Value} {ds : List (List ByteArray)} (h : DirAt W base B D ds) (hb : Below W.heap.size W W1) : DirAt W1 base B D ds := by
  obtain ⟨h1, h2, va, vb, h3, h4, h5, h6⟩ := h
  exact ⟨h1, h2, va, vb, h3, h4, Kd.Q_below h5 hb, Kd.Q_below h6 hb⟩
/-- A directive that has no word, or a name that is there, changes nothing. -/
theorem DirAt.pass {W : World} {base B : Nat} {D : DataW Value} {ds : List (List ByteArray)} (h : DirAt W base B D ds) (w : List ByteArray) (hw : w = [] ∨ ∃ x xs, w = x :: xs ∧ (firstOf (lowBA x) ds).isSome = true) : DirAt W base B D (ds ++ [w]) := by
  have e : ∀ n, firstOf n (ds ++ [w]) = firstOf n ds := by
    intro n
    rw [firstOf_snoc]
    split
    · rfl
    · rename_i hn
      rcases hw with rfl | ⟨x, xs, rfl, hx⟩
      · simp only [headIs, Bool.false_eq_true, if_false]
        cases hf : firstOf n ds with
        | none => rfl
        | some y => rw [hf] at hn; exact absurd rfl hn
      · by_cases hxn : lowBA x = n
        · rw [hxn] at hx; exact absurd hx hn
        · simp only [headIs, hxn, decide_false, Bool.false_eq_true, if_false]
          cases hf : firstOf n ds with
          | none => rfl
          | some y => rw [hf] at hn; exact absurd rfl hn
  unfold DirAt at *
  simp only [e]
  exact h
/-- A name that is new. -/
theorem DirAt.store {W0 W W1 : World} {base B : Nat} {D : DataW Value} {ds : List (List ByteArray)} (h : DirAt W0 base B D ds) (x : ByteArray) (xs : List ByteArray) (hx : (firstOf (lowBA x) ds).isSome = false) (v : Value)
    (hb : Below W0.heap.size W0 W) (hv : Kd.Q Kd.string 9 W W0.heap.size (fun k => k ≠ B) v xs) (hg : W.grownBy W1 (some B)) (hbase : base ≤ W0.heap.size) : DirAt W1 base B (D.put (keyL (lowBA x)) (.held v)) (ds ++ [x :: xs]) := by
  obtain ⟨h1, h2, va, vb, h3, h4, h5, h6⟩ := h
  have hvb := Kd.Q_base hv
  have o5 := Kd.Q_grown (Kd.Q_elder' h5 hvb hb) hg (fun k hk e => hk.1.1 (by injection e))
  have o6 := Kd.Q_grown (Kd.Q_elder' h6 hvb hb) hg (fun k hk e => hk.1.1 (by injection e))
  have n5 := Kd.Q_grown (Kd.Q_lower (Kd.Q_new' hv (Kd.Q_lt h5)) hbase) hg (fun k hk e => hk.1 (by injection e))
  have n6 := Kd.Q_grown (Kd.Q_lower (Kd.Q_new' hv (Kd.Q_lt h6)) hbase) hg (fun k hk e => hk.1 (by injection e))
  have hnone : firstOf (lowBA x) ds = none := by
    cases hf : firstOf (lowBA x) ds with
    | none => rfl
    | some y => rw [hf] at hx; cases hx
  have same : firstOf (lowBA x) (ds ++ [x :: xs]) = some xs := by
    rw [firstOf_snoc, hnone]
    simp [headIs]
  have other : ∀ n, lowBA x ≠ n → firstOf n (ds ++ [x :: xs]) = firstOf n ds := by
    intro n hn
    rw [firstOf_snoc]
    simp only [headIs, hn, decide_false, Bool.false_eq_true, if_false]
    cases firstOf n ds <;> simp
  refine ⟨fun n => ?_, h2.put _ _, ?_⟩
  · by_cases hn : lowBA x = n
    · subst hn
      rw [Go.Maps.has_put_same h2 (keyL_is _), same]
      rfl
    · rw [Go.Maps.has_put_other (fun e => hn (keyL_inj e).symm), other n hn]
      exact h1 n
  · by_cases ha : lowBA x = ancName
    · have hb' : lowBA x ≠ boxName := by rw [ha]; decide
      refine ⟨v, vb, by rw [ha]; exact Go.Maps.atKey_put_same h2 (keyL_is _) _ _, by rw [Go.Maps.atKey_put_other (fun e => hb' (keyL_inj e).symm)]; exact h4, ?_, ?_⟩
      · rw [← ha, same]
        exact Kd.Q_mono n6 (fun k hk => hk)
      · rw [other _ hb']
        exact Kd.Q_mono o6 (fun k hk => ⟨hk.1.1, hk.2⟩)
    · by_cases hb' : lowBA x = boxName
      · refine ⟨va, v, by rw [Go.Maps.atKey_put_other (fun e => ha (keyL_inj e).symm)]; exact h3, by rw [hb']; exact Go.Maps.atKey_put_same h2 (keyL_is _) _ _, ?_, ?_⟩
        · rw [other _ ha]
          exact Kd.Q_mono o5 (fun k hk => ⟨hk.1.1, hk.2⟩)
        · rw [← hb', same]
          exact Kd.Q_mono n5 (fun k hk => hk)
      · refine ⟨va, vb, by rw [Go.Maps.atKey_put_other (fun e => ha (keyL_inj e).symm)]; exact h3, by rw [Go.Maps.atKey_put_other (fun e => hb' (keyL_inj e).symm)]; exact h4, ?_, ?_⟩
        · rw [other _ ha]
          exact Kd.Q_mono o5 (fun k hk => hk.1)
        · rw [other _ hb']
          exact Kd.Q_mono o6 (fun k hk => hk.1)
theorem cutSt_mem_size (p : Int → Bool) (s w : ByteArray) : ∀ i : Nat, w ∈ (cutSt p s i).1 → w.size ≤ s.size := by
  intro i
  induction i with
  | zero => intro h; cases h
  | succ i ih =>
    intro h
    rw [show cutSt p s (i + 1) = if p (bt s i) = true then ((cutSt p s i).1 ++ [s.extract (cutSt p s i).2 i], i + 1) else cutSt p s i from rfl] at h
    by_cases hp : p (bt s (i : Int)) = true
    · rw [if_pos hp] at h
      rcases List.mem_append.1 h with h | h
      · exact ih h
      · rw [List.mem_singleton.1 h, ByteArray.size_extract]; omega
    · rw [if_neg hp] at h; exact ih h
theorem cut_mem_size (keep : Bool) (q : Int → Bool) (s : ByteArray) : ∀ x ∈ cutOf q keep s, x.size ≤ s.size := by
  intro x hx
  unfold cutOf keepParts at hx
  have h := (List.mem_filter.1 hx).1
  rcases List.mem_append.1 h with h | h
  · exact cutSt_mem_size q s x _ h
  · rw [List.mem_singleton.1 h, ByteArray.size_extract]; omega
theorem cut_len (keep : Bool) (q : Int → Bool) (s : ByteArray) : (cutOf q keep s).length ≤ s.size + 1 := by
  unfold cutOf
  have h1 := keepParts_len keep ((cutSt q s s.size).1 ++ [s.extract (cutSt q s s.size).2 s.size])
  have h2 := cutSt_len q s s.size
  simp only [List.length_append, List.length_singleton] at h1
  omega
theorem low_sizeC (s : ByteArray) : (lowBA s).size = s.size := by
  unfold lowBA
  rw [strOfNums_size, List.length_map, bytesOf_length]
theorem first_cell {w : World} {A : Option Addr} {x : ByteArray} {xs : List ByteArray} (h : Kd.C Kd.string w A (x :: xs).length (x :: xs)) : ∃ ad, A = some ad ∧ w.cell? ad = some (.string x) := by
  obtain ⟨ad, c, hA, _, hK, hc⟩ := Kd.C_get h (⟨#[]⟩ : ByteArray) 0 (by omega) (by simp)
  obtain rfl : c = [.string x] := hK
  have hx := hc 0 _ rfl
  have e : ad.add 0 = ad := by unfold Addr.add; cases ad; simp
  have hx2 : w.cell? (ad.add 0) = some (.string x) := by simpa using hx
  rw [e] at hx2
  exact ⟨ad, hA, hx2⟩
/-- w[1:len(w):len(w)]: what stands behind the first word. -/
theorem Q_tail {e : Nat} {w : World} {base : Nat} {ok : Nat → Prop} {ad : Addr} {c : Nat} {x : ByteArray} {xs : List ByteArray} (h : Kd.R Kd.string e w base ok (.slice (some ad) (x :: xs).length c) (x :: xs)) :
    Kd.Q Kd.string e w base ok (.slice (if xs = [] then some ad else some ⟨ad.block, ad.off + 1, none⟩) xs.length xs.length) xs := by
  obtain ⟨h0, inner, ho, hr⟩ := h
  obtain ⟨hl, h2⟩ := ho
  rcases h2 with ⟨he, hn⟩ | ⟨g, cap, cur, he, hb, hh, hnc, hcm, hcs, ht⟩
  · cases he
  · injection he with ha _ hc
    injection ha with ha
    subst ha; subst hc
    have hz : (Kd.string).sz = 1 := rfl
    rw [hz, Nat.mul_one] at hl ht hcs
    have ob : (Value.slice (if xs = [] then some (⟨g, 0, none⟩ : Addr) else some ⟨g, 0 + 1, none⟩) xs.length xs.length).ownBlock = some g := by
      split <;> simp [Value.ownBlock]
    have ob2 : (Value.slice (some (⟨g, 0, none⟩ : Addr)) (x :: xs).length c).ownBlock = some g := by simp [Value.ownBlock]
    refine ⟨fun k hk => h0 k (by rw [ob2, ← hk]; exact ob.symm), inner.drop 1, ⟨by rw [List.length_drop, hl]; simp [hz], ?_⟩, ?_⟩
    · by_cases hx : xs = []
      · subst hx
        exact .inl ⟨rfl, _, rfl, fun a ha => by
          rw [if_pos rfl] at ha
          injection ha with ha
          subst ha
          exact ⟨hb, cur, hh⟩⟩
      · have hlen : xs.length + 1 ≤ c := by simpa using hnc
        refine .inr ⟨g, 1, xs.length, cur, by rw [if_neg hx, hz], hb, hh, Nat.le_refl _, by omega, by rw [hz]; omega, ?_⟩
        rw [hz, Nat.mul_one, Nat.mul_one, ← ht, List.drop_take]
        congr 1
    · have := Kd.reps_drop (m := 1) hr
      rw [hz, Nat.mul_one] at this
      exact this.imp_ (fun _ _ hp => (Kd.string).M_mono (fun k hk => ⟨hk.1, by rw [ob]; rw [ob2] at hk; exact hk.2⟩) hp)
/-- Between two directives. -/
def DRel (w : World) (v12 : Value) (ps : List ByteArray) (v14 : Value) (wr : World) : Prop :=
  ∃ k : Nat, k ≤ ps.length ∧ v14 = .int .i64 k ∧ (∃ (D : DataW Value), wr.ownsMap Tryd.prog 9 heldR w.heap.size k D ∧ DirAt wr (w.heap.size + 1) w.heap.size D (dirWords (ps.take k))) ∧ Below w.heap.size w wr ∧ Kd.R Kd.string 9 wr (w.heap.size + 1) (fun k => k ≠ w.heap.size) v12 ps
set_option maxHeartbeats 4000000 in
set_option maxRecDepth 100000 in
theorem dirs_ok (s : ByteArray) (hs : s.size ≤ 8796093022200) (w : World) :
    Calls Tryd.prog 22 #[.string s] w fun e w' => e = .returned (.map (some w.heap.size)) ∧ (∃ (D : DataW Value) (n : Nat), w'.ownsMap Tryd.prog 9 heldR w.heap.size n D ∧ DirAt w' (w.heap.size + 1) w.heap.size D (dirWords (partsAt s))) ∧ Below w.heap.size w w' := by
  have hSp := octet_Split.calls s 59 (partsAt s) (w.alloc (.map #[] 0)) (if_pos hs)
  have HSp := Aside0.mk hSp
  clear hSp
  have hps : ∀ p ∈ partsAt s, p.size ≤ s.size := by
    exact cut_mem_size true _ s
  have hpl : (partsAt s).length ≤ 8796093022201 := by
    have := cut_len true (fun x => x == 59) s
    unfold partsAt
    omega
  generalize partsAt s = ps at *
  have hmm := @run_makeMap Tryd.prog
  have kd : ∀ s : ByteArray, s.size ≤ 281474976710656 → keyOf Tryd.prog 9 (.string s) = some (keyL s) := fun s hs => WideMaps.keyOf_string_mk Tryd.underlying9 (by unfold maxLen; omega)
  have zE : ∀ W, (zeroValue 24).run Tryd.prog W = .ok (.slice none 0 0) W := fun W => by kernel_rfl
  have HW := Aside0.mk (fun v (hv : v.size ≤ 8796093022200) W2 => octet_Words.calls v (cutOf blankB false v) W2 (by unfold octet_Words.f; exact if_pos hv))
  have HL := Aside0.mk (fun v (hv : v.size ≤ 281474976710656) W2 => octet_Lower.calls v (lowBA v) W2 (by unfold octet_Lower.f; exact if_pos hv))
  have HPS := Aside0.mk hps
  clear hps
  go_enter Tryd.func22, Tryd.ntmps22
  go_wp2
  go_step3
  go_wp2
  go_step3
  go_wp2_with (first | (go_at_call 20; refine HSp.out.mono ?_; rintro e w1 ⟨v0, rfl, hR1, hb1⟩; obtain ⟨A1, c1, hv1, hc1, _⟩ := Kd.R_reads hR1; subst hv1))
  have hown1 := World.ownsMap.kept (World.ownsMap_made (H := Value) w Tryd.prog 9 heldR) (grown_of_below hb1 none) (by simp)
  have hbw1 : Below w.heap.size w w1 := (below_alloc (Below.refl _ w) (.map #[] 0)).trans (hb1.mono (by simp))
  have hR2 := Kd.R_mono (Kd.R_bound hR1) (ok' := fun k => k ≠ w.heap.size) (fun k hk => by have := hk.2.1; simp at this; omega)
  have HO1 := Aside0.mk hown1
  have HB1 := Aside0.mk hbw1
  have HR2 := Aside0.mk hR2
  clear hown1 hbw1 hR2 hR1 hb1 HSp
  go_loopw [14] (fun v14 wr => DRel w (.slice A1 ps.length c1) ps v14 wr) (fun v14 _ => ps.length - (intOf v14).toNat)
  case atStart => exact ⟨0, Nat.zero_le _, rfl, ⟨_, HO1.out, DirAt.start _ _ _⟩, HB1.out, by simpa using HR2.out⟩
  case round =>
    clear HO1 HB1 HR2
    obtain ⟨k, hk, rfl, ⟨D, hown, hD⟩, hbw, hR⟩ := hrel
    obtain ⟨_, _, hC⟩ := Kd.R_reads' hR
    by_cases hlt : k < ps.length
    · obtain ⟨ad, c, hA, _, hK, hc⟩ := Kd.C_get hC (⟨#[]⟩ : ByteArray) (k : Int) (by omega) (by omega)
      subst hA
      have hgd : ps.getD k (⟨#[]⟩ : ByteArray) = ps[k] := by rw [List.getD_eq_getElem?_getD, List.getElem?_eq_getElem hlt]; rfl
      have hpsz := HPS.out ps[k] (List.getElem_mem hlt)
      have htk : ps.take (k + 1) = ps.take k ++ [ps[k]] := List.take_succ_eq_append_getElem hlt
      simp only [Int.toNat_natCast, hgd] at hK
      generalize ps[k] = p at *
      obtain rfl : c = [.string p] := hK
      have hx := hc 0 _ rfl
      replace hx : wr.cell? (ad.add k) = some (.string p) := by simpa [show (Kd.string).sz = 1 from rfl] using hx
      have HOW := Aside0.mk hown
      have HBW := Aside0.mk hbw
      have HRR := Aside0.mk hR
      have HTK := Aside0.mk htk
      have HD := Aside0.mk hD
      clear hown hbw hR hC hc htk hgd hD
      have HWp := Aside0.mk (HW.out p (by omega))
      have hwz : ∀ x ∈ cutOf blankB false p, x.size ≤ p.size := cut_mem_size false _ p
      have hsn : dirWords (ps.take (k + 1)) = dirWords (ps.take k) ++ [cutOf blankB false p] := by rw [HTK.out]; unfold dirWords; rw [List.map_append]; rfl
      have HSN := Aside0.mk hsn
      clear hsn
      generalize cutOf blankB false p = ws at *
      cases ws with
      | nil =>
        go_wp2_with (first | (go_at_call 31; refine (HWp.out _).mono ?_; rintro e w3 ⟨v6, rfl, hR3, hb3⟩; obtain ⟨A3, c3, hv3, hc3, hC3⟩ := Kd.R_reads hR3; subst hv3; have HB3 := Aside0.mk hb3; clear hb3 hC3 hR3))
        go_roundw
        case rel => exact ⟨k + 1, by omega, by go_num, ⟨D, (World.ownsMap.kept HOW.out (grown_of_below HB3.out none) (by simp)).mono (by omega), by rw [HSN.out]; exact (HD.out.below HB3.out).pass [] (.inl rfl)⟩, HBW.out.trans (HB3.out.mono HBW.out.size), Kd.R_below HRR.out HB3.out⟩
        case measure => simp [intOf]; omega
      | cons x xs =>
        have hxz := hwz x (by simp)
        have hlen3 : (x :: xs).length = xs.length + 1 := rfl
        have hlz : (lowBA x).size ≤ 281474976710656 := by rw [low_sizeC]; omega
        cases hfs : (firstOf (lowBA x) (dirWords (ps.take k))).isSome with
        | true =>
          go_wp2_with (first | (go_at_call 31; refine (HWp.out _).mono ?_; rintro e w3 ⟨v6, rfl, hR3, hb3⟩; obtain ⟨A3, c3, hv3, hc3, hC3⟩ := Kd.R_reads hR3; subst hv3; obtain ⟨ad3, hA3, hx3⟩ := first_cell hC3; subst hA3; have HB3 := Aside0.mk hb3; have HR3 := Aside0.mk hR3; clear hb3 hC3 hR3) | (go_at_call 32; refine (HL.out x (by omega) _).mono ?_; rintro e w5 ⟨rfl, hb5⟩; have hown5 := World.ownsMap.kept (World.ownsMap.kept HOW.out (grown_of_below HB3.out none) (by simp)) (grown_of_below hb5 none) (by simp); obtain ⟨vv, pp, hrun, hvv⟩ := hown5.look_ok (Go.Maps.string_keyed Tryd.underlying9) Tryd.underlying42 (zE _) (zd := nilD) (zp := []) rfl (kd (lowBA x) hlz); rw [HD.out.1, hfs] at hrun; have HB5 := Aside0.mk hb5; have HO5 := Aside0.mk hown5; clear hb5 hown5 hvv))
          go_roundw
          case rel => exact ⟨k + 1, by omega, by go_num, ⟨D, HO5.out.mono (by omega), by rw [HSN.out]; exact ((HD.out.below HB3.out).below HB5.out).pass (x :: xs) (.inr ⟨x, xs, rfl, hfs⟩)⟩, (HBW.out.trans (HB3.out.mono HBW.out.size)).trans (HB5.out.mono (Nat.le_trans HBW.out.size HB3.out.size)), Kd.R_below (Kd.R_below HRR.out HB3.out) HB5.out⟩
          case measure => simp [intOf]; omega
        | false =>
          go_wp2_with (first | (go_at_call 31; refine (HWp.out _).mono ?_; rintro e w3 ⟨v6, rfl, hR3, hb3⟩; obtain ⟨A3, c3, hv3, hc3, hC3⟩ := Kd.R_reads hR3; subst hv3; obtain ⟨ad3, hA3, hx3⟩ := first_cell hC3; subst hA3; have HB3 := Aside0.mk hb3; have HR3 := Aside0.mk hR3; clear hb3 hC3 hR3) | (go_at_call 32; refine (HL.out x (by omega) _).mono ?_; rintro e w5 ⟨rfl, hb5⟩; have hown5 := World.ownsMap.kept (World.ownsMap.kept HOW.out (grown_of_below HB3.out none) (by simp)) (grown_of_below hb5 none) (by simp); obtain ⟨vv, pp, hrun, hvv⟩ := hown5.look_ok (Go.Maps.string_keyed Tryd.underlying9) Tryd.underlying42 (zE _) (zd := nilD) (zp := []) rfl (kd (lowBA x) hlz); rw [HD.out.1, hfs] at hrun; have HB5 := Aside0.mk hb5; have HO5 := Aside0.mk hown5; clear hb5 hown5 hvv) | (at_mapUpdate; refine wpList_mapUpdate_own _ rfl _ _ _ 42 rfl 9 24 (Go.Maps.string_keyed Tryd.underlying9) Tryd.underlying42 heldR _ _ _ rfl HO5.out (by unfold maxLen; omega) _ _ _ rfl rfl (kd _ hlz) _ [] rfl ?_; intro w7 hown7 hgrow7))
          have hown8 : w7.ownsMap Tryd.prog 9 heldR w.heap.size (k + 1) (D.put (keyL (lowBA x)) (.held (.slice (if xs = [] then some ad3 else some ⟨ad3.block, ad3.off + 1, none⟩) xs.length xs.length))) := hown7
          clear hown7
          have hsz : w.heap.size < wr.heap.size := HOW.out.lt
          have hq5 : Kd.Q Kd.string 9 w5 wr.heap.size (fun k => k ≠ w.heap.size) (.slice (if xs = [] then some ad3 else some ⟨ad3.block, ad3.off + 1, none⟩) xs.length xs.length) xs :=
            Kd.Q_below (Kd.Q_mono (Kd.Q_bound (Q_tail HR3.out)) (fun b hb => by have := hb.2.1; omega)) HB5.out
          have hb35 : Below wr.heap.size wr w5 := HB3.out.trans (HB5.out.mono HB3.out.size)
          go_roundw
          case rel => exact ⟨k + 1, by omega, by go_num, ⟨_, hown8, by rw [HSN.out]; exact HD.out.store x xs hfs _ hb35 hq5 hgrow7 (by omega)⟩, (HBW.out.trans (hb35.mono HBW.out.size)).grown hgrow7 (Nat.le_trans HBW.out.size hb35.size) (fun b e => by cases e; exact Nat.le_refl _), Kd.R_grown (Kd.R_below HRR.out hb35) hgrow7 (fun b hb e => hb (by injection e))⟩
          case measure => simp [intOf]; omega
    · obtain rfl : k = ps.length := by omega
      rw [List.take_length] at hD
      go_wp2
      go_ret
      exact ⟨rfl, ⟨D, _, hown, hD⟩, hbw⟩
theorem grown_setCell (W : World) (b i : Nat) (v : Value) : W.grownBy (W.setCell ⟨b, i, none⟩ v) (some b) := by
  have h := (Below.refl 0 W).setCell (p := ⟨b, i, none⟩) (Nat.zero_le _) v
  exact ⟨h.os, h.tape, h.output, h.size, fun k hk hne => Below.heap_setCell W ⟨b, i, none⟩ v k (fun e => hne (by rw [e]))⟩
theorem look_held {W : World} {b n : Nat} {D : DataW Value} (hown : W.ownsMap Tryd.prog 9 heldR b n D) (s : ByteArray) (hs : s.size ≤ 281474976710656) (va : Value) (hat : D.atKey (keyL s) nilD = .held va) :
    (Instr.lookup 42 (.map (some b)) (.string s) true).run Tryd.prog W = .ok (.tuple #[va, .bool (Go.Maps.has D (keyL s))]) W := by
  have kd : keyOf Tryd.prog 9 (.string s) = some (keyL s) := WideMaps.keyOf_string_mk Tryd.underlying9 (by unfold maxLen; omega)
  have zE : (zeroValue 24).run Tryd.prog W = .ok (.slice none 0 0) W := by kernel_rfl
  obtain ⟨v, ps, hrun, hv⟩ := hown.look_ok (Go.Maps.string_keyed Tryd.underlying9) Tryd.underlying42 zE (zd := nilD) (zp := []) rfl kd
  rw [hat] at hv
  have e : v = va := by
    unfold heldR at hv
    simp only [Option.some.injEq, Prod.mk.injEq, DataW.held.injEq] at hv
    exact hv.1
  rw [e] at hrun
  exact hrun
set_option maxHeartbeats 4000000 in
set_option maxRecDepth 100000 in
theorem cspparse_One.calls (a0 : ByteArray) (r1 : Bool) (r2 : List ByteArray) (r3 : Bool) (r4 : List ByteArray) (w : World) (h : cspparse_One.f a0 = some (r1, r2, r3, r4)) :
    Calls Tryd.prog 11 #[.string a0] w fun e w' => ∃ v1_ v3_ : Value, e = .returned (.agg #[.bool r1, v1_, .bool r3, v3_]) ∧ Kd.Q Kd.string 9 w' w.heap.size (fun k_ => some k_ ≠ (v3_ : Value).ownBlock) v1_ r2 ∧ Kd.Q Kd.string 9 w' w.heap.size (fun k_ => some k_ ≠ (v1_ : Value).ownBlock) v3_ r4 ∧ Below w.heap.size w w' := by
  unfold cspparse_One.f at h
  split at h
  · rename_i hs
    simp only [Option.some.injEq, Prod.mk.injEq] at h
    obtain ⟨e1, e2, e3, e4⟩ := h
    have hd := dirs_ok a0 hs (w.alloc (.cells #[.bool false, .slice none 0 0, .bool false, .slice none 0 0] 26))
    have q0 : (w.alloc (.cells #[.bool false, .slice none 0 0, .bool false, .slice none 0 0] 26)).heap[w.heap.size]? = some (.cells #[.bool false, .slice none 0 0, .bool false, .slice none 0 0] 26 (0, 0)) := blk_new _ _
    have hB0 := below_alloc (Below.refl w.heap.size w) (.cells #[.bool false, .slice none 0 0, .bool false, .slice none 0 0] 26)
    have hsW : (w.alloc (.cells #[.bool false, .slice none 0 0, .bool false, .slice none 0 0] 26)).heap.size = w.heap.size + 1 := by simp
    generalize dirWords (partsAt a0) = ds at *
    have HD := Aside0.mk hd
    have HB0 := Aside0.mk hB0
    have Q0 := Aside0.mk q0
    clear hd hB0 q0
    go_enter Tryd.func11, Tryd.ntmps11
    go_wp2_with (fail)
    generalize w.alloc (.cells #[.bool false, .slice none 0 0, .bool false, .slice none 0 0] 26) = W0 at *
    refine HD.out.mono ?_
    rintro e w1 ⟨rfl, ⟨D, n, hown, h1, _, va, vb, h3, h4, h5, h6⟩, hb1⟩
    have hb := HB0.out.trans (hb1.mono (by omega))
    have q1 := blk_below Q0.out hb1
    obtain ⟨A1, c1, hv1, hc1⟩ := Kd.Q_slice h5
    obtain ⟨A3, c3, hv3, hc3⟩ := Kd.Q_slice h6
    have h1a := h1 ancName
    have h1b := h1 boxName
    rw [e1] at h1a
    rw [e3] at h1b
    rw [e2] at h5 hv1 hc1
    rw [e4] at h6 hv3 hc3
    have run1 := look_held hown ancName (by decide) va h3
    rw [h1a] at run1
    have hown2 : ((w1.setCell ⟨w.heap.size, 1, none⟩ va).setCell ⟨w.heap.size, 0, none⟩ (.bool r1)).ownsMap Tryd.prog 9 heldR W0.heap.size n D := World.ownsMap.kept (World.ownsMap.kept hown (grown_setCell _ _ _ _) (by simp; omega)) (grown_setCell _ _ _ _) (by simp; omega)
    have run2 := look_held hown2 boxName (by decide) vb h4
    rw [h1b] at run2
    subst hv1 hv3
    unfold ancName at run1
    unfold boxName at run2
    rw [hsW] at run1 run2
    have k0 : w1.cell? ⟨w.heap.size, 0, none⟩ = some (.bool false) := (blk_cell q1 0).trans rfl
    have k1 : w1.cell? ⟨w.heap.size, 1, none⟩ = some (.slice none 0 0) := (blk_cell q1 1).trans rfl
    have k2 : w1.cell? ⟨w.heap.size, 2, none⟩ = some (.bool false) := (blk_cell q1 2).trans rfl
    have k3 : w1.cell? ⟨w.heap.size, 3, none⟩ = some (.slice none 0 0) := (blk_cell q1 3).trans rfl
    have f0 := blk_frozen q1 0
    have f1 := blk_frozen q1 1
    have f2 := blk_frozen q1 2
    have f3 := blk_frozen q1 3
    have hq5 : Kd.Q Kd.string 9 w1 w.heap.size (fun k_ => some k_ ≠ (Value.slice A3 r4.length c3).ownBlock) (.slice A1 r2.length c1) r2 := Kd.Q_lower (Kd.Q_mono h5 (fun k hk => hk.2)) (by omega)
    have hq6 : Kd.Q Kd.string 9 w1 w.heap.size (fun k_ => some k_ ≠ (Value.slice A1 r2.length c1).ownBlock) (.slice A3 r4.length c3) r4 := Kd.Q_lower (Kd.Q_mono h6 (fun k hk => hk.2)) (by omega)
    have z0 : (w1.setCell ⟨w.heap.size, 1, none⟩ (.slice A1 r2.length c1)).heap[w.heap.size]? = some (.cells #[.bool false, .slice A1 r2.length c1, .bool false, .slice none 0 0] 26 (0, 0)) := blk_set q1 1 (.slice A1 r2.length c1)
    replace hq5 := Kd.Q_set hq5 q1 (by decide) 1 (.slice A1 r2.length c1)
    replace hq6 := Kd.Q_set hq6 q1 (by decide) 1 (.slice A1 r2.length c1)
    have z1 : ((w1.setCell ⟨w.heap.size, 1, none⟩ (.slice A1 r2.length c1)).setCell ⟨w.heap.size, 0, none⟩ (.bool r1)).heap[w.heap.size]? = some (.cells #[.bool r1, .slice A1 r2.length c1, .bool false, .slice none 0 0] 26 (0, 0)) := blk_set z0 0 (.bool r1)
    replace hq5 := Kd.Q_set hq5 z0 (by decide) 0 (.bool r1)
    replace hq6 := Kd.Q_set hq6 z0 (by decide) 0 (.bool r1)
    have z2 : (((w1.setCell ⟨w.heap.size, 1, none⟩ (.slice A1 r2.length c1)).setCell ⟨w.heap.size, 0, none⟩ (.bool r1)).setCell ⟨w.heap.size, 3, none⟩ (.slice A3 r4.length c3)).heap[w.heap.size]? = some (.cells #[.bool r1, .slice A1 r2.length c1, .bool false, .slice A3 r4.length c3] 26 (0, 0)) := blk_set z1 3 (.slice A3 r4.length c3)
    replace hq5 := Kd.Q_set hq5 z1 (by decide) 3 (.slice A3 r4.length c3)
    replace hq6 := Kd.Q_set hq6 z1 (by decide) 3 (.slice A3 r4.length c3)
    have z3 : ((((w1.setCell ⟨w.heap.size, 1, none⟩ (.slice A1 r2.length c1)).setCell ⟨w.heap.size, 0, none⟩ (.bool r1)).setCell ⟨w.heap.size, 3, none⟩ (.slice A3 r4.length c3)).setCell ⟨w.heap.size, 2, none⟩ (.bool r3)).heap[w.heap.size]? = some (.cells #[.bool r1, .slice A1 r2.length c1, .bool r3, .slice A3 r4.length c3] 26 (0, 0)) := blk_set z2 2 (.bool r3)
    replace hq5 := Kd.Q_set hq5 z2 (by decide) 2 (.bool r3)
    replace hq6 := Kd.Q_set hq6 z2 (by decide) 2 (.bool r3)
    have z4 : (((((w1.setCell ⟨w.heap.size, 1, none⟩ (.slice A1 r2.length c1)).setCell ⟨w.heap.size, 0, none⟩ (.bool r1)).setCell ⟨w.heap.size, 3, none⟩ (.slice A3 r4.length c3)).setCell ⟨w.heap.size, 2, none⟩ (.bool r3)).setCell ⟨w.heap.size, 0, none⟩ (.bool r1)).heap[w.heap.size]? = some (.cells #[.bool r1, .slice A1 r2.length c1, .bool r3, .slice A3 r4.length c3] 26 (0, 0)) := blk_set z3 0 (.bool r1)
    replace hq5 := Kd.Q_set hq5 z3 (by decide) 0 (.bool r1)
    replace hq6 := Kd.Q_set hq6 z3 (by decide) 0 (.bool r1)
    have z5 : ((((((w1.setCell ⟨w.heap.size, 1, none⟩ (.slice A1 r2.length c1)).setCell ⟨w.heap.size, 0, none⟩ (.bool r1)).setCell ⟨w.heap.size, 3, none⟩ (.slice A3 r4.length c3)).setCell ⟨w.heap.size, 2, none⟩ (.bool r3)).setCell ⟨w.heap.size, 0, none⟩ (.bool r1)).setCell ⟨w.heap.size, 1, none⟩ (.slice A1 r2.length c1)).heap[w.heap.size]? = some (.cells #[.bool r1, .slice A1 r2.length c1, .bool r3, .slice A3 r4.length c3] 26 (0, 0)) := blk_set z4 1 (.slice A1 r2.length c1)
    replace hq5 := Kd.Q_set hq5 z4 (by decide) 1 (.slice A1 r2.length c1)
    replace hq6 := Kd.Q_set hq6 z4 (by decide) 1 (.slice A1 r2.length c1)
    have z6 : (((((((w1.setCell ⟨w.heap.size, 1, none⟩ (.slice A1 r2.length c1)).setCell ⟨w.heap.size, 0, none⟩ (.bool r1)).setCell ⟨w.heap.size, 3, none⟩ (.slice A3 r4.length c3)).setCell ⟨w.heap.size, 2, none⟩ (.bool r3)).setCell ⟨w.heap.size, 0, none⟩ (.bool r1)).setCell ⟨w.heap.size, 1, none⟩ (.slice A1 r2.length c1)).setCell ⟨w.heap.size, 2, none⟩ (.bool r3)).heap[w.heap.size]? = some (.cells #[.bool r1, .slice A1 r2.length c1, .bool r3, .slice A3 r4.length c3] 26 (0, 0)) := blk_set z5 2 (.bool r3)
    replace hq5 := Kd.Q_set hq5 z5 (by decide) 2 (.bool r3)
    replace hq6 := Kd.Q_set hq6 z5 (by decide) 2 (.bool r3)
    have z7 : ((((((((w1.setCell ⟨w.heap.size, 1, none⟩ (.slice A1 r2.length c1)).setCell ⟨w.heap.size, 0, none⟩ (.bool r1)).setCell ⟨w.heap.size, 3, none⟩ (.slice A3 r4.length c3)).setCell ⟨w.heap.size, 2, none⟩ (.bool r3)).setCell ⟨w.heap.size, 0, none⟩ (.bool r1)).setCell ⟨w.heap.size, 1, none⟩ (.slice A1 r2.length c1)).setCell ⟨w.heap.size, 2, none⟩ (.bool r3)).setCell ⟨w.heap.size, 3, none⟩ (.slice A3 r4.length c3)).heap[w.heap.size]? = some (.cells #[.bool r1, .slice A1 r2.length c1, .bool r3, .slice A3 r4.length c3] 26 (0, 0)) := blk_set z6 3 (.slice A3 r4.length c3)
    replace hq5 := Kd.Q_set hq5 z6 (by decide) 3 (.slice A3 r4.length c3)
    replace hq6 := Kd.Q_set hq6 z6 (by decide) 3 (.slice A3 r4.length c3)
    have hb9 : Below w.heap.size w ((((((((w1.setCell ⟨w.heap.size, 1, none⟩ (.slice A1 r2.length c1)).setCell ⟨w.heap.size, 0, none⟩ (.bool r1)).setCell ⟨w.heap.size, 3, none⟩ (.slice A3 r4.length c3)).setCell ⟨w.heap.size, 2, none⟩ (.bool r3)).setCell ⟨w.heap.size, 0, none⟩ (.bool r1)).setCell ⟨w.heap.size, 1, none⟩ (.slice A1 r2.length c1)).setCell ⟨w.heap.size, 2, none⟩ (.bool r3)).setCell ⟨w.heap.size, 3, none⟩ (.slice A3 r4.length c3)) := ((((((((hb.setCell (p := ⟨w.heap.size, 1, none⟩) (Nat.le_refl _) (.slice A1 r2.length c1)).setCell (p := ⟨w.heap.size, 0, none⟩) (Nat.le_refl _) (.bool r1)).setCell (p := ⟨w.heap.size, 3, none⟩) (Nat.le_refl _) (.slice A3 r4.length c3)).setCell (p := ⟨w.heap.size, 2, none⟩) (Nat.le_refl _) (.bool r3)).setCell (p := ⟨w.heap.size, 0, none⟩) (Nat.le_refl _) (.bool r1)).setCell (p := ⟨w.heap.size, 1, none⟩) (Nat.le_refl _) (.slice A1 r2.length c1)).setCell (p := ⟨w.heap.size, 2, none⟩) (Nat.le_refl _) (.bool r3)).setCell (p := ⟨w.heap.size, 3, none⟩) (Nat.le_refl _) (.slice A3 r4.length c3))
    have Q5 := Aside0.mk hq5
    have Q6 := Aside0.mk hq6
    have HB9 := Aside0.mk hb9
    have Z7 := Aside0.mk z7
    clear hq5 hq6 hb9 z0 z1 z2 z3 z4 z5 z6 z7 h3 h4 h5 h6 hown hown2 h1 h1a h1b hb hb1 q1 HD HB0 Q0 e1 e2 e3 e4
    go_wp2
    have z7 := Z7.out
    have hb9 := HB9.out
    have hq5 := Q5.out
    have hq6 := Q6.out
    clear Z7 HB9 Q5 Q6 run1 run2 k0 k1 k2 k3 f0 f1 f2 f3
    generalize ((((((((w1.setCell ⟨w.heap.size, 1, none⟩ (.slice A1 r2.length c1)).setCell ⟨w.heap.size, 0, none⟩ (.bool r1)).setCell ⟨w.heap.size, 3, none⟩ (.slice A3 r4.length c3)).setCell ⟨w.heap.size, 2, none⟩ (.bool r3)).setCell ⟨w.heap.size, 0, none⟩ (.bool r1)).setCell ⟨w.heap.size, 1, none⟩ (.slice A1 r2.length c1)).setCell ⟨w.heap.size, 2, none⟩ (.bool r3)).setCell ⟨w.heap.size, 3, none⟩ (.slice A3 r4.length c3)) = W6 at *
    have kk0 : W6.cell? ⟨w.heap.size, 0, none⟩ = some (.bool r1) := (blk_cell z7 0).trans rfl
    have kk1 : W6.cell? ⟨w.heap.size, 1, none⟩ = some (.slice A1 r2.length c1) := (blk_cell z7 1).trans rfl
    have kk2 : W6.cell? ⟨w.heap.size, 2, none⟩ = some (.bool r3) := (blk_cell z7 2).trans rfl
    have kk3 : W6.cell? ⟨w.heap.size, 3, none⟩ = some (.slice A3 r4.length c3) := (blk_cell z7 3).trans rfl
    exact bodyPost_ret (v := .agg #[.bool r1, .slice A1 r2.length c1, .bool r3, .slice A3 r4.length c3]) (by simp [results, Tryd.results11, go_sem, kk0, kk1, kk2, kk3]) rfl ⟨_, _, rfl, hq5, hq6, hb9⟩
  · cases h



/-! ### octet_Fold: function 46 -/
def octet_Fold.f (a0 : ByteArray) (a1 : ByteArray) : Option (Bool) := (octet_Lower.f a0).bind fun t101 => ((octet_Lower.f a1).bind fun t102 => (some (t101.toList == t102.toList)))
set_option maxHeartbeats 8000000 in
set_option maxRecDepth 100000 in
theorem octet_Fold.calls (a0 : ByteArray) (a1 : ByteArray) (r : Bool) (w : World) (h : octet_Fold.f a0 a1 = some r) :
    Calls Tryd.prog 46 #[.string a0, .string a1] w fun e w' => e = .returned (.bool r) ∧ Below w.heap.size w w' := by
  have HB := Aside0.mk (Below.refl w.heap.size w)
  have H : ((octet_Lower.f a0).bind fun t101 => ((octet_Lower.f a1).bind fun t102 => (some (t101.toList == t102.toList)))) = some r := h
  clear h
  replace H := Option.bind_eq_some_iff.mp H
  obtain ⟨t101, A30, H⟩ := H
  replace H : ((octet_Lower.f a1).bind fun t102 => (some (t101.toList == t102.toList))) = some r := H
  have A3 := Aside0.mk A30
  clear A30
  replace H := Option.bind_eq_some_iff.mp H
  obtain ⟨t102, A40, H⟩ := H
  replace H : (some (t101.toList == t102.toList)) = some r := H
  have A4 := Aside0.mk A40
  clear A40
  obtain rfl := Option.some.inj H
  go_enter Tryd.func46, Tryd.ntmps46
  go_wp2_with (first | ((with_reducible refine gate_callee (f := 32) rfl ?_); refine goesL_ (some 6) rfl rfl Tryd.func32 (by kernel_rfl) rfl #[.string a0] rfl (by (try simp only [List.map_toArray, List.map_cons, List.map_nil]); first | done | rfl | (simp only [List.length_drop, List.length_take]; rfl)) ?_; (with_reducible refine (octet_Lower.calls a0 t101 _ A3.out).mono ?_); rintro e w5 ⟨rfl, hb⟩; refine ⟨_, rfl, ?_⟩; have n0_ := Aside0.mk (below_step (by repeat (first | (with_reducible first | exact HB.out | apply below_alloc | apply pw_below_drewN | apply below_drew1) | exact HB.out)) hb); clear HB; have HB := n0_; clear n0_; (try clear hb); (try clear hb2); (try clear hk); (try clear hi)) | ((with_reducible refine gate_callee (f := 32) rfl ?_); refine goesL_ (some 8) rfl rfl Tryd.func32 (by kernel_rfl) rfl #[.string a1] rfl (by (try simp only [List.map_toArray, List.map_cons, List.map_nil]); first | done | rfl | (simp only [List.length_drop, List.length_take]; rfl)) ?_; (with_reducible refine (octet_Lower.calls a1 t102 _ A4.out).mono ?_); rintro e w6 ⟨rfl, hb⟩; refine ⟨_, rfl, ?_⟩; have n0_ := Aside0.mk (below_step (by repeat (first | (with_reducible first | exact HB.out | apply below_alloc | apply pw_below_drewN | apply below_drew1) | exact HB.out)) hb); clear HB; have HB := n0_; clear n0_; (try clear hb); (try clear hb2); (try clear hk); (try clear hi)))
  go_ret
  exact ⟨by first | rfl | (simp [errW_none, errW_some] <;> rfl) | (simp [*, errW_none, errW_some] <;> rfl) | (simp [q_ne_nil]; done), by repeat (first | (with_reducible first | exact HB.out | apply below_alloc | apply pw_below_drewN | apply below_drew1) | exact HB.out)⟩

/-! ### octet_Trim: function 47 -/
def trimBA (s : ByteArray) : ByteArray := ⟨(Lib.trimS s.data.toList [9, 10, 12, 13, 32]).toArray⟩
def octet_Trim.f (a0 : ByteArray) : Option ByteArray := if a0.size ≤ 281474976710656 then some (trimBA a0) else none
set_option maxHeartbeats 1000000 in
theorem octet_Trim.calls (a0 : ByteArray) (r : ByteArray) (w : World) (h : octet_Trim.f a0 = some r) :
    Calls Tryd.prog 47 #[.string a0] w fun e w' => e = .returned (.string r) ∧ Below w.heap.size w w' := by
  unfold octet_Trim.f at h
  split at h
  · rename_i hsz
    obtain rfl := Option.some.inj h
    clear h
    have hcon := Any.strings_Trim_laid Tryd.lays160 (by kernel_rfl) a0 ⟨#[9, 10, 12, 13, 32]⟩ w (by omega) (by decide) (ascii_of_all (by decide))
    change Calls Tryd.prog 51 _ _ (fun e w' => e = .returned (.string (trimBA a0)) ∧ Below w.heap.size w w') at hcon
    generalize trimBA a0 = r at hcon ⊢
    go_enter Tryd.func47, Tryd.ntmps47
    go_wp2_with (go_at_call 51; refine hcon.mono ?_; rintro e w' ⟨rfl, hB⟩)
    go_ret
    exact ⟨rfl, hB⟩
  · cases h


end Go.Proofs.YtkjlhhhnananlaaDoor.Q
