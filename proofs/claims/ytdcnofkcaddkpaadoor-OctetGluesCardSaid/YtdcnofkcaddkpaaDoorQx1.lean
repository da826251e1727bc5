-- Laid by this seat's own driver (wip/tools/drive.py) out of the translation.
import Derived.Test.YtdcnofkcaddkpaaDoorQx0
namespace Go.Proofs.YtdcnofkcaddkpaaDoor.Q
open Go.RowKit Go.Proofs.YtdcnofkcaddkpaaDoorW.PrintWords Go.Proofs.YtdcnofkcaddkpaaDoorW.PrintLast Go.Proofs.YtdcnofkcaddkpaaDoorW.PrintMore
attribute [local go_sem] max2_int min2_int max_two min_two max_three min_three max_four min_four   -- for this text's walks alone
set_option linter.unusedVariables false
set_option linter.unusedSimpArgs false

/-! ### octet_Lower: function 12 -/
/-- A letter A to Z made small. -/
def lowByte (c : Int) : Int := if 65 ≤ c ∧ c ≤ 90 then c + 32 else c
def lowBA (s : ByteArray) : ByteArray := strOfNums ((bytesOf s).map lowByte)
theorem lowByte_range (c : Int) (h0 : 0 ≤ c) (h1 : c ≤ 255) : 0 ≤ lowByte c ∧ lowByte c ≤ 255 := by
  unfold lowByte; split <;> omega
/-- The world after k rounds of making small: the new row's bytes below k are small, the others as they came. -/
structure LowAt (w W : World) (s : ByteArray) (k : Nat) : Prop where
  below : Below w.heap.size w W
  size : W.heap.size = w.heap.size + 1
  cell : ∀ j, j < s.size → W.cell? ⟨w.heap.size, j, none⟩ = some (.int .u8 (if j < k then lowByte (bt s j) else bt s j))
  free : ∀ j, j < s.size → W.frozen? ⟨w.heap.size, j, none⟩ = false
theorem bt_nat (s : ByteArray) (j : Nat) : bt s (j : Int) = ((s.data.toList.getD j 0).toNat : Int) := by
  unfold bt
  split
  · rename_i h
    have h' : j < s.data.toList.length := by rw [data_length]; simpa using h
    simp [List.getD_eq_getElem?_getD, List.getElem?_eq_getElem h']
    rfl
  · rename_i h
    have h' : s.data.toList.length ≤ j := by rw [data_length]; simp at h; omega
    simp [List.getD_eq_getElem?_getD, List.getElem?_eq_none h']
theorem LowAt.start (w : World) (e : TypeId) (s : ByteArray) : LowAt w (Lib.bytesWorld w e s) s 0 where
  below := bytes_below (Below.refl _ _) (Nat.le_refl _) e s
  size := Lib.bytesWorld_size w e s
  cell := fun j hj => by rw [Lib.bytesWorld_cell w e s j hj, if_neg (by omega), bt_nat]
  free := fun j hj => by
    have h1 : s.size ≤ (Lib.bytesCells w e s).size := by
      simp only [Lib.bytesCells, Array.size_append, Array.size_map]
      exact Nat.le_add_right _ _
    simp [World.frozen?, Lib.bytesWorld_at_new]
    omega
theorem LowAt.drew {w W : World} {s : ByteArray} {k : Nat} (h : LowAt w W s k) : LowAt w W.drew s k :=
  ⟨below_drew h.below, h.size, h.cell, h.free⟩
theorem LowAt.same {w W : World} {s : ByteArray} {k : Nat} (h : LowAt w W s k) (hs : lowByte (bt s k) = bt s k) : LowAt w W s (k + 1) where
  below := h.below
  size := h.size
  cell := fun j hj => by
    rw [h.cell j hj]
    rcases Nat.lt_trichotomy j k with h1 | h1 | h1
    · rw [if_pos h1, if_pos (by omega)]
    · subst h1; rw [if_neg (by omega), if_pos (by omega), hs]
    · rw [if_neg (by omega), if_neg (by omega)]
  free := h.free
theorem LowAt.store {w W : World} {s : ByteArray} {k : Nat} (h : LowAt w W s k) (hk : k < s.size) : LowAt w (W.setCell ⟨w.heap.size, k, none⟩ (.int .u8 (lowByte (bt s k)))) s (k + 1) where
  below := h.below.setCell (Nat.le_refl _) _
  size := by rw [← h.size]; simp [World.setCell]
  cell := fun j hj => by
    by_cases e : j = k
    · subst e; rw [World.cell?_setCell_same _ _ _ (h.cell j hj), if_pos (by omega)]
    · rw [World.cell?_setCell_other _ _ _ _ (by intro e'; injection e' with _ e' _; exact e e'.symm), h.cell j hj]
      by_cases h1 : j < k
      · rw [if_pos h1, if_pos (by omega)]
      · rw [if_neg h1, if_neg (by omega)]
  free := fun j hj => by rw [← h.free j hj]; simp [go_sem]
theorem LowAt.done {P : Program} {src dst e : TypeId} (hs : P.underlying src = some (.slice e)) (he : P.underlying e = some (.int .u8)) (hd : P.underlying dst = some .string)
    {w W : World} {s : ByteArray} (h : LowAt w W s s.size) (c : Nat) :
    (convert src dst (.slice (some ⟨w.heap.size, 0, none⟩) s.size c)).run P W = .ok (.string (lowBA s)) W := by
  refine run_convert_bytes_arg W src e hs he w.heap.size 0 s.size c _ (by rw [List.length_map, bytesOf_length]) (fun i hi => ?_) dst hd
  rw [Nat.zero_add, h.cell i hi, if_pos hi]
  have h1 : i < (bytesOf s).length := by rw [bytesOf_length]; exact hi
  have h2 : rd (bytesOf s) i = bt s i := rd_bytesOf s i
  simp only [rd, Int.toNat_natCast] at h2
  rw [List.getD_eq_getElem?_getD, List.getElem?_map, ← h2, List.getD_eq_getElem?_getD]
  simp [List.getElem?_eq_getElem h1]
theorem low_or : ∀ c : Int, 65 ≤ c → c ≤ 90 → Go.bits .or .u8 c 32 = c + 32 := by
  intro c h0 h1
  obtain ⟨n, rfl⟩ := Int.eq_ofNat_of_zero_le (by omega : 0 ≤ c)
  have h2 : n < 91 := by omega
  have h3 : 65 ≤ n := by omega
  revert h3
  exact (by decide : ∀ n : Nat, n < 91 → 65 ≤ n → Go.bits .or .u8 (n : Int) 32 = (n : Int) + 32) n h2
def octet_Lower.f (a0 : ByteArray) : Option ByteArray := if a0.size ≤ 281474976710656 then some (lowBA a0) else none
set_option maxHeartbeats 1000000 in
set_option maxRecDepth 100000 in
theorem octet_Lower.calls (a0 : ByteArray) (r : ByteArray) (w : World) (h : octet_Lower.f a0 = some r) :
    Calls Tryd.prog 12 #[.string a0] w fun e w' => e = .returned (.string r) ∧ Below w.heap.size w w' := by
  unfold octet_Lower.f at h
  split at h
  · rename_i hsz
    obtain rfl := Option.some.inj h
    clear h
    have kb := fun W => print_bytes (P := Tryd.prog) 9 34 5 Tryd.underlying9 Tryd.underlying34 Tryd.underlying5 a0 W
    go_enter Tryd.func12, Tryd.ntmps12
    go_wp2
    generalize grownCap w a0.size 0 5 = cap
    go_loopw [4, 5, 10] (fun v4 v5 v10 wr => ∃ k : Nat, k ≤ a0.size ∧ v10 = .int .i64 k ∧ LowAt w wr a0 k) (fun v4 v5 v10 _ => a0.size - (intOf v10).toNat)
    case atStart => exact ⟨0, Nat.zero_le _, rfl, LowAt.start w _ a0⟩
    case round =>
      clear kb
      obtain ⟨k, hk, rfl, hL⟩ := hrel
      by_cases hlt : k < a0.size
      · have hcell : wr.cell? ⟨w.heap.size, k, none⟩ = some (.int .u8 (bt a0 k)) := by rw [hL.cell k hlt, if_neg (by omega)]
        have hfree := hL.free k hlt
        obtain ⟨hb0, hb1⟩ := bt_range a0 k
        have hS := Aside0.mk (hL.store hlt)
        have hN := Aside0.mk (fun e => hL.same (k := k) e)
        generalize hc : bt a0 k = c at hcell hb0 hb1 hS hN
        clear hc
        have HL := Aside0.mk hL
        clear hL
        by_cases hu1 : 65 ≤ c
        · by_cases hu2 : c ≤ 90
          · have hl : lowByte c = c + 32 := by unfold lowByte; rw [if_pos ⟨hu1, hu2⟩]
            have hor := low_or c hu1 hu2
            rw [hl] at hS
            clear hl hN
            go_wp2
            go_roundw
            case rel => exact ⟨k + 1, by omega, by go_num, hS.out⟩
            case measure => simp [intOf]; omega
          · have hl : lowByte c = c := by unfold lowByte; rw [if_neg (by omega)]
            clear hS
            have hN' := Aside0.mk (hN.out hl)
            clear hN hl
            go_wp2
            go_roundw
            case rel => exact ⟨k + 1, by omega, by go_num, hN'.out⟩
            case measure => simp [intOf]; omega
        · have hl : lowByte c = c := by unfold lowByte; rw [if_neg (by omega)]
          clear hS
          have hN' := Aside0.mk (hN.out hl)
          clear hN hl
          go_wp2
          go_roundw
          case rel => exact ⟨k + 1, by omega, by go_num, hN'.out⟩
          case measure => simp [intOf]; omega
      · obtain rfl : k = a0.size := by omega
        have hd := fun c => hL.done (P := Tryd.prog) (src := 34) (dst := 9) (e := 5) Tryd.underlying34 Tryd.underlying5 Tryd.underlying9 c
        go_wp2
        go_ret
        exact ⟨rfl, hL.below⟩
  · cases h


/-! ### octet_Trim: function 14 -/
def trimBA (s : ByteArray) : ByteArray := ⟨(Lib.trimS s.data.toList [9, 10, 12, 13, 32]).toArray⟩
def octet_Trim.f (a0 : ByteArray) : Option ByteArray := if a0.size ≤ 281474976710656 then some (trimBA a0) else none
set_option maxHeartbeats 1000000 in
theorem octet_Trim.calls (a0 : ByteArray) (r : ByteArray) (w : World) (h : octet_Trim.f a0 = some r) :
    Calls Tryd.prog 14 #[.string a0] w fun e w' => e = .returned (.string r) ∧ Below w.heap.size w w' := by
  unfold octet_Trim.f at h
  split at h
  · rename_i hsz
    obtain rfl := Option.some.inj h
    clear h
    have hcon := Any.strings_Trim_laid Tryd.lays160 (by kernel_rfl) a0 ⟨#[9, 10, 12, 13, 32]⟩ w (by omega) (by decide) (ascii_of_all (by decide))
    change Calls Tryd.prog 28 _ _ (fun e w' => e = .returned (.string (trimBA a0)) ∧ Below w.heap.size w w') at hcon
    generalize trimBA a0 = r at hcon ⊢
    go_enter Tryd.func14, Tryd.ntmps14
    go_wp2_with (go_at_call 28; refine hcon.mono ?_; rintro e w' ⟨rfl, hB⟩)
    go_ret
    exact ⟨rfl, hB⟩
  · cases h


/-! ### octet_Fold: function 16 -/
def octet_Fold.f (a0 : ByteArray) (a1 : ByteArray) : Option (Bool) := (octet_Lower.f a0).bind fun t101 => ((octet_Lower.f a1).bind fun t102 => (some (t101.toList == t102.toList)))
set_option maxHeartbeats 8000000 in
set_option maxRecDepth 100000 in
theorem octet_Fold.calls (a0 : ByteArray) (a1 : ByteArray) (r : Bool) (w : World) (h : octet_Fold.f a0 a1 = some r) :
    Calls Tryd.prog 16 #[.string a0, .string a1] w fun e w' => e = .returned (.bool r) ∧ Below w.heap.size w w' := by
  have HB := Aside0.mk (Below.refl w.heap.size w)
  have H : ((octet_Lower.f a0).bind fun t101 => ((octet_Lower.f a1).bind fun t102 => (some (t101.toList == t102.toList)))) = some r := h
  clear h
  replace H := Option.bind_eq_some_iff.mp H
  obtain ⟨t101, A30, H⟩ := H
  replace H : ((octet_Lower.f a1).bind fun t102 => (some (t101.toList == t102.toList))) = some r := H
  have A3 := Aside0.mk A30
  clear A30
  replace H := Option.bind_eq_some_iff.mp H
  obtain ⟨t102, A40, H⟩ := H
  replace H : (some (t101.toList == t102.toList)) = some r := H
  have A4 := Aside0.mk A40
  clear A40
  obtain rfl := Option.some.inj H
  go_enter Tryd.func16, Tryd.ntmps16
  go_wp2_with (first | ((with_reducible refine gate_callee (f := 12) rfl ?_); refine goesL_ (some 6) rfl rfl Tryd.func12 (by kernel_rfl) rfl #[.string a0] rfl (by (try simp only [List.map_toArray, List.map_cons, List.map_nil]); first | done | rfl | (simp only [List.length_drop, List.length_take]; rfl)) ?_; (with_reducible refine (octet_Lower.calls a0 t101 _ A3.out).mono ?_); rintro e w5 ⟨rfl, hb⟩; refine ⟨_, rfl, ?_⟩; have n0_ := Aside0.mk (below_step (by repeat (first | (with_reducible first | exact HB.out | apply below_alloc | apply pw_below_drewN | apply below_drew1) | exact HB.out)) hb); clear HB; have HB := n0_; clear n0_; (try clear hb); (try clear hb2); (try clear hk); (try clear hi)) | ((with_reducible refine gate_callee (f := 12) rfl ?_); refine goesL_ (some 8) rfl rfl Tryd.func12 (by kernel_rfl) rfl #[.string a1] rfl (by (try simp only [List.map_toArray, List.map_cons, List.map_nil]); first | done | rfl | (simp only [List.length_drop, List.length_take]; rfl)) ?_; (with_reducible refine (octet_Lower.calls a1 t102 _ A4.out).mono ?_); rintro e w6 ⟨rfl, hb⟩; refine ⟨_, rfl, ?_⟩; have n0_ := Aside0.mk (below_step (by repeat (first | (with_reducible first | exact HB.out | apply below_alloc | apply pw_below_drewN | apply below_drew1) | exact HB.out)) hb); clear HB; have HB := n0_; clear n0_; (try clear hb); (try clear hb2); (try clear hk); (try clear hi)))
  go_ret
  exact ⟨by first | rfl | (simp [errW_none, errW_some] <;> rfl) | (simp [*, errW_none, errW_some] <;> rfl) | (simp [q_ne_nil]; done), by repeat (first | (with_reducible first | exact HB.out | apply below_alloc | apply pw_below_drewN | apply below_drew1) | exact HB.out)⟩

/-! ### octet_cut: function 30 -/
/-- The parts that are shut after i bytes, and where the next one begins. -/
def cutSt (p : Int → Bool) (s : ByteArray) : Nat → List ByteArray × Nat
  | 0 => ([], 0)
  | i + 1 => if p (bt s i) = true then ((cutSt p s i).1 ++ [s.extract (cutSt p s i).2 i], i + 1) else cutSt p s i
theorem cutSt_le (p : Int → Bool) (s : ByteArray) (i : Nat) : (cutSt p s i).2 ≤ i := by
  induction i with
  | zero => exact Nat.le_refl _
  | succ i ih => unfold cutSt; split <;> (try simp) <;> omega
theorem cutSt_len (p : Int → Bool) (s : ByteArray) (i : Nat) : (cutSt p s i).1.length ≤ i := by
  induction i with
  | zero => exact Nat.le_refl _
  | succ i ih => unfold cutSt; split <;> (try simp) <;> omega
def keepPart (empty : Bool) (x : ByteArray) : Bool := empty || !x.toList.isEmpty
def keepParts (empty : Bool) (l : List ByteArray) : List ByteArray := l.filter (keepPart empty)
theorem keepParts_snoc (empty : Bool) (l : List ByteArray) (x : ByteArray) : keepParts empty (l ++ [x]) = keepParts empty l ++ (if keepPart empty x = true then [x] else []) := by
  unfold keepParts
  rw [List.filter_append]
  by_cases h : keepPart empty x = true <;> simp [h]
theorem keepParts_len (empty : Bool) (l : List ByteArray) : (keepParts empty l).length ≤ l.length := List.length_filter_le _ _
def cutOf (p : Int → Bool) (empty : Bool) (s : ByteArray) : List ByteArray := keepParts empty ((cutSt p s s.size).1 ++ [s.extract (cutSt p s s.size).2 s.size])
/-- What the gathering closure's variables are like: the box of 'empty', the box of 'out', and the row that 'out' holds. -/
structure CutAt (w W : World) (be bo : Nat) (empty : Bool) (xs : List ByteArray) : Prop where
  below : Below w.heap.size w W
  ge : w.heap.size ≤ bo
  ebox : W.heap[be]? = some (.cells #[.bool empty] 4 (0, 0))
  obox : ∃ v : Value, W.heap[bo]? = some (.cells #[v] 26 (0, 0)) ∧ Kd.R Kd.string 9 W w.heap.size (fun _ => True) v xs
theorem CutAt.drewN {w W : World} {be bo : Nat} {empty : Bool} {xs : List ByteArray} (h : CutAt w W be bo empty xs) (n : Nat) : CutAt w (W.drewN n) be bo empty xs := by
  obtain ⟨h1, h2, h3, v, h4, h5⟩ := h
  exact ⟨pw_below_drewN h1 n, h2, h3, v, h4, Kd.R_drewN h5 n⟩
set_option maxHeartbeats 1000000 in
set_option maxRecDepth 100000 in
theorem put_keeps (w W : World) (be bo : Nat) (empty : Bool) (xs : List ByteArray) (p : ByteArray) (h : CutAt w W be bo empty xs) (hl : xs.length < 8796093022207) (hk : keepPart empty p = true) :
    Calls Tryd.prog 44 #[.string p, .pointer (some ⟨be, 0, none⟩), .pointer (some ⟨bo, 0, none⟩)] W fun e w' => e = .returned (.tuple #[]) ∧ CutAt w w' be bo empty (xs ++ [p]) := by
  obtain ⟨hB, hge, he, v, ho, hr⟩ := h
  have hec := blk_cell he 0
  have hoc := blk_cell ho 0
  have hofr := blk_frozen ho 0
  simp only [List.getElem?_toArray, List.getElem?_cons_zero] at hec hoc
  have hne := blk_ne he ho (by decide)
  have HE := Aside0.mk he
  have HO := Aside0.mk ho
  have HR := Aside0.mk hr
  have HB := Aside0.mk hB
  clear he ho hr hB
  cases empty with
  | true =>
    clear hk
    go_enter Tryd.func44, Tryd.ntmps44
    go_wp2_with (first | ((with_reducible refine gate_builtin (b := .append) (xs := #[.tmp 9, .tmp 11]) rfl ?_); at_builtin; refine Kd.R_append Kd.string (w0 := w) w.heap.size rfl (.tmp 9) (.tmp 11) 26 9 (.string ⟨#[]⟩) 16 rfl Tryd.underlying26 info9 rfl (by decide) (by omega) v xs p [.string p] (fun _ => True) (fun _ => False) rfl rfl ?aP (fun _ hk => hk.elim) ?aF ?aO ?aB ?aS ?aL ?_; (case aP => exact rfl); (case aB => exact HB.out); (case aF => exact (fun _ _ => trivial)); (case aO => exact HR.out); (case aS => exact HB.out.size); (case aL => omega); intro v1 w1 ho1 hb1 hg1 hat1; obtain ⟨A1, c1, hv1⟩ := Kd.R_slice ho1; generalize (xs ++ [p]).length = n1 at hv1; subst hv1; have hq := blk_grown HO.out hg1 (Kd.R_ne HR.out HO.out (by decide)); have hqe := blk_grown HE.out hg1 (Kd.R_ne HR.out HE.out (by decide)); have hqc := blk_cell hq 0; have hqf := blk_frozen hq 0; simp only [List.getElem?_toArray, List.getElem?_cons_zero] at hqc; have HO1 := Aside0.mk ho1; have HB1 := Aside0.mk hb1; have HQ := Aside0.mk hq; have HQE := Aside0.mk hqe; clear ho1 hb1 hg1 hat1 hq hqe))
    go_end0
    exact ⟨rfl, HB1.out.setCell hge _, hge, blk_far HQE.out hne _, .slice A1 n1 c1, blk_put HQ.out 0 _ rfl, Kd.R_set HO1.out HQ.out (by decide) 0 _⟩
  | false =>
    have hp : p.toList.isEmpty = false := by simpa [keepPart] using hk
    have hp2 : ¬ p.toList = [] := by intro e; rw [e] at hp; cases hp
    clear hk
    go_enter Tryd.func44, Tryd.ntmps44
    go_wp2_with (first | ((with_reducible refine gate_builtin (b := .append) (xs := #[.tmp 9, .tmp 11]) rfl ?_); at_builtin; refine Kd.R_append Kd.string (w0 := w) w.heap.size rfl (.tmp 9) (.tmp 11) 26 9 (.string ⟨#[]⟩) 16 rfl Tryd.underlying26 info9 rfl (by decide) (by omega) v xs p [.string p] (fun _ => True) (fun _ => False) rfl rfl ?aP (fun _ hk => hk.elim) ?aF ?aO ?aB ?aS ?aL ?_; (case aP => exact rfl); (case aB => exact HB.out); (case aF => exact (fun _ _ => trivial)); (case aO => exact HR.out); (case aS => exact HB.out.size); (case aL => omega); intro v1 w1 ho1 hb1 hg1 hat1; obtain ⟨A1, c1, hv1⟩ := Kd.R_slice ho1; generalize (xs ++ [p]).length = n1 at hv1; subst hv1; have hq := blk_grown HO.out hg1 (Kd.R_ne HR.out HO.out (by decide)); have hqe := blk_grown HE.out hg1 (Kd.R_ne HR.out HE.out (by decide)); have hqc := blk_cell hq 0; have hqf := blk_frozen hq 0; simp only [List.getElem?_toArray, List.getElem?_cons_zero] at hqc; have HO1 := Aside0.mk ho1; have HB1 := Aside0.mk hb1; have HQ := Aside0.mk hq; have HQE := Aside0.mk hqe; clear ho1 hb1 hg1 hat1 hq hqe))
    go_end0
    exact ⟨rfl, HB1.out.setCell hge _, hge, blk_far HQE.out hne _, .slice A1 n1 c1, blk_put HQ.out 0 _ rfl, Kd.R_set HO1.out HQ.out (by decide) 0 _⟩
set_option maxHeartbeats 1000000 in
set_option maxRecDepth 100000 in
theorem put_drops (w W : World) (be bo : Nat) (xs : List ByteArray) (p : ByteArray) (h : CutAt w W be bo false xs) (hk : keepPart false p = false) :
    Calls Tryd.prog 44 #[.string p, .pointer (some ⟨be, 0, none⟩), .pointer (some ⟨bo, 0, none⟩)] W fun e w' => e = .returned (.tuple #[]) ∧ w' = W := by
  obtain ⟨hB, hge, he, v, ho, hr⟩ := h
  have hec := blk_cell he 0
  simp only [List.getElem?_toArray, List.getElem?_cons_zero] at hec
  clear he ho hr hB
  have hp : p.toList = [] := by simpa [keepPart] using hk
  clear hk
  go_enter Tryd.func44, Tryd.ntmps44
  go_wp2
  go_end0
  exact ⟨rfl, rfl⟩
theorem put_calls (w W : World) (be bo : Nat) (empty : Bool) (xs : List ByteArray) (p : ByteArray) (h : CutAt w W be bo empty xs) (hl : xs.length < 8796093022207) :
    Calls Tryd.prog 44 #[.string p, .pointer (some ⟨be, 0, none⟩), .pointer (some ⟨bo, 0, none⟩)] W fun e w' => e = .returned (.tuple #[]) ∧ CutAt w w' be bo empty (xs ++ (if keepPart empty p = true then [p] else [])) := by
  by_cases hk : keepPart empty p = true
  · rw [if_pos hk]; exact put_keeps w W be bo empty xs p h hl hk
  · rw [if_neg hk, List.append_nil]
    cases empty with
    | true => exact absurd (by simp [keepPart]) hk
    | false => exact (put_drops w W be bo xs p h (by simpa using hk)).mono fun e w' ⟨h1, h2⟩ => ⟨h1, by subst h2; exact h⟩
set_option maxHeartbeats 2000000 in
set_option maxRecDepth 100000 in
theorem cut_calls (g : Nat) (lb : Array Value) (p : Int → Bool) (empty : Bool) (a0 : ByteArray) (w : World) (hsz : a0.size ≤ 8796093022200)
    (eg : ∀ (args : Array Value) (w : World), (callFunc g args).run Tryd.prog w = .ok (.enter g args) w)
    (hp : ∀ (W : World) (c : Int), 0 ≤ c → c ≤ 255 → Below w.heap.size w W → Calls Tryd.prog g (#[.int .u8 c] ++ lb) W fun e w' => e = .returned (.bool (p c)) ∧ ∃ q, w' = W.drewN q) :
    Calls Tryd.prog 30 #[.string a0, .func (.func g) #[] lb, .bool empty] w fun e w' => ∃ v0_ : Value, e = .returned v0_ ∧ Kd.R Kd.string 9 w' w.heap.size (fun _ => True) v0_ (cutOf p empty a0) ∧ Below w.heap.size w w' := by
  have hmf : ∀ (fn : Fn) (first cap : Array Value) (w : World), (Instr.makeFunc fn first cap).run Tryd.prog w = .ok (.func fn first cap) w := fun _ _ _ _ => rfl
  have HP := Aside0.mk hp
  clear hp
  have h0 : CutAt w ((w.alloc (.cells #[.bool empty] 4)).alloc (.cells #[.slice none 0 0] 26)) w.heap.size (w.heap.size + 1) empty (keepParts empty (cutSt p a0 0).1) := by
    refine ⟨((Below.refl _ _).alloc (Nat.le_refl _) _).alloc (by simp) _, by omega, blk_alloc (blk_new _ _) _, .slice none 0 0, ?_, Kd.R_nil _ _ _ _ _⟩
    have := blk_new (w.alloc (.cells #[.bool empty] 4)) (.cells #[.slice none 0 0] 26)
    simpa using this
  have H0 := Aside0.mk h0
  clear h0
  go_enter Tryd.func30, Tryd.ntmps30
  go_wp2
  go_loopw [9, 10, 14] (fun v9 v10 v14 wr => ∃ k : Nat, k ≤ a0.size ∧ v14 = .int .i64 k ∧ v9 = .int .i64 (cutSt p a0 k).2 ∧ CutAt w wr w.heap.size (w.heap.size + 1) empty (keepParts empty (cutSt p a0 k).1)) (fun _ _ v14 _ => a0.size - (intOf v14).toNat)
  case atStart => exact ⟨0, Nat.zero_le _, rfl, rfl, H0.out⟩
  case round =>
    clear H0
    obtain ⟨k, hk, rfl, rfl, hC⟩ := hrel
    by_cases hlt : k < a0.size
    · have hx : ∀ h : k < a0.size, ((a0[k]'h).toNat : Int) = bt a0 k := fun h => by have := bt_at a0 k (by simpa using h); simpa using this
      obtain ⟨hb0, hb1⟩ := bt_range a0 k
      have hfr := cutSt_le p a0 k
      have hln := keepParts_len empty (cutSt p a0 k).1
      have hln2 := cutSt_len p a0 k
      have hS : cutSt p a0 (k + 1) = if p (bt a0 k) = true then ((cutSt p a0 k).1 ++ [a0.extract (cutSt p a0 k).2 k], k + 1) else cutSt p a0 k := rfl
      have hcall := HP.out wr (bt a0 k) hb0 hb1 hC.below
      clear HP
      generalize bt a0 k = c at *
      cases hpk : p c with
      | true =>
        rw [hpk] at hcall hS
        rw [if_pos rfl] at hS
        have HS := Aside0.mk hS
        clear hS hpk
        generalize hxs : (cutSt p a0 k).1 = ps at *
        generalize hfm : (cutSt p a0 k).2 = fr at *
        clear hxs hfm
        have hput := fun n => put_calls w (wr.drewN n) _ _ empty (keepParts empty ps) (a0.extract fr k) (hC.drewN n) (by omega)
        have HCA := Aside0.mk hcall
        have HPU := Aside0.mk hput
        clear hcall hput hC
        go_wp2_with (first | (go_at_fn g; refine HCA.out.mono ?_; rintro e w' ⟨rfl, q, rfl⟩) | (go_at_call 44; refine (HPU.out _).mono ?_; rintro e w' ⟨rfl, hC2⟩))
        go_roundw
        case rel => exact ⟨k + 1, by omega, by go_num, by rw [HS.out]; go_num, by rw [HS.out, keepParts_snoc]; exact hC2⟩
        case measure => simp [intOf]; omega
      | false =>
        rw [hpk] at hcall hS
        rw [if_neg (by decide)] at hS
        have HS := Aside0.mk hS
        clear hS hpk
        have HCA := Aside0.mk hcall
        have HC := Aside0.mk hC
        clear hcall hC
        go_wp2_with (first | (go_at_fn g; refine HCA.out.mono ?_; rintro e w' ⟨rfl, q, rfl⟩))
        go_roundw
        case rel => exact ⟨k + 1, by omega, by go_num, by rw [HS.out], by rw [HS.out]; exact HC.out.drewN q⟩
        case measure => simp [intOf]; omega
    · obtain rfl : k = a0.size := by omega
      have hfr := cutSt_le p a0 a0.size
      have hln := keepParts_len empty (cutSt p a0 a0.size).1
      have hln2 := cutSt_len p a0 a0.size
      have hput := put_calls w wr _ _ empty (keepParts empty (cutSt p a0 a0.size).1) (a0.extract (cutSt p a0 a0.size).2 a0.size) hC (by omega)
      rw [← keepParts_snoc] at hput
      have HPU := Aside0.mk hput
      clear hput hC HP
      go_wp2_with (first | (go_at_call 44; refine HPU.out.mono ?_; rintro e w' ⟨rfl, ⟨hB2, _, _, v2, ho2, hr2⟩⟩; have hoc2 := blk_cell ho2 0; simp only [List.getElem?_toArray, List.getElem?_cons_zero] at hoc2; have HR2 := Aside0.mk hr2; have HB2 := Aside0.mk hB2; clear ho2 hr2 hB2))
      go_ret
      exact ⟨_, rfl, HR2.out, HB2.out⟩


/-! ### octet_Split: function 19 -/
def octet_Split.f (a0 : ByteArray) (a1 : Int) : Option (List ByteArray) := if a0.size ≤ 8796093022200 then some (cutOf (fun c => c == a1) true a0) else none
set_option maxHeartbeats 1000000 in
theorem split_is (a1 : Int) (g : Nat) (W : World) (c : Int) (hg : W.heap[g]? = some (.cells #[.int .u8 a1] 5 (0, 0))) :
    Calls Tryd.prog 31 #[.int .u8 c, .pointer (some ⟨g, 0, none⟩)] W fun e w' => e = .returned (.bool (c == a1)) ∧ ∃ q, w' = W.drewN q := by
  have hc := blk_cell hg 0
  simp only [List.getElem?_toArray, List.getElem?_cons_zero] at hc
  clear hg
  go_enter Tryd.func31, Tryd.ntmps31
  go_wp2
  go_ret
  exact ⟨rfl, 0, rfl⟩
set_option maxHeartbeats 1000000 in
theorem octet_Split.calls (a0 : ByteArray) (a1 : Int) (r : List ByteArray) (w : World) (h : octet_Split.f a0 a1 = some r) :
    Calls Tryd.prog 19 #[.string a0, .int .u8 a1] w fun e w' => ∃ v0_ : Value, e = .returned v0_ ∧ Kd.R Kd.string 9 w' w.heap.size (fun _ => True) v0_ r ∧ Below w.heap.size w w' := by
  unfold octet_Split.f at h
  split at h
  · rename_i hsz
    obtain rfl := Option.some.inj h
    clear h
    have hmf : ∀ (fn : Fn) (first cap : Array Value) (w : World), (Instr.makeFunc fn first cap).run Tryd.prog w = .ok (.func fn first cap) w := fun _ _ _ _ => rfl
    have hcut := cut_calls 31 #[.pointer (some ⟨w.heap.size, 0, none⟩)] (fun c => c == a1) true a0 (w.alloc (.cells #[.int .u8 a1] 5)) hsz (enters_of Tryd.func31 (by kernel_rfl) rfl)
      (fun W c _ _ hB => split_is a1 w.heap.size W c (blk_below (blk_new w _) hB))
    have HC := Aside0.mk hcut
    clear hcut
    go_enter Tryd.func19, Tryd.ntmps19
    go_wp2_with (first | (go_at_call 30; refine HC.out.mono ?_; rintro e w' ⟨v, rfl, hr, hB⟩; have HR := Aside0.mk hr; have HB := Aside0.mk hB; clear hr hB))
    go_ret
    exact ⟨_, rfl, Kd.R_lower HR.out (by simp), ((Below.refl _ _).alloc (Nat.le_refl _) _).trans (HB.out.mono (by simp))⟩
  · cases h


/-! ### strings_IndexByte: function 33 -/
def strings_IndexByte.f (a0 : ByteArray) (a1 : Int) : Option Int := some (Lib.indexByte a0.data.toList a1.toNat.toUInt8)
theorem strings_IndexByte.calls (a0 : ByteArray) (a1 : Int) (r : Int) (w : World) (h : strings_IndexByte.f a0 a1 = some r) :
    Calls Tryd.prog 33 #[.string a0, .int .u8 a1] w fun e w' => e = .returned (.int .i64 r) ∧ Drawn0 w w' := by
  obtain rfl := Option.some.inj h
  exact (Tryd.strings_IndexByte a0 a1 w).mono fun e w' ⟨h1, h2⟩ => ⟨h1, by subst h2; exact Drawn0.refl _⟩


/-! ### octet_Words: function 21 -/
def blankB (c : Int) : Bool := decide (0 ≤ Lib.indexByte [9, 10, 12, 13, 32] c.toNat.toUInt8)
def octet_Words.f (a0 : ByteArray) : Option (List ByteArray) := if a0.size ≤ 8796093022200 then some (cutOf blankB false a0) else none
set_option maxHeartbeats 1000000 in
theorem words_is (W : World) (c : Int) :
    Calls Tryd.prog 32 #[.int .u8 c] W fun e w' => e = .returned (.bool (blankB c)) ∧ ∃ q, w' = W.drewN q := by
  have hcon := Tryd.strings_IndexByte ⟨#[9, 10, 12, 13, 32]⟩ c W
  change Calls Tryd.prog 33 _ _ (fun e w' => e = .returned (.int .i64 (Lib.indexByte [9, 10, 12, 13, 32] c.toNat.toUInt8)) ∧ w' = W) at hcon
  unfold blankB
  generalize Lib.indexByte [9, 10, 12, 13, 32] c.toNat.toUInt8 = i at hcon ⊢
  have HC := Aside0.mk hcon
  clear hcon
  go_enter Tryd.func32, Tryd.ntmps32
  go_wp2_with (first | (go_at_call 33; refine HC.out.mono ?_; rintro e w' ⟨rfl, hw⟩; subst hw))
  go_ret
  exact ⟨rfl, 0, rfl⟩
set_option maxHeartbeats 1000000 in
theorem octet_Words.calls (a0 : ByteArray) (r : List ByteArray) (w : World) (h : octet_Words.f a0 = some r) :
    Calls Tryd.prog 21 #[.string a0] w fun e w' => ∃ v0_ : Value, e = .returned v0_ ∧ Kd.R Kd.string 9 w' w.heap.size (fun _ => True) v0_ r ∧ Below w.heap.size w w' := by
  unfold octet_Words.f at h
  split at h
  · rename_i hsz
    obtain rfl := Option.some.inj h
    clear h
    have hcut := cut_calls 32 #[] blankB false a0 w hsz (enters_of Tryd.func32 (by kernel_rfl) rfl)
      (fun W c _ _ _ => words_is W c)
    have HC := Aside0.mk hcut
    clear hcut
    go_enter Tryd.func21, Tryd.ntmps21
    go_wp2_with (first | (go_at_call 30; refine HC.out.mono ?_; rintro e w' ⟨v, rfl, hr, hB⟩; have HR := Aside0.mk hr; have HB := Aside0.mk hB; clear hr hB))
    go_ret
    exact ⟨_, rfl, HR.out, HB.out⟩
  · cases h


/-! ### octet_Number: function 23 -/
mutual
def octet_Number.j0 : Nat → ByteArray → Int → Bool → Option (Int × Bool)
  | 0, _, _, _ => none
  | k + 1, x0, x1, x23 => if x23 = true then (some (0, false)) else (octet_Number.l0 k x0 x1 0 (x0.size : Int) 0)
def octet_Number.l0 : Nat → ByteArray → Int → Int → Int → Int → Option (Int × Bool)
  | 0, _, _, _, _, _ => none
  | k + 1, x0, x1, x6, x25, x26 => if x26 < x25 then (if 0 ≤ x26 then (if x26 < (x0.size : Int) then (if (wrap64 ((wrap64 (bt x0 x26)) - 48)) < 0 then (some (0, false)) else (if (wrap64 ((wrap64 (bt x0 x26)) - 48)) > 9 then (some (0, false)) else (if (wrap64 ((wrap64 (bt x0 x26)) - 48)) > x1 then (some (0, false)) else (if x6 > (wrap64 (Int.tdiv (wrap64 (x1 - (wrap64 ((wrap64 (bt x0 x26)) - 48)))) 10)) then (some (0, false)) else (octet_Number.l0 k x0 x1 (wrap64 ((wrap64 (10 * x6)) + (wrap64 ((wrap64 (bt x0 x26)) - 48)))) x25 (wrap64 (x26 + 1))))))) else (none)) else (none)) else (some (x6, true))
end
def octet_Number.f (k : Nat) (a0 : ByteArray) (a1 : Int) : Option (Int × Bool) := if a0.toList = ([] : List UInt8) then (octet_Number.j0 k a0 a1 true) else (if a0.toList = ([48] : List UInt8) then (octet_Number.j0 k a0 a1 (decide (a1 < 0))) else (if 0 < (a0.size : Int) then (if (bt a0 0) = 48 then (octet_Number.j0 k a0 a1 true) else (octet_Number.j0 k a0 a1 (decide (a1 < 0)))) else (none)))
theorem octet_Number.mono_l : ∀ k, (∀ y0 y1 y2, LeO (octet_Number.j0 k y0 y1 y2) (octet_Number.j0 (k + 1) y0 y1 y2)) ∧ (∀ y0 y1 y2 y3 y4, LeO (octet_Number.l0 k y0 y1 y2 y3 y4) (octet_Number.l0 (k + 1) y0 y1 y2 y3 y4))
  | 0 => ⟨fun _ _ _ r h => by simp [octet_Number.j0] at h, fun _ _ _ _ _ r h => by simp [octet_Number.l0] at h⟩
  | k + 1 => by
    obtain ⟨ih0, ih1⟩ := octet_Number.mono_l k
    refine ⟨?_, ?_⟩
    · intro y0 y1 y2
      unfold octet_Number.j0
      repeat' first
      | (with_reducible exact ih0 _ _ _)
      | (with_reducible exact ih1 _ _ _ _ _)
      | (with_reducible exact LeO.refl _)
      | (with_reducible exact LeO.none _)
      | (with_reducible refine LeO.ite ?_ ?_)
      | (with_reducible refine LeO.bind ?_ (fun _ => ?_))
      | exact ih0 _ _ _
      | exact ih1 _ _ _ _ _
      | exact LeO.none _
      | refine LeO.ite ?_ ?_
      | refine LeO.bind ?_ (fun _ => ?_)
    · intro y0 y1 y2 y3 y4
      unfold octet_Number.l0
      repeat' first
      | (with_reducible exact ih0 _ _ _)
      | (with_reducible exact ih1 _ _ _ _ _)
      | (with_reducible exact LeO.refl _)
      | (with_reducible exact LeO.none _)
      | (with_reducible refine LeO.ite ?_ ?_)
      | (with_reducible refine LeO.bind ?_ (fun _ => ?_))
      | exact ih0 _ _ _
      | exact ih1 _ _ _ _ _
      | exact LeO.none _
      | refine LeO.ite ?_ ?_
      | refine LeO.bind ?_ (fun _ => ?_)
theorem octet_Number.mono : ∀ a0 a1 k, LeO (octet_Number.f k a0 a1) (octet_Number.f (k + 1) a0 a1) := by
  intro a0 a1 k
  obtain ⟨ih0, ih1⟩ := octet_Number.mono_l k
  unfold octet_Number.f
  repeat' first
      | (with_reducible exact ih0 _ _ _)
      | (with_reducible exact ih1 _ _ _ _ _)
      | (with_reducible exact LeO.refl _)
      | (with_reducible exact LeO.none _)
      | (with_reducible refine LeO.ite ?_ ?_)
      | (with_reducible refine LeO.bind ?_ (fun _ => ?_))
      | exact ih0 _ _ _
      | exact ih1 _ _ _ _ _
      | exact LeO.none _
      | refine LeO.ite ?_ ?_
      | refine LeO.bind ?_ (fun _ => ?_)
set_option maxHeartbeats 8000000 in
set_option maxRecDepth 100000 in
theorem octet_Number.calls (k : Nat) (a0 : ByteArray) (a1 : Int) (r1 : Int) (r2 : Bool) (w : World) (h : octet_Number.f k a0 a1 = some (r1, r2)) :
    Calls Tryd.prog 23 #[.string a0, .int .i64 a1] w fun e w' => e = .returned (.tuple #[.int .i64 r1, .bool r2]) ∧ Drawn0 w w' := by
  have H : (if a0.toList = ([] : List UInt8) then (octet_Number.j0 k a0 a1 true) else (if a0.toList = ([48] : List UInt8) then (octet_Number.j0 k a0 a1 (decide (a1 < 0))) else (if 0 < (a0.size : Int) then (if (bt a0 0) = 48 then (octet_Number.j0 k a0 a1 true) else (octet_Number.j0 k a0 a1 (decide (a1 < 0)))) else (none)))) = some (r1, r2) := h
  clear h
  have HC3 := Aside0.mk H
  clear H
  go_enter Tryd.func23, Tryd.ntmps23
  go_upto_region 1 with (fail)
  go_cut [23] (fun v23 wc => ∃ (kq : Nat) (x23_2 : Bool), v23 = .bool x23_2 ∧ Aside0 (octet_Number.j0 kq a0 a1 x23_2 = some (r1, r2)) ∧ Aside0 (kq ≤ k) ∧ Drawn0 w wc)
  case first =>
    have H := HC3.out
    clear HC3
    by_cases c4 : a0.toList = ([] : List UInt8)
    · rw [if_pos c4] at H
      have c4b0 : (a0.toList == ([] : List UInt8)) = true := beq_iff_eq.mpr c4
      have c4b1 : (a0.toList != ([] : List UInt8)) = false := bne_eq_false_iff_eq.mpr c4
      clear c4
      (first | rw [c4b0] | (simp only [i64_w, i32_w]; rw [c4b0]) | skip)
      have H' := Aside0.mk H
      clear H
      go_wp2
      go_meet
      case rel => exact ⟨_, (true), (by first | rfl | (simp; done) | (simp [*]; done) | (simp [q_ne_nil]; done)), H', ⟨by first | omega | exact Nat.le_refl _⟩, by repeat (first | exact Drawn0.refl _ | apply Drawn0.step)⟩
    · rw [if_neg c4] at H
      have c4b0 : (a0.toList == ([] : List UInt8)) = false := beq_eq_false_iff_ne.mpr c4
      have c4b1 : (a0.toList != ([] : List UInt8)) = true := bne_iff_ne.mpr c4
      (first | rw [c4b0] | (simp only [i64_w, i32_w]; rw [c4b0]) | skip)
      by_cases c5 : a0.toList = ([48] : List UInt8)
      · rw [if_pos c5] at H
        have c5b0 : (a0.toList == ([48] : List UInt8)) = true := beq_iff_eq.mpr c5
        have c5b1 : (a0.toList != ([48] : List UInt8)) = false := bne_eq_false_iff_eq.mpr c5
        clear c5
        have H' := Aside0.mk H
        clear H
        go_wp2
        go_meet
        case rel => exact ⟨_, (decide (a1 < 0)), (by first | rfl | (simp; done) | (simp [*]; done) | (simp [q_ne_nil]; done)), H', ⟨by first | omega | exact Nat.le_refl _⟩, by repeat (first | exact Drawn0.refl _ | apply Drawn0.step)⟩
      · rw [if_neg c5] at H
        have c5b0 : (a0.toList == ([48] : List UInt8)) = false := beq_eq_false_iff_ne.mpr c5
        have c5b1 : (a0.toList != ([48] : List UInt8)) = true := bne_iff_ne.mpr c5
        by_cases c6 : 0 < (a0.size : Int)
        · rw [if_pos c6] at H
          have c6b0 : decide (0 < (a0.size : Int)) = true := decide_eq_true c6
          have c6b1 : decide (0 < a0.size) = true := decide_eq_true (by omega)
          clear c6
          by_cases c8 : (bt a0 0) = 48
          · rw [if_pos c8] at H
            have c8b0 : ((bt a0 0) == 48) = true := beq_iff_eq.mpr c8
            have c8b1 : ((bt a0 0) != 48) = false := bne_eq_false_iff_eq.mpr c8
            clear c8
            have H' := Aside0.mk H
            clear H
            have p7 : 0 ≤ (0 : Int) := (by omega)
            have q7 : 0 < a0.size := (by have : (0 : Int) < (a0.size : Int) := of_decide_eq_true (by first | (with_reducible assumption) | assumption); omega)
            have hx7 : ∀ h : 0 < a0.size, ((a0[0]'h).toNat : Int) = bt a0 0 := bt_at a0 0
            clear p7
            have qi7 : (0 < (a0.size : Int)) = True := eq_true (of_decide_eq_true (by first | (with_reducible assumption) | assumption))
            replace q7 := eq_true q7
            go_wp2
            go_meet
            case rel => exact ⟨_, (true), (by first | rfl | (simp; done) | (simp [*]; done) | (simp [q_ne_nil]; done)), H', ⟨by first | omega | exact Nat.le_refl _⟩, by repeat (first | exact Drawn0.refl _ | apply Drawn0.step)⟩
          · rw [if_neg c8] at H
            have c8b0 : ((bt a0 0) == 48) = false := beq_eq_false_iff_ne.mpr c8
            have c8b1 : ((bt a0 0) != 48) = true := bne_iff_ne.mpr c8
            have H' := Aside0.mk H
            clear H
            have p7 : 0 ≤ (0 : Int) := (by omega)
            have q7 : 0 < a0.size := (by have : (0 : Int) < (a0.size : Int) := of_decide_eq_true (by first | (with_reducible assumption) | assumption); omega)
            have hx7 : ∀ h : 0 < a0.size, ((a0[0]'h).toNat : Int) = bt a0 0 := bt_at a0 0
            clear p7
            have qi7 : (0 < (a0.size : Int)) = True := eq_true (of_decide_eq_true (by first | (with_reducible assumption) | assumption))
            replace q7 := eq_true q7
            go_wp2
            go_meet
            case rel => exact ⟨_, (decide (a1 < 0)), (by first | rfl | (simp; done) | (simp [*]; done) | (simp [q_ne_nil]; done)), H', ⟨by first | omega | exact Nat.le_refl _⟩, by repeat (first | exact Drawn0.refl _ | apply Drawn0.step)⟩
        · rw [if_neg c6] at H
          exact absurd H (by simp)
  case rest =>
    clear HC3
    try clear c2
    try clear p2
    try clear c4
    try clear c4b0
    try clear c4b1
    try clear c5
    try clear c5b0
    try clear c5b1
    try clear c6
    try clear c6b0
    try clear c6b1
    try clear p7
    try clear q7
    try clear hx7
    try clear qi7
    try clear c8
    try clear c8b0
    try clear c8b1
    try clear p7
    try clear q7
    obtain ⟨kq, x23_2, rfl, HA, HJ2, ⟨mc2, rfl⟩⟩ := hcut
    cases kq with
    | zero => exact absurd HA.out (by simp [octet_Number.j0])
    | succ kj2 =>
      have H := HA.out
      clear HA
      simp only [octet_Number.j0] at H
      by_cases c9 : x23_2 = true
      · subst c9
        have H1 : (some (0, false)) = some (r1, r2) := by rw [if_pos rfl] at H; exact H
        clear H
        have H := H1
        clear H1
        simp only [Option.some.injEq, Prod.mk.injEq] at H
        obtain ⟨rfl, rfl⟩ := H
        go_wp2
        go_ret2
        exact ⟨by first | rfl | (simp; done) | (simp [*]; done) | (simp [q_ne_nil]; done), by repeat (first | exact Drawn0.refl _ | apply Drawn0.step)⟩
      · replace c9 := Bool.eq_false_iff.mpr c9
        subst c9
        have H1 : (octet_Number.l0 kj2 a0 a1 0 (a0.size : Int) 0) = some (r1, r2) := by rw [if_neg (show ¬ (false = true) by decide)] at H; exact H
        clear H
        have H := H1
        clear H1
        have H' := Aside0.mk H
        clear H
        go_wp2
        go_loopg [6, 26] kj2 (fun kq v6 v26 w' => ∃ (x6_2 : Int) (x26_2 : Int), v6 = .int .i64 x6_2 ∧ v26 = .int .i64 x26_2 ∧ Aside0 (octet_Number.l0 kq a0 a1 x6_2 (a0.size : Int) x26_2 = some (r1, r2)) ∧ Aside0 (kq ≤ kj2) ∧ Drawn0 w w')
        case atStart => exact ⟨(0), (0), (by first | rfl | (simp; done) | (simp [*]; done) | (simp [q_ne_nil]; done)), (by first | rfl | (simp; done) | (simp [*]; done) | (simp [q_ne_nil]; done)), H', ⟨Nat.le_refl _⟩, by repeat (first | exact Drawn0.refl _ | apply Drawn0.step)⟩
        case round =>
          clear H'
          try clear c2
          try clear p2
          try clear c4
          try clear c4b0
          try clear c4b1
          try clear c5
          try clear c5b0
          try clear c5b1
          try clear c6
          try clear c6b0
          try clear c6b1
          try clear p7
          try clear q7
          try clear hx7
          try clear qi7
          try clear c8
          try clear c8b0
          try clear c8b1
          try clear c9
          try clear p2
          try clear p7
          try clear q7
          obtain ⟨x6_2, x26_2, rfl, rfl, HA, HK2, ⟨m2, rfl⟩⟩ := hrel
          cases gk with
          | zero => exact absurd HA.out (by simp [octet_Number.l0])
          | succ k2 =>
            have H := HA.out
            clear HA
            simp only [octet_Number.l0] at H
            by_cases c10 : x26_2 < (a0.size : Int)
            · rw [if_pos c10] at H
              have c10b0 : decide (x26_2 < (a0.size : Int)) = true := decide_eq_true c10
              clear c10
              by_cases c11 : 0 ≤ x26_2
              · rw [if_pos c11] at H
                have c11b0 : decide (0 ≤ x26_2) = true := decide_eq_true c11
                clear c11
                by_cases c12 : x26_2 < (a0.size : Int)
                · rw [if_pos c12] at H
                  have c12b0 : decide (x26_2 < (a0.size : Int)) = true := decide_eq_true c12
                  clear c12
                  by_cases c14 : (wrap64 ((wrap64 (bt a0 x26_2)) - 48)) < 0
                  · rw [if_pos c14] at H
                    have c14b0 : decide ((wrap64 ((wrap64 (bt a0 x26_2)) - 48)) < 0) = true := decide_eq_true c14
                    clear c14
                    simp only [Option.some.injEq, Prod.mk.injEq] at H
                    obtain ⟨rfl, rfl⟩ := H
                    have p13 : 0 ≤ (x26_2 : Int) := of_decide_eq_true (by first | (with_reducible assumption) | assumption)
                    have q13 : x26_2 < (a0.size : Int) := of_decide_eq_true (by first | (with_reducible assumption) | assumption)
                    have hx13 := bt_at a0 x26_2
                    replace p13 := eq_true p13
                    replace q13 := eq_true q13
                    go_wp2
                    go_ret2
                    exact ⟨by first | rfl | (simp; done) | (simp [*]; done) | (simp [q_ne_nil]; done), by repeat (first | exact Drawn0.refl _ | apply Drawn0.step)⟩
                  · rw [if_neg c14] at H
                    have c14b0 : decide ((wrap64 ((wrap64 (bt a0 x26_2)) - 48)) < 0) = false := decide_eq_false c14
                    clear c14
                    by_cases c15 : (wrap64 ((wrap64 (bt a0 x26_2)) - 48)) > 9
                    · rw [if_pos c15] at H
                      have c15b0 : decide (9 < (wrap64 ((wrap64 (bt a0 x26_2)) - 48))) = true := decide_eq_true c15
                      clear c15
                      simp only [Option.some.injEq, Prod.mk.injEq] at H
                      obtain ⟨rfl, rfl⟩ := H
                      have p13 : 0 ≤ (x26_2 : Int) := of_decide_eq_true (by first | (with_reducible assumption) | assumption)
                      have q13 : x26_2 < (a0.size : Int) := of_decide_eq_true (by first | (with_reducible assumption) | assumption)
                      have hx13 := bt_at a0 x26_2
                      replace p13 := eq_true p13
                      replace q13 := eq_true q13
                      go_wp2
                      go_ret2
                      exact ⟨by first | rfl | (simp; done) | (simp [*]; done) | (simp [q_ne_nil]; done), by repeat (first | exact Drawn0.refl _ | apply Drawn0.step)⟩
                    · rw [if_neg c15] at H
                      have c15b0 : decide (9 < (wrap64 ((wrap64 (bt a0 x26_2)) - 48))) = false := decide_eq_false c15
                      clear c15
                      by_cases c16 : (wrap64 ((wrap64 (bt a0 x26_2)) - 48)) > a1
                      · rw [if_pos c16] at H
                        have c16b0 : decide (a1 < (wrap64 ((wrap64 (bt a0 x26_2)) - 48))) = true := decide_eq_true c16
                        clear c16
                        simp only [Option.some.injEq, Prod.mk.injEq] at H
                        obtain ⟨rfl, rfl⟩ := H
                        have p13 : 0 ≤ (x26_2 : Int) := of_decide_eq_true (by first | (with_reducible assumption) | assumption)
                        have q13 : x26_2 < (a0.size : Int) := of_decide_eq_true (by first | (with_reducible assumption) | assumption)
                        have hx13 := bt_at a0 x26_2
                        replace p13 := eq_true p13
                        replace q13 := eq_true q13
                        go_wp2
                        go_ret2
                        exact ⟨by first | rfl | (simp; done) | (simp [*]; done) | (simp [q_ne_nil]; done), by repeat (first | exact Drawn0.refl _ | apply Drawn0.step)⟩
                      · rw [if_neg c16] at H
                        have c16b0 : decide (a1 < (wrap64 ((wrap64 (bt a0 x26_2)) - 48))) = false := decide_eq_false c16
                        clear c16
                        by_cases c17 : x6_2 > (wrap64 (Int.tdiv (wrap64 (a1 - (wrap64 ((wrap64 (bt a0 x26_2)) - 48)))) 10))
                        · rw [if_pos c17] at H
                          have c17b0 : decide ((wrap64 (Int.tdiv (wrap64 (a1 - (wrap64 ((wrap64 (bt a0 x26_2)) - 48)))) 10)) < x6_2) = true := decide_eq_true c17
                          clear c17
                          simp only [Option.some.injEq, Prod.mk.injEq] at H
                          obtain ⟨rfl, rfl⟩ := H
                          have p13 : 0 ≤ (x26_2 : Int) := of_decide_eq_true (by first | (with_reducible assumption) | assumption)
                          have q13 : x26_2 < (a0.size : Int) := of_decide_eq_true (by first | (with_reducible assumption) | assumption)
                          have hx13 := bt_at a0 x26_2
                          replace p13 := eq_true p13
                          replace q13 := eq_true q13
                          go_wp2
                          go_ret2
                          exact ⟨by first | rfl | (simp; done) | (simp [*]; done) | (simp [q_ne_nil]; done), by repeat (first | exact Drawn0.refl _ | apply Drawn0.step)⟩
                        · rw [if_neg c17] at H
                          have c17b0 : decide ((wrap64 (Int.tdiv (wrap64 (a1 - (wrap64 ((wrap64 (bt a0 x26_2)) - 48)))) 10)) < x6_2) = false := decide_eq_false c17
                          clear c17
                          have H' := Aside0.mk H
                          clear H
                          have p13 : 0 ≤ (x26_2 : Int) := of_decide_eq_true (by first | (with_reducible assumption) | assumption)
                          have q13 : x26_2 < (a0.size : Int) := of_decide_eq_true (by first | (with_reducible assumption) | assumption)
                          have hx13 := bt_at a0 x26_2
                          replace p13 := eq_true p13
                          replace q13 := eq_true q13
                          go_wp2
                          go_roundg k2
                          case measure => have := HJ2.out; have := HK2.out; omega
                          case rel => exact ⟨(wrap64 ((wrap64 (10 * x6_2)) + (wrap64 ((wrap64 (bt a0 x26_2)) - 48)))), (wrap64 (x26_2 + 1)), (by first | rfl | (simp; done) | (simp [*]; done) | (simp [q_ne_nil]; done)), (by first | rfl | (simp; done) | (simp [*]; done) | (simp [q_ne_nil]; done)), H', ⟨by have := HJ2.out; have := HK2.out; omega⟩, by repeat (first | exact Drawn0.refl _ | apply Drawn0.step)⟩
                · rw [if_neg c12] at H
                  exact absurd H (by simp)
              · rw [if_neg c11] at H
                exact absurd H (by simp)
            · rw [if_neg c10] at H
              have c10b0 : decide (x26_2 < (a0.size : Int)) = false := decide_eq_false c10
              clear c10
              simp only [Option.some.injEq, Prod.mk.injEq] at H
              obtain ⟨rfl, rfl⟩ := H
              go_wp2
              go_ret2
              exact ⟨by first | rfl | (simp; done) | (simp [*]; done) | (simp [q_ne_nil]; done), by repeat (first | exact Drawn0.refl _ | apply Drawn0.step)⟩

end Go.Proofs.YtdcnofkcaddkpaaDoor.Q
