-- Laid by this seat's own driver (wip/tools/drive.py) out of the translation.
import Derived.Test.YtebkibohejjkcaaDoorQx0
namespace Go.Proofs.YtebkibohejjkcaaDoor.Q
open Go.RowKit Go.Proofs.YtebkibohejjkcaaDoorW.PrintWords Go.Proofs.YtebkibohejjkcaaDoorW.PrintLast Go.Proofs.YtebkibohejjkcaaDoorW.PrintMore
attribute [local go_sem] max2_int min2_int max_two min_two max_three min_three max_four min_four   -- for this text's walks alone
set_option linter.unusedVariables false
set_option linter.unusedSimpArgs false

/-! ### octet_Trim: function 10 -/
def trimBA (s : ByteArray) : ByteArray := ⟨(Lib.trimS s.data.toList [9, 10, 12, 13, 32]).toArray⟩
def octet_Trim.f (a0 : ByteArray) : Option ByteArray := if a0.size ≤ 281474976710656 then some (trimBA a0) else none
set_option maxHeartbeats 1000000 in
theorem octet_Trim.calls (a0 : ByteArray) (r : ByteArray) (w : World) (h : octet_Trim.f a0 = some r) :
    Calls Tryd.prog 10 #[.string a0] w fun e w' => e = .returned (.string r) ∧ Below w.heap.size w w' := by
  unfold octet_Trim.f at h
  split at h
  · rename_i hsz
    obtain rfl := Option.some.inj h
    clear h
    have hcon := Any.strings_Trim_laid Tryd.lays160 (by kernel_rfl) a0 ⟨#[9, 10, 12, 13, 32]⟩ w (by omega) (by decide) (ascii_of_all (by decide))
    change Calls Tryd.prog 20 _ _ (fun e w' => e = .returned (.string (trimBA a0)) ∧ Below w.heap.size w w') at hcon
    generalize trimBA a0 = r at hcon ⊢
    go_enter Tryd.func10, Tryd.ntmps10
    go_wp2_with (go_at_call 20; refine hcon.mono ?_; rintro e w' ⟨rfl, hB⟩)
    go_ret
    exact ⟨rfl, hB⟩
  · cases h


/-! ### octet_Lower: function 41 -/
/-- A letter A to Z made small. -/
def lowByte (c : Int) : Int := if 65 ≤ c ∧ c ≤ 90 then c + 32 else c
def lowBA (s : ByteArray) : ByteArray := strOfNums ((bytesOf s).map lowByte)
theorem lowByte_range (c : Int) (h0 : 0 ≤ c) (h1 : c ≤ 255) : 0 ≤ lowByte c ∧ lowByte c ≤ 255 := by
  unfold lowByte; split <;> omega
/-- The world after k rounds of making small: the new row's bytes below k are small, the others as they came. -/
structure LowAt (w W : World) (s : ByteArray) (k : Nat) : Prop where
  below : Below w.heap.size w W
  size : W.heap.size = w.heap.size + 1
  cell : ∀ j, j < s.size → W.cell? ⟨w.heap.size, j, none⟩ = some (.int .u8 (if j < k then lowByte (bt s j) else bt s j))
  free : ∀ j, j < s.size → W.frozen? ⟨w.heap.size, j, none⟩ = false
theorem bt_nat (s : ByteArray) (j : Nat) : bt s (j : Int) = ((s.data.toList.getD j 0).toNat : Int) := by
  unfold bt
  split
  · rename_i h
    have h' : j < s.data.toList.length := by rw [data_length]; simpa using h
    simp [List.getD_eq_getElem?_getD, List.getElem?_eq_getElem h']
    rfl
  · rename_i h
    have h' : s.data.toList.length ≤ j := by rw [data_length]; simp at h; omega
    simp [List.getD_eq_getElem?_getD, List.getElem?_eq_none h']
theorem LowAt.start (w : World) (e : TypeId) (s : ByteArray) : LowAt w (Lib.bytesWorld w e s) s 0 where
  below := bytes_below (Below.refl _ _) (Nat.le_refl _) e s
  size := Lib.bytesWorld_size w e s
  cell := fun j hj => by rw [Lib.bytesWorld_cell w e s j hj, if_neg (by omega), bt_nat]
  free := fun j hj => by
    have h1 : s.size ≤ (Lib.bytesCells w e s).size := by
      simp only [Lib.bytesCells, Array.size_append, Array.size_map]
      exact Nat.le_add_right _ _
    simp [World.frozen?, Lib.bytesWorld_at_new]
    omega
theorem LowAt.drew {w W : World} {s : ByteArray} {k : Nat} (h : LowAt w W s k) : LowAt w W.drew s k :=
  ⟨below_drew h.below, h.size, h.cell, h.free⟩
theorem LowAt.same {w W : World} {s : ByteArray} {k : Nat} (h : LowAt w W s k) (hs : lowByte (bt s k) = bt s k) : LowAt w W s (k + 1) where
  below := h.below
  size := h.size
  cell := fun j hj => by
    rw [h.cell j hj]
    rcases Nat.lt_trichotomy j k with h1 | h1 | h1
    · rw [if_pos h1, if_pos (by omega)]
    · subst h1; rw [if_neg (by omega), if_pos (by omega), hs]
    · rw [if_neg (by omega), if_neg (by omega)]
  free := h.free
theorem LowAt.store {w W : World} {s : ByteArray} {k : Nat} (h : LowAt w W s k) (hk : k < s.size) : LowAt w (W.setCell ⟨w.heap.size, k, none⟩ (.int .u8 (lowByte (bt s k)))) s (k + 1) where
  below := h.below.setCell (Nat.le_refl _) _
  size := by rw [← h.size]; simp [World.setCell]
  cell := fun j hj => by
    by_cases e : j = k
    · subst e; rw [World.cell?_setCell_same _ _ _ (h.cell j hj), if_pos (by omega)]
    · rw [World.cell?_setCell_other _ _ _ _ (by intro e'; injection e' with _ e' _; exact e e'.symm), h.cell j hj]
      by_cases h1 : j < k
      · rw [if_pos h1, if_pos (by omega)]
      · rw [if_neg h1, if_neg (by omega)]
  free := fun j hj => by rw [← h.free j hj]; simp [go_sem]
theorem LowAt.done {P : Program} {src dst e : TypeId} (hs : P.underlying src = some (.slice e)) (he : P.underlying e = some (.int .u8)) (hd : P.underlying dst = some .string)
    {w W : World} {s : ByteArray} (h : LowAt w W s s.size) (c : Nat) :
    (convert src dst (.slice (some ⟨w.heap.size, 0, none⟩) s.size c)).run P W = .ok (.string (lowBA s)) W := by
  refine run_convert_bytes_arg W src e hs he w.heap.size 0 s.size c _ (by rw [List.length_map, bytesOf_length]) (fun i hi => ?_) dst hd
  rw [Nat.zero_add, h.cell i hi, if_pos hi]
  have h1 : i < (bytesOf s).length := by rw [bytesOf_length]; exact hi
  have h2 : rd (bytesOf s) i = bt s i := rd_bytesOf s i
  simp only [rd, Int.toNat_natCast] at h2
  rw [List.getD_eq_getElem?_getD, List.getElem?_map, ← h2, List.getD_eq_getElem?_getD]
  simp [List.getElem?_eq_getElem h1]
theorem low_or : ∀ c : Int, 65 ≤ c → c ≤ 90 → Go.bits .or .u8 c 32 = c + 32 := by
  intro c h0 h1
  obtain ⟨n, rfl⟩ := Int.eq_ofNat_of_zero_le (by omega : 0 ≤ c)
  have h2 : n < 91 := by omega
  have h3 : 65 ≤ n := by omega
  revert h3
  exact (by decide : ∀ n : Nat, n < 91 → 65 ≤ n → Go.bits .or .u8 (n : Int) 32 = (n : Int) + 32) n h2
def octet_Lower.f (a0 : ByteArray) : Option ByteArray := if a0.size ≤ 281474976710656 then some (lowBA a0) else none
set_option maxHeartbeats 1000000 in
set_option maxRecDepth 100000 in
theorem octet_Lower.calls (a0 : ByteArray) (r : ByteArray) (w : World) (h : octet_Lower.f a0 = some r) :
    Calls Tryd.prog 41 #[.string a0] w fun e w' => e = .returned (.string r) ∧ Below w.heap.size w w' := by
  unfold octet_Lower.f at h
  split at h
  · rename_i hsz
    obtain rfl := Option.some.inj h
    clear h
    have kb := fun W => print_bytes (P := Tryd.prog) 9 35 5 Tryd.underlying9 Tryd.underlying35 Tryd.underlying5 a0 W
    go_enter Tryd.func41, Tryd.ntmps41
    go_wp2
    generalize grownCap w a0.size 0 5 = cap
    go_loopw [4, 5, 10] (fun v4 v5 v10 wr => ∃ k : Nat, k ≤ a0.size ∧ v10 = .int .i64 k ∧ LowAt w wr a0 k) (fun v4 v5 v10 _ => a0.size - (intOf v10).toNat)
    case atStart => exact ⟨0, Nat.zero_le _, rfl, LowAt.start w _ a0⟩
    case round =>
      clear kb
      obtain ⟨k, hk, rfl, hL⟩ := hrel
      by_cases hlt : k < a0.size
      · have hcell : wr.cell? ⟨w.heap.size, k, none⟩ = some (.int .u8 (bt a0 k)) := by rw [hL.cell k hlt, if_neg (by omega)]
        have hfree := hL.free k hlt
        obtain ⟨hb0, hb1⟩ := bt_range a0 k
        have hS := Aside0.mk (hL.store hlt)
        have hN := Aside0.mk (fun e => hL.same (k := k) e)
        generalize hc : bt a0 k = c at hcell hb0 hb1 hS hN
        clear hc
        have HL := Aside0.mk hL
        clear hL
        by_cases hu1 : 65 ≤ c
        · by_cases hu2 : c ≤ 90
          · have hl : lowByte c = c + 32 := by unfold lowByte; rw [if_pos ⟨hu1, hu2⟩]
            have hor := low_or c hu1 hu2
            rw [hl] at hS
            clear hl hN
            go_wp2
            go_roundw
            case rel => exact ⟨k + 1, by omega, by go_num, hS.out⟩
            case measure => simp [intOf]; omega
          · have hl : lowByte c = c := by unfold lowByte; rw [if_neg (by omega)]
            clear hS
            have hN' := Aside0.mk (hN.out hl)
            clear hN hl
            go_wp2
            go_roundw
            case rel => exact ⟨k + 1, by omega, by go_num, hN'.out⟩
            case measure => simp [intOf]; omega
        · have hl : lowByte c = c := by unfold lowByte; rw [if_neg (by omega)]
          clear hS
          have hN' := Aside0.mk (hN.out hl)
          clear hN hl
          go_wp2
          go_roundw
          case rel => exact ⟨k + 1, by omega, by go_num, hN'.out⟩
          case measure => simp [intOf]; omega
      · obtain rfl : k = a0.size := by omega
        have hd := fun c => hL.done (P := Tryd.prog) (src := 35) (dst := 9) (e := 5) Tryd.underlying35 Tryd.underlying5 Tryd.underlying9 c
        go_wp2
        go_ret
        exact ⟨rfl, hL.below⟩
  · cases h


/-! ### octet_Fold: function 29 -/
def octet_Fold.f (a0 : ByteArray) (a1 : ByteArray) : Option (Bool) := (octet_Lower.f a0).bind fun t101 => ((octet_Lower.f a1).bind fun t102 => (some (t101.toList == t102.toList)))
set_option maxHeartbeats 8000000 in
set_option maxRecDepth 100000 in
theorem octet_Fold.calls (a0 : ByteArray) (a1 : ByteArray) (r : Bool) (w : World) (h : octet_Fold.f a0 a1 = some r) :
    Calls Tryd.prog 29 #[.string a0, .string a1] w fun e w' => e = .returned (.bool r) ∧ Below w.heap.size w w' := by
  have HB := Aside0.mk (Below.refl w.heap.size w)
  have H : ((octet_Lower.f a0).bind fun t101 => ((octet_Lower.f a1).bind fun t102 => (some (t101.toList == t102.toList)))) = some r := h
  clear h
  replace H := Option.bind_eq_some_iff.mp H
  obtain ⟨t101, A30, H⟩ := H
  replace H : ((octet_Lower.f a1).bind fun t102 => (some (t101.toList == t102.toList))) = some r := H
  have A3 := Aside0.mk A30
  clear A30
  replace H := Option.bind_eq_some_iff.mp H
  obtain ⟨t102, A40, H⟩ := H
  replace H : (some (t101.toList == t102.toList)) = some r := H
  have A4 := Aside0.mk A40
  clear A40
  obtain rfl := Option.some.inj H
  go_enter Tryd.func29, Tryd.ntmps29
  go_wp2_with (first | ((with_reducible refine gate_callee (f := 41) rfl ?_); refine goesL_ (some 6) rfl rfl Tryd.func41 (by kernel_rfl) rfl #[.string a0] rfl (by (try simp only [List.map_toArray, List.map_cons, List.map_nil]); first | done | rfl | (simp only [List.length_drop, List.length_take]; rfl)) ?_; (with_reducible refine (octet_Lower.calls a0 t101 _ A3.out).mono ?_); rintro e w5 ⟨rfl, hb⟩; refine ⟨_, rfl, ?_⟩; have n0_ := Aside0.mk (below_step (by repeat (first | (with_reducible first | exact HB.out | apply below_alloc | apply pw_below_drewN | apply below_drew1) | exact HB.out)) hb); clear HB; have HB := n0_; clear n0_; (try clear hb); (try clear hb2); (try clear hk); (try clear hi)) | ((with_reducible refine gate_callee (f := 41) rfl ?_); refine goesL_ (some 8) rfl rfl Tryd.func41 (by kernel_rfl) rfl #[.string a1] rfl (by (try simp only [List.map_toArray, List.map_cons, List.map_nil]); first | done | rfl | (simp only [List.length_drop, List.length_take]; rfl)) ?_; (with_reducible refine (octet_Lower.calls a1 t102 _ A4.out).mono ?_); rintro e w6 ⟨rfl, hb⟩; refine ⟨_, rfl, ?_⟩; have n0_ := Aside0.mk (below_step (by repeat (first | (with_reducible first | exact HB.out | apply below_alloc | apply pw_below_drewN | apply below_drew1) | exact HB.out)) hb); clear HB; have HB := n0_; clear n0_; (try clear hb); (try clear hb2); (try clear hk); (try clear hi)))
  go_ret
  exact ⟨by first | rfl | (simp [errW_none, errW_some] <;> rfl) | (simp [*, errW_none, errW_some] <;> rfl) | (simp [q_ne_nil]; done), by repeat (first | (with_reducible first | exact HB.out | apply below_alloc | apply pw_below_drewN | apply below_drew1) | exact HB.out)⟩

/-! ### headers_values: function 19 -/
def foldEq (s t : ByteArray) : Bool := (lowBA s).toList == (lowBA t).toList
theorem fold_some (s t : ByteArray) (h : s.size ≤ 281474976710656) (h' : t.size ≤ 281474976710656) : octet_Fold.f s t = some (foldEq s t) := by
  unfold octet_Fold.f octet_Lower.f
  rw [if_pos h, if_pos h']
  rfl
theorem trim_some (s : ByteArray) (h : s.size ≤ 281474976710656) : octet_Trim.f s = some (trimBA s) := if_pos h
/-- The values of a name, in order. -/
def valsOf (l : List S24) (name : ByteArray) : List ByteArray := (l.filter (fun h => foldEq h.f0 name)).map (fun h => trimBA h.f1)
theorem valsOf_snoc (l : List S24) (h : S24) (name : ByteArray) : valsOf (l ++ [h]) name = valsOf l name ++ (if foldEq h.f0 name = true then [trimBA h.f1] else []) := by
  unfold valsOf
  rw [List.filter_append, List.map_append]
  by_cases hf : foldEq h.f0 name = true <;> simp [hf]
theorem valsOf_take (l : List S24) (k : Nat) (name : ByteArray) : valsOf (l.take k) name <+: valsOf l name := by
  refine ⟨valsOf (l.drop k) name, ?_⟩
  unfold valsOf
  rw [← List.map_append, ← List.filter_append, List.take_append_drop]
theorem valsOf_len (l : List S24) (name : ByteArray) : (valsOf l name).length ≤ l.length := by
  unfold valsOf
  rw [List.length_map]
  exact List.length_filter_le _ _
/-- Heads of a size that a call can bear. -/
def hdrsB (l : List S24) (name : ByteArray) : Bool := decide (name.size ≤ 281474976710656) && decide (l.length ≤ 4398046511000) && l.all (fun h => decide (h.f0.size ≤ 281474976710656) && decide (h.f1.size ≤ 281474976710656))
/-- What a round keeps: all below m but one variable. -/
def KpBut (m bo : Nat) (W W' : World) : Prop := W.heap.size ≤ W'.heap.size ∧ ∀ k, k < m → k ≠ bo → W'.heap[k]? = W.heap[k]?
theorem KpBut.refl (m bo : Nat) (W : World) : KpBut m bo W W := ⟨Nat.le_refl _, fun _ _ _ => rfl⟩
theorem KpBut.trans {m bo : Nat} {A B C : World} (h : KpBut m bo A B) (h' : KpBut m bo B C) : KpBut m bo A C := ⟨Nat.le_trans h.1 h'.1, fun k hk hne => (h'.2 k hk hne).trans (h.2 k hk hne)⟩
theorem KpBut.below {m bo : Nat} {A B : World} (h : Below A.heap.size A B) (hm : m ≤ A.heap.size) : KpBut m bo A B := ⟨h.size, fun k hk _ => h.block k (by omega)⟩
theorem KpBut.cell {m bo : Nat} {A B : World} (h : KpBut m bo A B) {p : Addr} {v : Value} (hp : p.block < m) (hne : p.block ≠ bo) (hc : A.cell? p = some v) : B.cell? p = some v :=
  (World.cell?_of_block (h.2 p.block hp hne)).trans hc
theorem KpBut.putObj {m bo s : Nat} (hm : m ≤ s) (W : World) (l : Nat) (o o' : Obj) (hl : s ≤ l) (_ : W.heap[l]? = some o) (_ : o.isCells = false) (_ : o.isWalk = false) : KpBut m bo W (W.putObj l o') := by
  refine ⟨by simp, fun k hk _ => World.putObj_heap_other (by omega)⟩
theorem hdrsB_at {l : List S24} {name : ByteArray} (h : hdrsB l name = true) : name.size ≤ 281474976710656 ∧ l.length ≤ 4398046511000 ∧ ∀ i : Nat, i < l.length → (rd_T24 l i).f0.size ≤ 281474976710656 ∧ (rd_T24 l i).f1.size ≤ 281474976710656 := by
  unfold hdrsB at h
  simp only [Bool.and_eq_true, decide_eq_true_eq, List.all_eq_true] at h
  refine ⟨h.1.1, h.1.2, fun i hi => ?_⟩
  have e : rd_T24 l (i : Int) = l[i] := by simp [rd_T24, List.getD_eq_getElem?_getD, List.getElem?_eq_getElem hi]
  rw [e]
  exact h.2 _ (List.getElem_mem hi)
theorem take_snoc_h (l : List S24) (k : Nat) (h : k < l.length) : l.take (k + 1) = l.take k ++ [rd_T24 l (k : Int)] := by
  have e : rd_T24 l (k : Int) = l[k] := by simp [rd_T24, List.getD_eq_getElem?_getD, List.getElem?_eq_getElem h]
  rw [e, List.take_succ_eq_append_getElem h]
/-- Between two rounds. -/
def VRel (hs : List S24) (name : ByteArray) (m bo : Nat) (W : World) (J : List ByteArray → World → Prop) (v : Value) (wr : World) : Prop :=
  ∃ k : Nat, k ≤ hs.length ∧ v = .int .i64 k ∧ KpBut m bo W wr ∧ J (valsOf (hs.take k) name) wr
attribute [local go_sem] Oper.semAt_some in
set_option maxRecDepth 100000 in
set_option maxHeartbeats 2000000 in
theorem values1_in (n : Nat) (hn : 1 ≤ n) (l m bo BL BN : Nat) (w : World) (A : Option Addr) (c : Nat) (hs : List S24) (name : ByteArray) (hok : hdrsB hs name = true) (hr : Kd.C k24 w A hs.length hs)
    (hwb : w.heap.size ≤ bo) (hwm : w.heap.size ≤ m) (hBN : BN < m) (hBNo : BN ≠ bo) (J Jx : List ByteArray → World → Prop)
    (W : World) (hW : ∀ k, k < w.heap.size → W.heap[k]? = w.heap[k]?) (hmW : m ≤ W.heap.size) (hJ : AbidesFrom W.heap.size J)
    (hY : ∀ pre x W1, J pre W1 → pre.length < hs.length → pre ++ [x] <+: valsOf hs name → YieldAt Fence.wide (n - 1) Tryd.prog l #[.string x] W1 fun e W' =>
      (e = .returned (.bool true) ∧ J (pre ++ [x]) W' ∧ KpBut m bo W1 W') ∨ (e = .returned (.bool false) ∧ Jx (pre ++ [x]) W'))
    (hcL : W.cell? ⟨BL, 0, none⟩ = some (.slice A hs.length c)) (hcN : W.cell? ⟨BN, 0, none⟩ = some (.string name)) (h0 : J [] W) :
    CallsIn Fence.wide n Tryd.prog 28 #[.func (.yield l) #[] #[], .pointer (some ⟨BL, 0, none⟩), .pointer (some ⟨BN, 0, none⟩)] W fun e W' => (∃ v, e = .returned v) ∧
      ((∃ ys, ys = valsOf hs name ∧ J ys W') ∨ (∃ pre, pre <+: valsOf hs name ∧ Jx pre W')) := by
  obtain ⟨hz, hlen, hsz⟩ := hdrsB_at hok
  refine callsIn_of_wp Tryd.func28 rfl trivial ?_ rfl
  simp only [Tryd.ntmps28, List.size_toArray, List.length_cons, List.length_nil, Nat.reduceAdd, Nat.reduceSub, Array.replicate_succ, Array.replicate_zero, List.push_toArray, List.append_toArray, List.nil_append, List.cons_append]
  have fw1 : Fence.wide.fn 29 := trivial
  have fw2 : Fence.wide.fn 10 := trivial
  have HR := Aside0.mk hr
  have HJ := Aside0.mk hJ
  have HY := Aside0.mk hY
  have HW := Aside0.mk hW
  have HS := Aside0.mk hsz
  have H0 := Aside0.mk h0
  have HN := Aside0.mk hcN
  clear hr hJ hY hW hsz h0 hok hcN
  gi_wp2
  gi_loopw [8] (fun v8 wr => VRel hs name m bo W J v8 wr) (fun v8 wr => hs.length - (intOf v8).toNat)
  case atStart => exact ⟨0, Nat.zero_le _, rfl, KpBut.refl _ _ _, by simpa [valsOf] using H0.out⟩
  case round =>
    clear H0
    obtain ⟨k, hk, rfl, hK, hJs⟩ := hrel
    have HK := Aside0.mk hK
    have HJs := Aside0.mk hJs
    clear hK hJs
    by_cases hlt : k < hs.length
    · obtain ⟨ad, hA, hx0, hx1⟩ := at_T24 HR.out (k : Int) (by omega) (by omega)
      subst hA
      have hvl := valsOf_len (hs.take k) name
      rw [List.length_take] at hvl
      have hsn := take_snoc_h hs k hlt
      have hpre := valsOf_take hs (k + 1) name
      obtain ⟨hs0, hs1⟩ := HS.out k hlt
      simp only [Int.toNat_natCast] at hx0 hx1
      generalize hh : rd_T24 hs (k : Int) = hd at *
      clear hh
      have hb0 := World.block_lt_of_cell? w _ hx0
      have hb1 := World.block_lt_of_cell? w _ hx1
      have hy0 : wr.cell? (ad.add (k * 2)) = some (.string hd.f0) := HK.out.cell (by omega) (by omega) ((World.cell?_of_block (HW.out _ hb0)).trans hx0)
      have hy1 : wr.cell? ⟨(ad.add (k * 2)).block, (ad.add (k * 2)).off + 1, none⟩ = some (.string hd.f1) := HK.out.cell (by simpa using Nat.lt_of_lt_of_le hb0 hwm) (by show (ad.add (k * 2)).block ≠ bo; omega) ((World.cell?_of_block (HW.out _ hb1)).trans hx1)
      have hyN : wr.cell? ⟨BN, 0, none⟩ = some (.string name) := HK.out.cell hBN hBNo HN.out
      have hyA := fun o => pw_cell_below (below_alloc (Below.refl wr.heap.size wr) o) hyN
      have hsw := HK.out.1
      clear hx0 hx1 hb0 hb1
      have HP := Aside0.mk hpre
      have HSN := Aside0.mk hsn
      clear hpre hsn
      by_cases hf : foldEq hd.f0 name = true
      · have hv : valsOf (hs.take (k + 1)) name = valsOf (hs.take k) name ++ [trimBA hd.f1] := by rw [HSN.out, valsOf_snoc, if_pos hf]
        have HV := Aside0.mk hv
        have hFold := Aside0.mk (fun W2 => octet_Fold.calls hd.f0 name true W2 (by rw [fold_some _ _ hs0 hz, hf]))
        have hTrim := Aside0.mk (fun W2 => octet_Trim.calls hd.f1 (trimBA hd.f1) W2 (trim_some _ hs1))
        clear hv hf
        generalize trimBA hd.f1 = tv at *
        gi_wp2_with (first | (gi_at_call 29; refine (callsIn_wide.2 (hFold.out _)).mono ?_; rintro e w2 ⟨rfl, hb2⟩; have hq2 := blk_below (blk_new wr _) hb2; have hc2 := blk_cell hq2 1; simp only [List.getElem?_toArray, List.getElem?_cons_succ, List.getElem?_cons_zero] at hc2; have HB2 := Aside0.mk hb2; clear hb2 hq2) | (gi_at_call 10; refine (callsIn_wide.2 (hTrim.out _)).mono ?_; rintro e w3 ⟨rfl, hb3⟩; have HB3 := Aside0.mk hb3; clear hb3 hc2; obtain ⟨fn, tmps, assign, body, hy, hRd⟩ := HY.out _ tv w3 (HJ.out _ _ _ none (HJ.out _ _ _ none (HJ.out _ _ _ none HJs.out (World.grownBy_alloc wr _ none) (by simp)) (grown_of_below HB2.out none) (by simp)) (grown_of_below HB3.out none) (by simp)) (by omega) (HV.out ▸ HP.out); have HRD := Aside0.mk hRd; clear hRd))
        refine HRD.out.mono ?_
        rintro e W4 (⟨rfl, hJ4, hk4⟩ | ⟨rfl, hJ4⟩)
        · have HJ4 := Aside0.mk hJ4
          have HK4 := Aside0.mk hk4
          clear hJ4 hk4
          gi_wp2
          go_roundw
          case rel => exact ⟨k + 1, by omega, by go_num, HK.out.trans ((KpBut.below ((Below.refl _ _).alloc (Nat.le_refl _) _) (by omega)).trans ((KpBut.below HB2.out (by simp; omega)).trans ((KpBut.below HB3.out (by have := HB2.out.size; simp at this; omega)).trans HK4.out))), by rw [HV.out]; exact HJ4.out⟩
          case measure => simp [intOf]; omega
        · have HJ4 := Aside0.mk hJ4
          clear hJ4
          gi_wp2
          refine bodyPost_ret (results_none rfl _ _ _) rfl ?_
          exact ⟨⟨_, rfl⟩, .inr ⟨_, HV.out ▸ HP.out, HJ4.out⟩⟩
      · have hv : valsOf (hs.take (k + 1)) name = valsOf (hs.take k) name := by rw [HSN.out, valsOf_snoc, if_neg hf, List.append_nil]
        have HV := Aside0.mk hv
        have hFold := Aside0.mk (fun W2 => octet_Fold.calls hd.f0 name false W2 (by rw [fold_some _ _ hs0 hz, Bool.not_eq_true _ |>.mp hf]))
        clear hv hf
        gi_wp2_with (first | (gi_at_call 29; refine (callsIn_wide.2 (hFold.out _)).mono ?_; rintro e w2 ⟨rfl, hb2⟩; have HB2 := Aside0.mk hb2; clear hb2))
        refine ⟨fun f h => (by cases h), ?_⟩
        gi_wp2
        go_roundw
        case rel => exact ⟨k + 1, by omega, by go_num, HK.out.trans ((KpBut.below ((Below.refl _ _).alloc (Nat.le_refl _) _) (by omega)).trans (KpBut.below HB2.out (by simp; omega))), by rw [HV.out]; exact HJ.out _ _ _ none (HJ.out _ _ _ none HJs.out (World.grownBy_alloc wr _ none) (by simp)) (grown_of_below HB2.out none) (by simp)⟩
        case measure => simp [intOf]; omega
    · obtain rfl : k = hs.length := by omega
      gi_wp2
      go_end0
      exact ⟨⟨_, rfl⟩, .inl ⟨_, by rw [List.take_length], HJs.out⟩⟩
set_option maxHeartbeats 1000000 in
theorem values_any (A : Option Addr) (n c : Nat) (name : ByteArray) (w : World) :
    Calls Tryd.prog 19 #[.slice A n c, .string name] w fun e w' => e = .returned (.func (.func 28) #[] #[.pointer (some ⟨w.heap.size, 0, none⟩), .pointer (some ⟨w.heap.size + 1, 0, none⟩)]) ∧ w' = (w.alloc (.cells #[.slice A n c] 25)).alloc (.cells #[.string name] 9) := by
  have hmf : ∀ (fn : Fn) (first cap : Array Value) (w : World), (Instr.makeFunc fn first cap).run Tryd.prog w = .ok (.func fn first cap) w := fun _ _ _ _ => rfl
  go_enter Tryd.func19, Tryd.ntmps19
  go_wp2
  go_ret
  exact ⟨rfl, rfl⟩
theorem values_stops (n : Nat) (hn : 1 ≤ n) (w W : World) (A : Option Addr) (c : Nat) (hs : List S24) (name : ByteArray) (hok : hdrsB hs name = true) (hr : Kd.C k24 w A hs.length hs) (bo BL BN : Nat)
    (hB : Below w.heap.size w W) (hbo : w.heap.size ≤ bo) (hBL : Boxed W BL 25 (.slice A hs.length c)) (hBN : Boxed W BN 9 (.string name)) (hne : BN ≠ bo) :
    SeqStopsK Fence.wide n Tryd.prog 28 #[.pointer (some ⟨BL, 0, none⟩), .pointer (some ⟨BN, 0, none⟩)] (fun x : ByteArray => #[Value.string x]) (KpBut W.heap.size bo) (fun ys => ys = valsOf hs name) (fun pre => pre <+: valsOf hs name) hs.length W := by
  intro l J Jx W1 hW1 hJ _ hY h0
  exact values1_in n hn l W.heap.size bo BL BN w A c hs name hok hr hbo hB.size hBN.lt hne J Jx W1 (fun k hk => (hW1.block k (by have := hB.size; omega)).trans (hB.block k hk)) hW1.size hJ (fun pre x W2 h1 h2 _ => hY pre x W2 h1 h2)
    ((hW1.cell (p := ⟨BL, 0, none⟩) hBL.lt).trans hBL.cell) ((hW1.cell (p := ⟨BN, 0, none⟩) hBN.lt).trans hBN.cell) h0
/-- The same, each value with the word that it is one. -/
theorem values_stopsM (n : Nat) (hn : 1 ≤ n) (w W : World) (A : Option Addr) (c : Nat) (hs : List S24) (name : ByteArray) (hok : hdrsB hs name = true) (hr : Kd.C k24 w A hs.length hs) (bo BL BN : Nat)
    (hB : Below w.heap.size w W) (hbo : w.heap.size ≤ bo) (hBL : Boxed W BL 25 (.slice A hs.length c)) (hBN : Boxed W BN 9 (.string name)) (hne : BN ≠ bo) :
    SeqStopsK Fence.wide n Tryd.prog 28 #[.pointer (some ⟨BL, 0, none⟩), .pointer (some ⟨BN, 0, none⟩)] (fun x : { x : ByteArray // x ∈ valsOf hs name } => #[Value.string x.1]) (KpBut W.heap.size bo) (fun ys => ys.map (fun x => x.1) = valsOf hs name) (fun pre => pre.map (fun x => x.1) <+: valsOf hs name) hs.length W := by
  intro l J Jx W1 hW1 hJ _ hY h0
  refine (values1_in n hn l W.heap.size bo BL BN w A c hs name hok hr hbo hB.size hBN.lt hne (fun pre W' => ∃ ys, ys.map (fun x => x.1) = pre ∧ J ys W') (fun pre W' => ∃ ys, ys.map (fun x => x.1) = pre ∧ Jx ys W') W1 (fun k hk => (hW1.block k (by have := hB.size; omega)).trans (hB.block k hk)) hW1.size
    (fun s A B row hs hg hr => by obtain ⟨ys, e, h⟩ := hs; exact ⟨ys, e, hJ _ _ _ row h hg hr⟩) ?_
    ((hW1.cell (p := ⟨BL, 0, none⟩) hBL.lt).trans hBL.cell) ((hW1.cell (p := ⟨BN, 0, none⟩) hBN.lt).trans hBN.cell) ⟨[], rfl, h0⟩).mono ?_
  · rintro pre x W2 ⟨ys, rfl, hys⟩ hlt hpre
    have hx : x ∈ valsOf hs name := hpre.subset (by simp)
    obtain ⟨fn, tmps, assign, body, hy, hR⟩ := hY ys ⟨x, hx⟩ W2 hys (by simpa using hlt)
    refine ⟨fn, tmps, assign, body, hy, hR.mono ?_⟩
    rintro e W' (⟨rfl, h1, h2⟩ | ⟨rfl, h1⟩)
    · exact .inl ⟨rfl, ⟨_, by simp, h1⟩, h2⟩
    · exact .inr ⟨rfl, ⟨_, by simp, h1⟩⟩
  · rintro e W' ⟨hv, ⟨ys, rfl, zs, e1, h⟩ | ⟨pre, hp, zs, rfl, h⟩⟩
    · exact ⟨hv, .inl ⟨zs, e1, h⟩⟩
    · exact ⟨hv, .inr ⟨zs, hp, h⟩⟩
/-- The gathering loop's variable: its box, and the row that it holds. -/
def GatherAt (w : World) (m bo : Nat) (pre : List ByteArray) (W : World) : Prop :=
  (∃ v, Boxed W bo 28 v ∧ W.ownsRow m 9 1 v pre.length (pre.map Value.string) ∧ True) ∧ Below w.heap.size w W ∧ m ≤ W.heap.size
theorem GatherAt.done {w : World} {m bo : Nat} {pre : List ByteArray} {W : World} (h : GatherAt w m bo pre W) (hm : w.heap.size ≤ m) : ∃ v, Boxed W bo 28 v ∧ Kd.R Kd.string 9 W w.heap.size (fun _ => True) v pre ∧ Below w.heap.size w W := by
  obtain ⟨⟨v, hv, hrow, _⟩, hB, _⟩ := h
  exact ⟨v, hv, Kd.R_of_own (by simpa [encs] using own_weaken hrow hm) (fun _ _ => trivial), hB⟩
theorem GatherAt.own (w : World) (m bo B : Nat) (hB : w.heap.size ≤ B) : OwnFrom B (GatherAt w m bo) :=
  OwnFrom.and (Own.from (holdsRow_own m bo 28 9 1 (fun pre : List ByteArray => pre.length) (fun pre => pre.map Value.string) (fun _ _ => True)) _)
    (OwnFrom.and (ownFrom_below (Nat.le_refl _) hB) (fun s W W' row hs hg _ => Nat.le_trans hs hg.size))
theorem R_putObj {α : Type} {d : Kd α} {e : Nat} {w : World} {base : Nat} {ok : Nat → Prop} {v : Value} {xs : List α} (h : d.R e w base ok v xs) {D : Nat} {o : Obj} (hD : w.heap[D]? = some o) (hc : o.isCells = false) (o' : Obj) : d.R e (w.putObj D o') base ok v xs :=
  Kd.R_mono (Kd.R_move (Kd.R_bound h) (fun k hk => World.putObj_heap_other (by
    rintro rfl
    obtain ⟨_, _, _, q, _, cells, hcell⟩ := hk
    rw [hD] at hcell
    cases hcell
    cases hc))) (fun _ hk => hk.1)
theorem gathered {W w1 : World} {m bo : Nat} {t e : TypeId} {size : Nat} {v v' : Value} {k n : Nat} {xs ys : List Value} {tmp : Obj}
    (hv : Boxed W bo t v) (hte : t ≠ e) (hrow : W.ownsRow m e size v k xs) (hm : m ≤ W.heap.size) (hb : bo < m)
    (hown' : w1.ownsRow m e size v' n ys) (hgrow : (W.alloc tmp).grownBy w1 v.ownBlock) :
    Boxed w1 bo t v ∧ Boxed (w1.setCell ⟨bo, 0, none⟩ v') bo t v' ∧ (w1.setCell ⟨bo, 0, none⟩ v').ownsRow m e size v' n ys ∧ KeepsOthers W (w1.setCell ⟨bo, 0, none⟩ v') ∧ Below bo W (w1.setCell ⟨bo, 0, none⟩ v') ∧ KpBut m bo W (w1.setCell ⟨bo, 0, none⟩ v') := by
  obtain ⟨h1, h2, _, h4, h5⟩ := hv.appended hte (own_weaken hrow (by omega)) (by omega) (Nat.le_refl _) (own_weaken hown' (by omega)) hgrow
  refine ⟨h1, h2, hown'.kept (grownBy_setCell' w1 bo v') (.inr (h1.not_row hte hown').symm), h4, h5, h5.size, fun k hk hne => ?_⟩
  rw [Below.heap_setCell w1 ⟨bo, 0, none⟩ v' k hne]
  refine (hgrow.block k (by simp; omega) (fun e => ?_)).trans (Below.heap_alloc W tmp k (by omega))
  have := own_base hrow k e.symm
  omega


/-! ### headers_Values: function 9 -/
def headers_Values.f (l0 : List S24) (a1 : ByteArray) : Option (List ByteArray) := if hdrsB l0 a1 = true then some (valsOf l0 a1) else none
attribute [local go_sem] Oper.semAt_some in
set_option maxRecDepth 100000 in
set_option maxHeartbeats 2000000 in
theorem values_ok (A0 : Option Addr) (c0 : Nat) (l0 : List S24) (a1 : ByteArray) (w : World) (hr0 : Kd.C k24 w A0 l0.length l0) (hc0 : l0.length ≤ c0) (hok : hdrsB l0 a1 = true) :
    Calls Tryd.prog 9 #[.slice A0 l0.length c0, .string a1] w fun e w' => ∃ v0_ : Value, e = .returned v0_ ∧ Kd.R Kd.string 9 w' w.heap.size (fun _ => True) v0_ (valsOf l0 a1) ∧ Below w.heap.size w w' := by
  obtain ⟨hz, hlen, hsz⟩ := hdrsB_at hok
  clear hz hsz
  obtain ⟨i0, hi, hz0, hz1, hz2⟩ := info_parts info9
  refine (callsIn_wide (n := 5)).1 ?_
  refine callsIn_of_wp_marks Tryd.func9 rfl trivial ?_ rfl
  simp only [Tryd.ntmps9, List.size_toArray, List.length_cons, List.length_nil, Nat.reduceAdd, Nat.reduceSub, Array.replicate_succ, Array.replicate_zero, List.push_toArray, List.append_toArray, List.nil_append, List.cons_append]
  have fw1 : Fence.wide.fn 19 := trivial
  have hv := fun W => values_any A0 l0.length c0 a1 W
  have HV := Aside0.mk hv
  have HR := Aside0.mk hr0
  have HOK := Aside0.mk hok
  clear hv hr0 hok
  gi_wp2_with (gi_at_call 19; refine (callsIn_wide.2 (HV.out _)).mono ?_; rintro e w' ⟨rfl, rfl⟩)
  have bO := Boxed.new w 28 (.slice none 0 0)
  have bL := Boxed.new (w.alloc (.cells #[.slice none 0 0] 28)) 25 (.slice A0 l0.length c0)
  have bN := Boxed.new ((w.alloc (.cells #[.slice none 0 0] 28)).alloc (.cells #[.slice A0 l0.length c0] 25)) 9 (.string a1)
  rw [World.size_alloc] at bL
  rw [World.size_alloc, World.size_alloc] at bN
  have hB0 : Below w.heap.size w (((w.alloc (.cells #[.slice none 0 0] 28)).alloc (.cells #[.slice A0 l0.length c0] 25)).alloc (.cells #[.string a1] 9)) := (((Below.refl _ w).alloc (Nat.le_refl _) _).alloc (by simp) _).alloc (by simp; omega) _
  refine wpIn_rangeFunc_ownG rfl (by omega) (gf := 28) (lb := #[.pointer (some ⟨w.heap.size + 1, 0, none⟩), .pointer (some ⟨w.heap.size + 1 + 1, 0, none⟩)]) rfl trivial (enters_of Tryd.func28 (by kernel_rfl) rfl)
    (values_stops 4 (by omega) w _ A0 c0 l0 a1 HOK.out HR.out w.heap.size (w.heap.size + 1) (w.heap.size + 1 + 1) hB0 (Nat.le_refl _) (bL.alloc _) bN (by omega)) KpBut.trans (KpBut.putObj (Nat.le_refl _)) (Below.refl _ _) (fun _ => rfl)
    (fun pre W => GatherAt w (w.heap.size + 3) w.heap.size pre W) (fun _ _ _ => False)
    (GatherAt.own _ _ _ _ (by simp; omega))
    (fun _ _ _ _ _ hs _ _ => hs)
    ⟨⟨_, (bO.alloc _).alloc _, World.ownsRow_nil _ _ _ _, trivial⟩, hB0, by simp⟩
    (fun x => { tmps := #[.slice A0 l0.length c0, .string a1, undef, undef, .pointer (some ⟨w.heap.size, 0, none⟩), .string x, .slice A0 l0.length c0, .string a1, .func (.func 28) #[] #[.pointer (some ⟨w.heap.size + 1, 0, none⟩), .pointer (some ⟨w.heap.size + 1 + 1, 0, none⟩)], .string x, undef, undef, undef, undef, undef], defers := [] }) ?assign ?body ?done ?stop
  case assign =>
    intro l x W K hK
    gi_wp2
    exact hK
  case body =>
    rintro l pre x W ⟨⟨v, hv, hrow, _⟩, hB, hWs⟩ hlt
    have hc := hv.cell
    gi_wp2_with (gi_at_builtin; refine wpListIn_append_own _ rfl _ _ 28 rfl (w.heap.size + 3) 9 i0 (.string ⟨#[]⟩) 1 16 Tryd.underlying28 hi hz0 hz1 hz2 rfl (by decide) _ _ _ rfl (hrow.alloc _) ⟨W.heap.size, 0, none⟩ 1 1 [.string x] rfl rfl (cell_one_new _ _ _) (by simp [Value.oneCell']) (by simp only [maxLen]; omega) (by omega) (by simp; omega) ?_; intro v' w1 hown' hgrow _; obtain ⟨g', cap', rfl⟩ := ownsRow_succ hown'; obtain ⟨hv1, hv2, hr2, hk2, hb2, hkp⟩ := gathered hv (by decide) hrow hWs (by omega) hown' hgrow; have hc1 := hv1.cell; have hf1 := hv1.frozen)
    exact ⟨hk2.from _, by simpa using hkp, ⟨_, hv2, by simpa using hr2, trivial⟩, hB.trans hb2, Nat.le_trans hWs hb2.size⟩
  case done =>
    rintro D ys W hD rfl hG hK
    obtain ⟨v, hbx, hRR, hBB⟩ := hG.done (by omega)
    obtain ⟨A1, c1, hv1⟩ := Kd.R_slice hRR
    generalize (valsOf l0 a1).length = n1 at hv1
    subst hv1
    have hc1 := hbx.cell
    have hf1 := hbx.frozen
    have HRR := Aside0.mk hRR
    have HBB := Aside0.mk hBB
    have HBX := Aside0.mk hbx
    clear hRR hBB hbx
    gi_wp2
    have hK2 := (KeepsOthers.setCell W ⟨w.heap.size, 0, none⟩ (.slice A1 n1 c1)).same D _ hK rfl
    have hD2 : D ≠ w.heap.size := by simp at hD; omega
    refine ⟨by simp, .inl ⟨_, _, rfl, run_takeDeferred hK2, ?_⟩⟩
    have hb3 : Boxed ((W.setCell ⟨w.heap.size, 0, none⟩ (.slice A1 n1 c1)).putObj D (.deferred none)) w.heap.size 28 (.slice A1 n1 c1) := (World.putObj_heap_other (Ne.symm hD2)).trans (HBX.out.set _)
    have hc3 := hb3.cell
    refine ⟨.slice A1 n1 c1, by simp [results, Tryd.results9, go_sem, hc3], ?_⟩
    exact ⟨_, rfl, R_putObj (Kd.R_set HRR.out HBX.out (by decide) 0 _) hK2 rfl _, (HBB.out.setCell (p := ⟨w.heap.size, 0, none⟩) (Nat.le_refl _) _).trans (belowK_b (w := w) (Nat.le_refl _) _ D _ _ (by simp at hD; omega) hK2 rfl rfl)⟩
  case stop =>
    rintro D c pre W _ _ h _
    exact h.elim
theorem headers_Values.calls (A0 : Option Addr) (c0 : Nat) (l0 : List S24) (a1 : ByteArray) (r : List ByteArray) (w : World) (hr0 : Kd.C k24 w A0 l0.length l0) (hc0 : l0.length ≤ c0) (h : headers_Values.f l0 a1 = some r) :
    Calls Tryd.prog 9 #[.slice A0 l0.length c0, .string a1] w fun e w' => ∃ v0_ : Value, e = .returned v0_ ∧ Kd.R Kd.string 9 w' w.heap.size (fun _ => True) v0_ r ∧ Below w.heap.size w w' := by
  unfold headers_Values.f at h
  split at h
  · rename_i hok
    obtain rfl := Option.some.inj h
    exact values_ok A0 c0 l0 a1 w hr0 hc0 hok
  · cases h


/-! ### strings_Join: function 18 -/
def joinBA (l : List ByteArray) (sep : ByteArray) : ByteArray := ⟨(Lib.join (l.map (·.data.toList)) sep.data.toList).toArray⟩
def strings_Join.f (l0 : List ByteArray) (a1 : ByteArray) : Option ByteArray := if (joinBA l0 a1).size ≤ 140737488355328 ∧ l0.length ≤ 8796093022208 then some (joinBA l0 a1) else none
theorem cell_spot {w : World} {a : Addr} {v : Value} (h : w.cell? a = some v) : a.spot = none := by
  unfold World.cell? at h
  split at h
  · cases hs : a.spot with
    | none => rfl
    | some x => simp [hs] at h
  · cases h
theorem strings_Join.calls (A0 : Option Addr) (c0 : Nat) (l0 : List ByteArray) (a1 : ByteArray) (r : ByteArray) (w : World) (hr0 : Kd.C Kd.string w A0 l0.length l0) (hc0 : l0.length ≤ c0) (h : strings_Join.f l0 a1 = some r) :
    Calls Tryd.prog 18 #[.slice A0 l0.length c0, .string a1] w fun e w' => e = .returned (.string r) ∧ Below w.heap.size w w' := by
  unfold strings_Join.f at h
  split at h
  · rename_i hs
    obtain rfl := Option.some.inj h
    clear h
    cases l0 with
    | nil => exact (Tryd.strings_Join_none A0 c0 a1 w).mono fun e w' ⟨h1, h2⟩ => ⟨h1, by subst h2; exact Below.refl _ _⟩
    | cons x xs =>
      obtain ⟨ad, c, e, _, hK, hc⟩ := Kd.C_get hr0 (⟨#[]⟩ : ByteArray) 0 (Int.le_refl _) (by simp)
      obtain rfl := e
      have hall : ∀ (j : Nat) y, (x :: xs)[j]? = some y → w.cell? (ad.add j) = some (.string y) := by
        intro j y hj
        have hjl : j < (x :: xs).length := (List.getElem?_eq_some_iff.1 hj).1
        obtain ⟨ad', c', e', _, hK', hc'⟩ := Kd.C_get hr0 (⟨#[]⟩ : ByteArray) (j : Int) (by omega) (by omega)
        injection e' with e'
        subst e'
        have e2 : c' = [.string y] := by
          have : (x :: xs).getD j (⟨#[]⟩ : ByteArray) = y := by rw [List.getD_eq_getElem?_getD, hj]; rfl
          simp only [Int.toNat_natCast, this] at hK'
          exact hK'
        subst e2
        have := hc' 0 _ rfl
        simpa [show (Kd.string).sz = 1 from rfl] using this
      have h0 := hall 0 x rfl
      have hsp : ad.spot = none := by have := cell_spot h0; unfold Addr.add at this; simpa using this
      obtain ⟨bk, o, sp⟩ := ad
      simp only at hsp
      subst hsp
      have hlt := World.block_lt_of_cell? w _ h0
      refine (Tryd.strings_Join bk o c0 (x :: xs) a1 w (fun j y hj => ?_) (by simpa [Addr.add] using hlt) (by omega) hc0 (by have := hs.1; unfold joinBA at this; simpa [ByteArray.size] using this)).mono fun e w' hh => hh
      have := hall j y hj
      unfold Addr.add at this
      by_cases hj0 : j = 0
      · subst hj0; simpa using this
      · simpa [hj0] using this
  · cases h


/-! ### headers_Combined: function 8 -/
def headers_Combined.f (l0 : List (S24)) (a1 : ByteArray) : Option (ByteArray × Bool) := (headers_Values.f l0 a1).bind fun t103 => ((strings_Join.f t103 (⟨#[44, 32]⟩ : ByteArray)).bind fun t106 => (some (t106, decide ((t103.length : Int) > 0))))
set_option maxHeartbeats 8000000 in
set_option maxRecDepth 100000 in
theorem headers_Combined.calls (A0 : Option Addr) (c0 : Nat) (l0 : List (S24)) (a1 : ByteArray) (r1 : ByteArray) (r2 : Bool) (w : World) (hr0 : Kd.C k24 w A0 l0.length l0) (hc0 : l0.length ≤ c0) (h : headers_Combined.f l0 a1 = some (r1, r2)) :
    Calls Tryd.prog 8 #[.slice A0 l0.length c0, .string a1] w fun e w' => e = .returned (.tuple #[.string r1, .bool r2]) ∧ Below w.heap.size w w' := by
  have HR0 := Aside0.mk hr0
  have HC0 := Aside0.mk hc0
  clear hr0 hc0
  have HB := Aside0.mk (Below.refl w.heap.size w)
  have H : ((headers_Values.f l0 a1).bind fun t103 => ((strings_Join.f t103 (⟨#[44, 32]⟩ : ByteArray)).bind fun t106 => (some (t106, decide ((t103.length : Int) > 0))))) = some (r1, r2) := h
  clear h
  replace H := Option.bind_eq_some_iff.mp H
  obtain ⟨t103, A30, H⟩ := H
  replace H : ((strings_Join.f t103 (⟨#[44, 32]⟩ : ByteArray)).bind fun t106 => (some (t106, decide ((t103.length : Int) > 0)))) = some (r1, r2) := H
  have A3 := Aside0.mk A30
  clear A30
  replace H := Option.bind_eq_some_iff.mp H
  obtain ⟨t106, A40, H⟩ := H
  replace H : (some (t106, decide ((t103.length : Int) > 0))) = some (r1, r2) := H
  have A4 := Aside0.mk A40
  clear A40
  simp only [Option.some.injEq, Prod.mk.injEq] at H
  obtain ⟨rfl, rfl⟩ := H
  go_enter Tryd.func8, Tryd.ntmps8
  go_wp2_with (first | ((with_reducible refine gate_callee (f := 9) rfl ?_); refine goesL_ (some 9) rfl rfl Tryd.func9 (by kernel_rfl) rfl #[.slice A0 l0.length c0, .string a1] rfl (by (try simp only [List.map_toArray, List.map_cons, List.map_nil]); first | done | rfl | (simp only [List.length_drop, List.length_take]; rfl)) ?_; (with_reducible refine (headers_Values.calls _ _ l0 a1 t103 _ ?side1 ?side2 A3.out).mono ?_); (case side1 => repeat (first | exact HR0.out | (with_reducible refine Kd.C_alloc ?_ _) | (with_reducible refine Kd.C_drewN ?_ _) | (with_reducible refine Kd.C_drew ?_))); (case side2 => exact HC0.out); rintro e w5 ⟨v104, rfl, ho0, hb⟩; refine ⟨_, rfl, ?_⟩; have n0_ := Aside0.mk (Kd.R_lower ho0 (below_size (by repeat (first | (with_reducible first | exact HB.out | apply below_alloc | apply pw_below_drewN | apply below_drew1) | exact HB.out)))); have n1_ := Aside0.mk (below_step (by repeat (first | (with_reducible first | exact HB.out | apply below_alloc | apply pw_below_drewN | apply below_drew1) | exact HB.out)) hb); clear HB; have HO105 := n0_; have HB := n1_; clear n0_ n1_; (try clear hb); (try clear hb2); (try clear hk); (try clear hi); (try clear ho0); obtain ⟨Ao6, co6, eo6⟩ := Kd.R_slice HO105.out; subst eo6) | ((with_reducible refine gate_callee (f := 18) rfl ?_); refine goesL_ (some 11) rfl rfl Tryd.func18 (by kernel_rfl) rfl #[.slice Ao6 t103.length co6, .string (⟨#[44, 32]⟩ : ByteArray)] rfl (by (try simp only [List.map_toArray, List.map_cons, List.map_nil]); first | done | rfl | (simp only [List.length_drop, List.length_take]; rfl)) ?_; (with_reducible refine (strings_Join.calls _ _ t103 (⟨#[44, 32]⟩ : ByteArray) t106 _ ?side1 ?side2 A4.out).mono ?_); (case side1 => repeat (first | exact (Kd.R_reads' HO105.out).2.2 | (with_reducible refine Kd.C_alloc ?_ _) | (with_reducible refine Kd.C_drewN ?_ _) | (with_reducible refine Kd.C_drew ?_))); (case side2 => exact (Kd.R_reads' HO105.out).2.1); rintro e w7 ⟨rfl, hb⟩; refine ⟨_, rfl, ?_⟩; have n0_ := Aside0.mk (Kd.R_below (by (with_reducible repeat (first | apply Kd.R_alloc | apply Kd.R_drewN | apply Kd.R_drew)); exact HO105.out) hb); have n1_ := Aside0.mk (below_step (by repeat (first | (with_reducible first | exact HB.out | apply below_alloc | apply pw_below_drewN | apply below_drew1) | exact HB.out)) hb); clear HO105; clear HB; have HO105 := n0_; have HB := n1_; clear n0_ n1_; (try clear hb); (try clear hb2); (try clear hk); (try clear hi)))
  go_ret2
  exact ⟨by first | rfl | (simp [errW_none, errW_some] <;> rfl) | (simp [*, errW_none, errW_some] <;> rfl) | (simp [q_ne_nil]; done), by repeat (first | (with_reducible first | exact HB.out | apply below_alloc | apply pw_below_drewN | apply below_drew1) | exact HB.out)⟩

/-! ### strings_IndexByte: function 37 -/
def strings_IndexByte.f (a0 : ByteArray) (a1 : Int) : Option Int := some (Lib.indexByte a0.data.toList a1.toNat.toUInt8)
theorem strings_IndexByte.calls (a0 : ByteArray) (a1 : Int) (r : Int) (w : World) (h : strings_IndexByte.f a0 a1 = some r) :
    Calls Tryd.prog 37 #[.string a0, .int .u8 a1] w fun e w' => e = .returned (.int .i64 r) ∧ Drawn0 w w' := by
  obtain rfl := Option.some.inj h
  exact (Tryd.strings_IndexByte a0 a1 w).mono fun e w' ⟨h1, h2⟩ => ⟨h1, by subst h2; exact Drawn0.refl _⟩


/-! ### octet_tchar: function 21 -/
def octet_tchar.f (a0 : Int) : Option (Bool) := if (Go.bits .or .u8 a0 32) ≥ 97 then (if (Go.bits .or .u8 a0 32) ≤ 122 then (if a0 ≥ 65 then (if a0 ≤ 122 then (some true) else (if a0 ≥ 48 then (if a0 ≤ 57 then (some true) else ((strings_IndexByte.f (⟨#[33, 35, 36, 37, 38, 39, 42, 43, 45, 46, 94, 95, 124, 126, 96]⟩ : ByteArray) a0).bind fun t107 => (some (decide (t107 ≥ 0))))) else ((strings_IndexByte.f (⟨#[33, 35, 36, 37, 38, 39, 42, 43, 45, 46, 94, 95, 124, 126, 96]⟩ : ByteArray) a0).bind fun t108 => (some (decide (t108 ≥ 0)))))) else (if a0 ≥ 48 then (if a0 ≤ 57 then (some true) else ((strings_IndexByte.f (⟨#[33, 35, 36, 37, 38, 39, 42, 43, 45, 46, 94, 95, 124, 126, 96]⟩ : ByteArray) a0).bind fun t109 => (some (decide (t109 ≥ 0))))) else ((strings_IndexByte.f (⟨#[33, 35, 36, 37, 38, 39, 42, 43, 45, 46, 94, 95, 124, 126, 96]⟩ : ByteArray) a0).bind fun t110 => (some (decide (t110 ≥ 0)))))) else (if a0 ≥ 48 then (if a0 ≤ 57 then (some true) else ((strings_IndexByte.f (⟨#[33, 35, 36, 37, 38, 39, 42, 43, 45, 46, 94, 95, 124, 126, 96]⟩ : ByteArray) a0).bind fun t111 => (some (decide (t111 ≥ 0))))) else ((strings_IndexByte.f (⟨#[33, 35, 36, 37, 38, 39, 42, 43, 45, 46, 94, 95, 124, 126, 96]⟩ : ByteArray) a0).bind fun t112 => (some (decide (t112 ≥ 0)))))) else (if a0 ≥ 48 then (if a0 ≤ 57 then (some true) else ((strings_IndexByte.f (⟨#[33, 35, 36, 37, 38, 39, 42, 43, 45, 46, 94, 95, 124, 126, 96]⟩ : ByteArray) a0).bind fun t113 => (some (decide (t113 ≥ 0))))) else ((strings_IndexByte.f (⟨#[33, 35, 36, 37, 38, 39, 42, 43, 45, 46, 94, 95, 124, 126, 96]⟩ : ByteArray) a0).bind fun t114 => (some (decide (t114 ≥ 0)))))
set_option maxHeartbeats 8000000 in
set_option maxRecDepth 100000 in
theorem octet_tchar.calls (a0 : Int) (r : Bool) (w : World) (h : octet_tchar.f a0 = some r) :
    Calls Tryd.prog 21 #[.int .u8 a0] w fun e w' => e = .returned (.bool r) ∧ Drawn0 w w' := by
  have H : (if (Go.bits .or .u8 a0 32) ≥ 97 then (if (Go.bits .or .u8 a0 32) ≤ 122 then (if a0 ≥ 65 then (if a0 ≤ 122 then (some true) else (if a0 ≥ 48 then (if a0 ≤ 57 then (some true) else ((strings_IndexByte.f (⟨#[33, 35, 36, 37, 38, 39, 42, 43, 45, 46, 94, 95, 124, 126, 96]⟩ : ByteArray) a0).bind fun t107 => (some (decide (t107 ≥ 0))))) else ((strings_IndexByte.f (⟨#[33, 35, 36, 37, 38, 39, 42, 43, 45, 46, 94, 95, 124, 126, 96]⟩ : ByteArray) a0).bind fun t108 => (some (decide (t108 ≥ 0)))))) else (if a0 ≥ 48 then (if a0 ≤ 57 then (some true) else ((strings_IndexByte.f (⟨#[33, 35, 36, 37, 38, 39, 42, 43, 45, 46, 94, 95, 124, 126, 96]⟩ : ByteArray) a0).bind fun t109 => (some (decide (t109 ≥ 0))))) else ((strings_IndexByte.f (⟨#[33, 35, 36, 37, 38, 39, 42, 43, 45, 46, 94, 95, 124, 126, 96]⟩ : ByteArray) a0).bind fun t110 => (some (decide (t110 ≥ 0)))))) else (if a0 ≥ 48 then (if a0 ≤ 57 then (some true) else ((strings_IndexByte.f (⟨#[33, 35, 36, 37, 38, 39, 42, 43, 45, 46, 94, 95, 124, 126, 96]⟩ : ByteArray) a0).bind fun t111 => (some (decide (t111 ≥ 0))))) else ((strings_IndexByte.f (⟨#[33, 35, 36, 37, 38, 39, 42, 43, 45, 46, 94, 95, 124, 126, 96]⟩ : ByteArray) a0).bind fun t112 => (some (decide (t112 ≥ 0)))))) else (if a0 ≥ 48 then (if a0 ≤ 57 then (some true) else ((strings_IndexByte.f (⟨#[33, 35, 36, 37, 38, 39, 42, 43, 45, 46, 94, 95, 124, 126, 96]⟩ : ByteArray) a0).bind fun t113 => (some (decide (t113 ≥ 0))))) else ((strings_IndexByte.f (⟨#[33, 35, 36, 37, 38, 39, 42, 43, 45, 46, 94, 95, 124, 126, 96]⟩ : ByteArray) a0).bind fun t114 => (some (decide (t114 ≥ 0)))))) = some r := h
  clear h
  by_cases c2 : (Go.bits .or .u8 a0 32) ≥ 97
  · rw [if_pos c2] at H
    have c2b0 : decide (97 ≤ (Go.bits .or .u8 a0 32)) = true := decide_eq_true c2
    clear c2
    by_cases c3 : (Go.bits .or .u8 a0 32) ≤ 122
    · rw [if_pos c3] at H
      have c3b0 : decide ((Go.bits .or .u8 a0 32) ≤ 122) = true := decide_eq_true c3
      clear c3
      by_cases c4 : a0 ≥ 65
      · rw [if_pos c4] at H
        have c4b0 : decide (65 ≤ a0) = true := decide_eq_true c4
        clear c4
        by_cases c5 : a0 ≤ 122
        · rw [if_pos c5] at H
          have c5b0 : decide (a0 ≤ 122) = true := decide_eq_true c5
          clear c5
          obtain rfl := Option.some.inj H
          go_enter Tryd.func21, Tryd.ntmps21
          go_wp2
          go_ret
          exact ⟨by first | rfl | (simp; done) | (simp [*]; done) | (simp [q_ne_nil]; done), by repeat (first | exact Drawn0.refl _ | apply Drawn0.step)⟩
        · rw [if_neg c5] at H
          have c5b0 : decide (a0 ≤ 122) = false := decide_eq_false c5
          clear c5
          by_cases c6 : a0 ≥ 48
          · rw [if_pos c6] at H
            have c6b0 : decide (48 ≤ a0) = true := decide_eq_true c6
            clear c6
            by_cases c7 : a0 ≤ 57
            · rw [if_pos c7] at H
              have c7b0 : decide (a0 ≤ 57) = true := decide_eq_true c7
              clear c7
              obtain rfl := Option.some.inj H
              go_enter Tryd.func21, Tryd.ntmps21
              go_wp2
              go_ret
              exact ⟨by first | rfl | (simp; done) | (simp [*]; done) | (simp [q_ne_nil]; done), by repeat (first | exact Drawn0.refl _ | apply Drawn0.step)⟩
            · rw [if_neg c7] at H
              have c7b0 : decide (a0 ≤ 57) = false := decide_eq_false c7
              clear c7
              replace H := Option.bind_eq_some_iff.mp H
              obtain ⟨t107, A80, H⟩ := H
              replace H : (some (decide (t107 ≥ 0))) = some r := H
              have A8 := Aside0.mk A80
              clear A80
              obtain rfl := Option.some.inj H
              go_enter Tryd.func21, Tryd.ntmps21
              go_wp2_with (first | (go_at_call 37; (with_reducible refine (strings_IndexByte.calls (⟨#[33, 35, 36, 37, 38, 39, 42, 43, 45, 46, 94, 95, 124, 126, 96]⟩ : ByteArray) a0 t107 _ A8.out).mono ?_); rintro e w' ⟨rfl, ⟨nd, rfl⟩⟩))
              go_ret
              exact ⟨by first | rfl | (simp; done) | (simp [*]; done) | (simp [q_ne_nil]; done), by repeat (first | exact Drawn0.refl _ | apply Drawn0.step)⟩
          · rw [if_neg c6] at H
            have c6b0 : decide (48 ≤ a0) = false := decide_eq_false c6
            clear c6
            replace H := Option.bind_eq_some_iff.mp H
            obtain ⟨t108, A90, H⟩ := H
            replace H : (some (decide (t108 ≥ 0))) = some r := H
            have A9 := Aside0.mk A90
            clear A90
            obtain rfl := Option.some.inj H
            go_enter Tryd.func21, Tryd.ntmps21
            go_wp2_with (first | (go_at_call 37; (with_reducible refine (strings_IndexByte.calls (⟨#[33, 35, 36, 37, 38, 39, 42, 43, 45, 46, 94, 95, 124, 126, 96]⟩ : ByteArray) a0 t108 _ A9.out).mono ?_); rintro e w' ⟨rfl, ⟨nd, rfl⟩⟩))
            go_ret
            exact ⟨by first | rfl | (simp; done) | (simp [*]; done) | (simp [q_ne_nil]; done), by repeat (first | exact Drawn0.refl _ | apply Drawn0.step)⟩
      · rw [if_neg c4] at H
        have c4b0 : decide (65 ≤ a0) = false := decide_eq_false c4
        clear c4
        by_cases c10 : a0 ≥ 48
        · rw [if_pos c10] at H
          have c10b0 : decide (48 ≤ a0) = true := decide_eq_true c10
          clear c10
          by_cases c11 : a0 ≤ 57
          · rw [if_pos c11] at H
            have c11b0 : decide (a0 ≤ 57) = true := decide_eq_true c11
            clear c11
            obtain rfl := Option.some.inj H
            go_enter Tryd.func21, Tryd.ntmps21
            go_wp2
            go_ret
            exact ⟨by first | rfl | (simp; done) | (simp [*]; done) | (simp [q_ne_nil]; done), by repeat (first | exact Drawn0.refl _ | apply Drawn0.step)⟩
          · rw [if_neg c11] at H
            have c11b0 : decide (a0 ≤ 57) = false := decide_eq_false c11
            clear c11
            replace H := Option.bind_eq_some_iff.mp H
            obtain ⟨t109, A120, H⟩ := H
            replace H : (some (decide (t109 ≥ 0))) = some r := H
            have A12 := Aside0.mk A120
            clear A120
            obtain rfl := Option.some.inj H
            go_enter Tryd.func21, Tryd.ntmps21
            go_wp2_with (first | (go_at_call 37; (with_reducible refine (strings_IndexByte.calls (⟨#[33, 35, 36, 37, 38, 39, 42, 43, 45, 46, 94, 95, 124, 126, 96]⟩ : ByteArray) a0 t109 _ A12.out).mono ?_); rintro e w' ⟨rfl, ⟨nd, rfl⟩⟩))
            go_ret
            exact ⟨by first | rfl | (simp; done) | (simp [*]; done) | (simp [q_ne_nil]; done), by repeat (first | exact Drawn0.refl _ | apply Drawn0.step)⟩
        · rw [if_neg c10] at H
          have c10b0 : decide (48 ≤ a0) = false := decide_eq_false c10
          clear c10
          replace H := Option.bind_eq_some_iff.mp H
          obtain ⟨t110, A130, H⟩ := H
          replace H : (some (decide (t110 ≥ 0))) = some r := H
          have A13 := Aside0.mk A130
          clear A130
          obtain rfl := Option.some.inj H
          go_enter Tryd.func21, Tryd.ntmps21
          go_wp2_with (first | (go_at_call 37; (with_reducible refine (strings_IndexByte.calls (⟨#[33, 35, 36, 37, 38, 39, 42, 43, 45, 46, 94, 95, 124, 126, 96]⟩ : ByteArray) a0 t110 _ A13.out).mono ?_); rintro e w' ⟨rfl, ⟨nd, rfl⟩⟩))
          go_ret
          exact ⟨by first | rfl | (simp; done) | (simp [*]; done) | (simp [q_ne_nil]; done), by repeat (first | exact Drawn0.refl _ | apply Drawn0.step)⟩
    · rw [if_neg c3] at H
      have c3b0 : decide ((Go.bits .or .u8 a0 32) ≤ 122) = false := decide_eq_false c3
      clear c3
      by_cases c14 : a0 ≥ 48
      · rw [if_pos c14] at H
        have c14b0 : decide (48 ≤ a0) = true := decide_eq_true c14
        clear c14
        by_cases c15 : a0 ≤ 57
        · rw [if_pos c15] at H
          have c15b0 : decide (a0 ≤ 57) = true := decide_eq_true c15
          clear c15
          obtain rfl := Option.some.inj H
          go_enter Tryd.func21, Tryd.ntmps21
          go_wp2
          go_ret
          exact ⟨by first | rfl | (simp; done) | (simp [*]; done) | (simp [q_ne_nil]; done), by repeat (first | exact Drawn0.refl _ | apply Drawn0.step)⟩
        · rw [if_neg c15] at H
          have c15b0 : decide (a0 ≤ 57) = false := decide_eq_false c15
          clear c15
          replace H := Option.bind_eq_some_iff.mp H
          obtain ⟨t111, A160, H⟩ := H
          replace H : (some (decide (t111 ≥ 0))) = some r := H
          have A16 := Aside0.mk A160
          clear A160
          obtain rfl := Option.some.inj H
          go_enter Tryd.func21, Tryd.ntmps21
          go_wp2_with (first | (go_at_call 37; (with_reducible refine (strings_IndexByte.calls (⟨#[33, 35, 36, 37, 38, 39, 42, 43, 45, 46, 94, 95, 124, 126, 96]⟩ : ByteArray) a0 t111 _ A16.out).mono ?_); rintro e w' ⟨rfl, ⟨nd, rfl⟩⟩))
          go_ret
          exact ⟨by first | rfl | (simp; done) | (simp [*]; done) | (simp [q_ne_nil]; done), by repeat (first | exact Drawn0.refl _ | apply Drawn0.step)⟩
      · rw [if_neg c14] at H
        have c14b0 : decide (48 ≤ a0) = false := decide_eq_false c14
        clear c14
        replace H := Option.bind_eq_some_iff.mp H
        obtain ⟨t112, A170, H⟩ := H
        replace H : (some (decide (t112 ≥ 0))) = some r := H
        have A17 := Aside0.mk A170
        clear A170
        obtain rfl := Option.some.inj H
        go_enter Tryd.func21, Tryd.ntmps21
        go_wp2_with (first | (go_at_call 37; (with_reducible refine (strings_IndexByte.calls (⟨#[33, 35, 36, 37, 38, 39, 42, 43, 45, 46, 94, 95, 124, 126, 96]⟩ : ByteArray) a0 t112 _ A17.out).mono ?_); rintro e w' ⟨rfl, ⟨nd, rfl⟩⟩))
        go_ret
        exact ⟨by first | rfl | (simp; done) | (simp [*]; done) | (simp [q_ne_nil]; done), by repeat (first | exact Drawn0.refl _ | apply Drawn0.step)⟩
  · rw [if_neg c2] at H
    have c2b0 : decide (97 ≤ (Go.bits .or .u8 a0 32)) = false := decide_eq_false c2
    clear c2
    by_cases c18 : a0 ≥ 48
    · rw [if_pos c18] at H
      have c18b0 : decide (48 ≤ a0) = true := decide_eq_true c18
      clear c18
      by_cases c19 : a0 ≤ 57
      · rw [if_pos c19] at H
        have c19b0 : decide (a0 ≤ 57) = true := decide_eq_true c19
        clear c19
        obtain rfl := Option.some.inj H
        go_enter Tryd.func21, Tryd.ntmps21
        go_wp2
        go_ret
        exact ⟨by first | rfl | (simp; done) | (simp [*]; done) | (simp [q_ne_nil]; done), by repeat (first | exact Drawn0.refl _ | apply Drawn0.step)⟩
      · rw [if_neg c19] at H
        have c19b0 : decide (a0 ≤ 57) = false := decide_eq_false c19
        clear c19
        replace H := Option.bind_eq_some_iff.mp H
        obtain ⟨t113, A200, H⟩ := H
        replace H : (some (decide (t113 ≥ 0))) = some r := H
        have A20 := Aside0.mk A200
        clear A200
        obtain rfl := Option.some.inj H
        go_enter Tryd.func21, Tryd.ntmps21
        go_wp2_with (first | (go_at_call 37; (with_reducible refine (strings_IndexByte.calls (⟨#[33, 35, 36, 37, 38, 39, 42, 43, 45, 46, 94, 95, 124, 126, 96]⟩ : ByteArray) a0 t113 _ A20.out).mono ?_); rintro e w' ⟨rfl, ⟨nd, rfl⟩⟩))
        go_ret
        exact ⟨by first | rfl | (simp; done) | (simp [*]; done) | (simp [q_ne_nil]; done), by repeat (first | exact Drawn0.refl _ | apply Drawn0.step)⟩
    · rw [if_neg c18] at H
      have c18b0 : decide (48 ≤ a0) = false := decide_eq_false c18
      clear c18
      replace H := Option.bind_eq_some_iff.mp H
      obtain ⟨t114, A210, H⟩ := H
      replace H : (some (decide (t114 ≥ 0))) = some r := H
      have A21 := Aside0.mk A210
      clear A210
      obtain rfl := Option.some.inj H
      go_enter Tryd.func21, Tryd.ntmps21
      go_wp2_with (first | (go_at_call 37; (with_reducible refine (strings_IndexByte.calls (⟨#[33, 35, 36, 37, 38, 39, 42, 43, 45, 46, 94, 95, 124, 126, 96]⟩ : ByteArray) a0 t114 _ A21.out).mono ?_); rintro e w' ⟨rfl, ⟨nd, rfl⟩⟩))
      go_ret
      exact ⟨by first | rfl | (simp; done) | (simp [*]; done) | (simp [q_ne_nil]; done), by repeat (first | exact Drawn0.refl _ | apply Drawn0.step)⟩

/-! ### octet_Token: function 13 -/
def octet_Token.l0 : Nat → ByteArray → Int → Int → Option (Bool)
  | 0, _, _, _ => none
  | k + 1, x0, x5, x6 => if x6 < x5 then (if 0 ≤ x6 then (if x6 < (x0.size : Int) then ((octet_tchar.f (bt x0 x6)).bind fun t115 => (if t115 = true then (octet_Token.l0 k x0 x5 (wrap64 (x6 + 1))) else (some false))) else (none)) else (none)) else (some (x0.toList != ([] : List UInt8)))
def octet_Token.f (k : Nat) (a0 : ByteArray) : Option (Bool) := octet_Token.l0 k a0 (a0.size : Int) 0
theorem octet_Token.mono_l : ∀ k, (∀ y0 y1 y2, LeO (octet_Token.l0 k y0 y1 y2) (octet_Token.l0 (k + 1) y0 y1 y2))
  | 0 => fun _ _ _ r h => by simp [octet_Token.l0] at h
  | k + 1 => by
    have ih0 := octet_Token.mono_l k
    · intro y0 y1 y2
      unfold octet_Token.l0
      repeat' first
      | (with_reducible exact ih0 _ _ _)
      | (with_reducible exact LeO.refl _)
      | (with_reducible exact LeO.none _)
      | (with_reducible refine LeO.ite ?_ ?_)
      | (with_reducible refine LeO.bind ?_ (fun _ => ?_))
      | exact ih0 _ _ _
      | exact LeO.none _
      | refine LeO.ite ?_ ?_
      | refine LeO.bind ?_ (fun _ => ?_)
theorem octet_Token.mono : ∀ a0 k, LeO (octet_Token.f k a0) (octet_Token.f (k + 1) a0) := by
  intro a0 k
  have ih0 := octet_Token.mono_l k
  unfold octet_Token.f
  repeat' first
      | (with_reducible exact ih0 _ _ _)
      | (with_reducible exact LeO.refl _)
      | (with_reducible exact LeO.none _)
      | (with_reducible refine LeO.ite ?_ ?_)
      | (with_reducible refine LeO.bind ?_ (fun _ => ?_))
      | exact ih0 _ _ _
      | exact LeO.none _
      | refine LeO.ite ?_ ?_
      | refine LeO.bind ?_ (fun _ => ?_)
set_option maxHeartbeats 8000000 in
set_option maxRecDepth 100000 in
theorem octet_Token.calls (k : Nat) (a0 : ByteArray) (r : Bool) (w : World) (h : octet_Token.f k a0 = some r) :
    Calls Tryd.prog 13 #[.string a0] w fun e w' => e = .returned (.bool r) ∧ Drawn0 w w' := by
  have H : (octet_Token.l0 k a0 (a0.size : Int) 0) = some r := h
  clear h
  have H' := Aside0.mk H
  clear H
  go_enter Tryd.func13, Tryd.ntmps13
  go_wp2
  go_loopg [6] k (fun kq v6 w' => ∃ (x6_1 : Int), v6 = .int .i64 x6_1 ∧ Aside0 (octet_Token.l0 kq a0 (a0.size : Int) x6_1 = some r) ∧ Aside0 (kq ≤ k) ∧ Drawn0 w w')
  case atStart => exact ⟨(0), (by first | rfl | (simp; done) | (simp [*]; done) | (simp [q_ne_nil]; done)), H', ⟨Nat.le_refl _⟩, by repeat (first | exact Drawn0.refl _ | apply Drawn0.step)⟩
  case round =>
    clear H'
    try clear c1
    obtain ⟨x6_1, rfl, HA, HK1, ⟨m1, rfl⟩⟩ := hrel
    cases gk with
    | zero => exact absurd HA.out (by simp [octet_Token.l0])
    | succ k1 =>
      have H := HA.out
      clear HA
      simp only [octet_Token.l0] at H
      by_cases c2 : x6_1 < (a0.size : Int)
      · rw [if_pos c2] at H
        have c2b0 : decide (x6_1 < (a0.size : Int)) = true := decide_eq_true c2
        clear c2
        by_cases c3 : 0 ≤ x6_1
        · rw [if_pos c3] at H
          have c3b0 : decide (0 ≤ x6_1) = true := decide_eq_true c3
          clear c3
          by_cases c4 : x6_1 < (a0.size : Int)
          · rw [if_pos c4] at H
            have c4b0 : decide (x6_1 < (a0.size : Int)) = true := decide_eq_true c4
            clear c4
            replace H := Option.bind_eq_some_iff.mp H
            obtain ⟨t115, A60, H⟩ := H
            replace H : (if t115 = true then (octet_Token.l0 k1 a0 (a0.size : Int) (wrap64 (x6_1 + 1))) else (some false)) = some r := H
            have A6 := Aside0.mk A60
            clear A60
            by_cases c7 : t115 = true
            · subst c7
              have H1 : (octet_Token.l0 k1 a0 (a0.size : Int) (wrap64 (x6_1 + 1))) = some r := by rw [if_pos rfl] at H; exact H
              clear H
              have H := H1
              clear H1
              have H' := Aside0.mk H
              clear H
              have p5 : 0 ≤ (x6_1 : Int) := of_decide_eq_true (by first | (with_reducible assumption) | assumption)
              have q5 : x6_1 < (a0.size : Int) := of_decide_eq_true (by first | (with_reducible assumption) | assumption)
              have hx5 := bt_at a0 x6_1
              replace p5 := eq_true p5
              replace q5 := eq_true q5
              go_wp2_with (first | ((with_reducible refine gate_callee (f := 21) rfl ?_); refine goesL_ (some 12) rfl rfl Tryd.func21 (by kernel_rfl) rfl #[.int .u8 (bt a0 x6_1)] rfl (by (try simp only [List.map_toArray, List.map_cons, List.map_nil]); first | done | rfl | (simp only [List.length_drop, List.length_take]; rfl)) ?_; (with_reducible refine (octet_tchar.calls (bt a0 x6_1) true _ A6.out).mono ?_); rintro e w' ⟨rfl, ⟨nd, rfl⟩⟩; refine ⟨_, rfl, ?_⟩))
              go_roundg k1
              case measure => have := HK1.out; omega
              case rel => exact ⟨(wrap64 (x6_1 + 1)), (by first | rfl | (simp; done) | (simp [*]; done) | (simp [q_ne_nil]; done)), H', ⟨by have := HK1.out; omega⟩, by repeat (first | exact Drawn0.refl _ | apply Drawn0.step)⟩
            · replace c7 := Bool.eq_false_iff.mpr c7
              subst c7
              have H1 : (some false) = some r := by rw [if_neg (show ¬ (false = true) by decide)] at H; exact H
              clear H
              have H := H1
              clear H1
              obtain rfl := Option.some.inj H
              have p5 : 0 ≤ (x6_1 : Int) := of_decide_eq_true (by first | (with_reducible assumption) | assumption)
              have q5 : x6_1 < (a0.size : Int) := of_decide_eq_true (by first | (with_reducible assumption) | assumption)
              have hx5 := bt_at a0 x6_1
              replace p5 := eq_true p5
              replace q5 := eq_true q5
              go_wp2_with (first | ((with_reducible refine gate_callee (f := 21) rfl ?_); refine goesL_ (some 12) rfl rfl Tryd.func21 (by kernel_rfl) rfl #[.int .u8 (bt a0 x6_1)] rfl (by (try simp only [List.map_toArray, List.map_cons, List.map_nil]); first | done | rfl | (simp only [List.length_drop, List.length_take]; rfl)) ?_; (with_reducible refine (octet_tchar.calls (bt a0 x6_1) false _ A6.out).mono ?_); rintro e w' ⟨rfl, ⟨nd, rfl⟩⟩; refine ⟨_, rfl, ?_⟩))
              go_ret
              exact ⟨by first | rfl | (simp; done) | (simp [*]; done) | (simp [q_ne_nil]; done), by repeat (first | exact Drawn0.refl _ | apply Drawn0.step)⟩
          · rw [if_neg c4] at H
            exact absurd H (by simp)
        · rw [if_neg c3] at H
          exact absurd H (by simp)
      · rw [if_neg c2] at H
        have c2b0 : decide (x6_1 < (a0.size : Int)) = false := decide_eq_false c2
        clear c2
        obtain rfl := Option.some.inj H
        go_wp2
        go_ret
        exact ⟨by first | rfl | (simp; done) | (simp [*]; done) | (simp [q_ne_nil]; done), by repeat (first | exact Drawn0.refl _ | apply Drawn0.step)⟩

end Go.Proofs.YtebkibohejjkcaaDoor.Q
