-- Laid by this seat's own driver (wip/tools/drive.py) out of the translation.
import Derived.Test.YtebkibohejjkcaaDoorQx0
import Derived.Test.YtebkibohejjkcaaDoorQx1
namespace Go.Proofs.YtebkibohejjkcaaDoor.Q
open Go.RowKit Go.Proofs.YtebkibohejjkcaaDoorW.PrintWords Go.Proofs.YtebkibohejjkcaaDoorW.PrintLast Go.Proofs.YtebkibohejjkcaaDoorW.PrintMore
attribute [local go_sem] max2_int min2_int max_two min_two max_three min_three max_four min_four   -- for this text's walks alone
set_option linter.unusedVariables false
set_option linter.unusedSimpArgs false

/-! ### headers_Check: function 12 -/
def badC (c : Int) : Bool := c == 0 || (c == 10 || c == 13)
def badB (s : ByteArray) : Bool := (List.range s.size).any (fun j => badC (bt s j))
def chkL (k : Nat) : List S24 → Option Int
  | [] => some 0
  | h :: l => (octet_Token.f k h.f0).bind fun t => if t = true ∧ h.f1.size ≤ 4000 ∧ badB h.f1 = false then chkL k l else some 70
def headers_Check.f (k : Nat) (l0 : List S24) : Option Int := if l0.length ≤ 100 then chkL k l0 else some 70
theorem chkL_mono (k : Nat) : ∀ (l : List S24), LeO (chkL k l) (chkL (k + 1) l)
  | [] => fun r h => h
  | h :: l => fun r hr => by
    unfold chkL at hr ⊢
    obtain ⟨t, ht, hr⟩ := Option.bind_eq_some_iff.mp hr
    rw [octet_Token.mono h.f0 k t ht]
    simp only [Option.bind_some]
    split at hr
    · rename_i hc
      rw [if_pos hc]
      exact chkL_mono k l r hr
    · rename_i hc
      rw [if_neg hc]
      exact hr
theorem headers_Check.mono : ∀ (l0 : List S24) k, LeO (headers_Check.f k l0) (headers_Check.f (k + 1) l0) := by
  intro l k r h
  unfold headers_Check.f at *
  split at h
  · rename_i hl
    rw [if_pos hl]
    exact chkL_mono k l r h
  · rename_i hl
    rw [if_neg hl]
    exact h
theorem badB_at {s : ByteArray} (h : badB s = false) (j : Nat) (hj : j < s.size) : badC (bt s j) = false := by
  unfold badB at h
  rw [List.any_eq_false] at h
  have := h j (List.mem_range.2 hj)
  simpa using this
theorem badB_of {s : ByteArray} (h : ∀ j : Nat, j < s.size → badC (bt s j) = false) : badB s = false := by
  unfold badB
  rw [List.any_eq_false]
  intro j hj
  have := h j (List.mem_range.1 hj)
  simp [this]
theorem badB_true {s : ByteArray} (j : Nat) (hj : j < s.size) (h : badC (bt s j) = true) : badB s = true := by
  unfold badB
  rw [List.any_eq_true]
  exact ⟨j, List.mem_range.2 hj, h⟩
/-- Between two lines. -/
def ChkAt (w : World) (k : Nat) (l : List S24) (r : Int) (v12 : Value) (wr : World) : Prop := ∃ i : Nat, i ≤ l.length ∧ v12 = .int .i64 i ∧ chkL k (l.drop i) = some r ∧ Below w.heap.size w wr
/-- Between two bytes. -/
def ByteAt (s : ByteArray) (W : World) (v30 : Value) (wr : World) : Prop := ∃ j : Nat, j ≤ s.size ∧ v30 = .int .i64 j ∧ (∀ i : Nat, i < j → badC (bt s i) = false) ∧ wr = W
set_option maxHeartbeats 2000000 in
set_option maxRecDepth 100000 in
theorem headers_Check.calls (k : Nat) (A0 : Option Addr) (c0 : Nat) (l0 : List S24) (r : Int) (w : World) (hr0 : Kd.C k24 w A0 l0.length l0) (hc0 : l0.length ≤ c0) (h : headers_Check.f k l0 = some r) :
    Calls Tryd.prog 12 #[.slice A0 l0.length c0] w fun e w' => e = .returned (.int .i64 r) ∧ Below w.heap.size w w' := by
  unfold headers_Check.f at h
  split at h
  · rename_i hlen
    have HR := Aside0.mk hr0
    have HH := Aside0.mk h
    clear hr0 h
    go_enter Tryd.func12, Tryd.ntmps12
    go_wp2
    go_loopw [12] (fun v12 wr => ChkAt w k l0 r v12 wr) (fun v12 _ => l0.length - (intOf v12).toNat)
    case atStart => exact ⟨0, Nat.zero_le _, rfl, HH.out, Below.refl _ _⟩
    case round =>
      clear HH
      obtain ⟨i, hi, rfl, hch, hB⟩ := hrel
      by_cases hlt : i < l0.length
      · obtain ⟨ad, hA, hx0, hx1⟩ := at_T24 (Kd.C_below HR.out hB) (i : Int) (by omega) (by omega)
        subst hA
        rw [List.drop_eq_getElem_cons hlt] at hch
        have e : rd_T24 l0 (i : Int) = l0[i] := by simp [rd_T24, List.getD_eq_getElem?_getD, List.getElem?_eq_getElem hlt]
        rw [e] at hx0 hx1
        simp only [Int.toNat_natCast] at hx0 hx1
        generalize l0[i] = hd at *
        clear e
        unfold chkL at hch
        obtain ⟨t, ht, hch⟩ := Option.bind_eq_some_iff.mp hch
        have HT := Aside0.mk (fun W => octet_Token.calls k hd.f0 t W ht)
        have HB := Aside0.mk hB
        have HCH := Aside0.mk hch
        clear ht hch hB
        cases t with
        | false =>
          have hr70 : r = 70 := by have := HCH.out; simp at this; exact this.symm
          subst hr70
          go_wp2_with (first | (go_at_call 13; refine (HT.out _).mono ?_; rintro e w2 ⟨rfl, ⟨m1, rfl⟩⟩))
          go_ret
          exact ⟨rfl, by repeat (first | exact HB.out | apply pw_below_drewN | apply below_alloc)⟩
        | true =>
          by_cases hsz : hd.f1.size ≤ 4000
          · have hszI : ¬ (4000 : Int) < hd.f1.size := by omega
            have kb := fun W => print_bytes (P := Tryd.prog) 9 35 5 Tryd.underlying9 Tryd.underlying35 Tryd.underlying5 hd.f1 W
            go_wp2_with (first | (go_at_call 13; refine (HT.out _).mono ?_; rintro e w2 ⟨rfl, ⟨m1, rfl⟩⟩))
            have hcell : ∀ j : Nat, j < hd.f1.size → (Lib.bytesWorld ((wr.alloc (Obj.cells #[Value.string hd.f0, Value.string hd.f1] 24)).drewN m1) 5 hd.f1).cell? ⟨wr.heap.size + 1, j, none⟩ = some (.int .u8 (bt hd.f1 j)) := by
              intro j hj
              have := Lib.bytesWorld_cell ((wr.alloc (Obj.cells #[Value.string hd.f0, Value.string hd.f1] 24)).drewN m1) 5 hd.f1 j hj
              rw [bt_nat]
              simpa using this
            have hbel : Below w.heap.size w (Lib.bytesWorld ((wr.alloc (Obj.cells #[Value.string hd.f0, Value.string hd.f1] 24)).drewN m1) 5 hd.f1) := bytes_below (by repeat (first | exact HB.out | apply pw_below_drewN | apply below_alloc)) (by have := HB.out.size; simp; omega) _ _
            generalize grownCap ((wr.alloc (Obj.cells #[Value.string hd.f0, Value.string hd.f1] 24)).drewN m1) hd.f1.size 0 5 = cap
            generalize Lib.bytesWorld ((wr.alloc (Obj.cells #[Value.string hd.f0, Value.string hd.f1] 24)).drewN m1) 5 hd.f1 = W at *
            have HCL := Aside0.mk hcell
            have HBL := Aside0.mk hbel
            clear hcell hbel kb
            go_loopw [30] (fun v30 wq => ByteAt hd.f1 W v30 wq) (fun v30 _ => hd.f1.size - (intOf v30).toNat)
            case atStart => exact ⟨0, Nat.zero_le _, rfl, fun i hi => by omega, rfl⟩
            case round =>
              obtain ⟨j, hj, rfl, hok, rfl⟩ := hrel
              have HOK := Aside0.mk hok
              clear hok
              by_cases hjl : j < hd.f1.size
              · have hx := HCL.out j hjl
                obtain ⟨hb0, hb1⟩ := bt_range hd.f1 j
                cases hbad : badC (bt hd.f1 j) with
                | true =>
                  have hr70 : r = 70 := by
                    have := HCH.out
                    rw [badB_true j hjl hbad] at this
                    simp at this
                    exact this.symm
                  subst hr70
                  unfold badC at hbad
                  generalize bt hd.f1 j = c at *
                  have hcases : (c == 0) = true ∨ ((c == 0) = false ∧ (c == 10) = true) ∨ ((c == 0) = false ∧ (c == 10) = false ∧ (c == 13) = true) := by
                    cases h0 : (c == 0) <;> cases h10 : (c == 10) <;> cases h13 : (c == 13) <;> simp_all
                  clear hbad
                  rcases hcases with h0 | ⟨h0, h10⟩ | ⟨h0, h10, h13⟩
                  all_goals go_wp2
                  all_goals go_ret
                  all_goals exact ⟨rfl, HBL.out⟩
                | false =>
                  have hall : ∀ i : Nat, i < j + 1 → badC (bt hd.f1 i) = false := fun i hi => by
                    rcases Nat.lt_or_ge i j with h | h
                    · exact HOK.out i h
                    · obtain rfl : i = j := by omega
                      exact hbad
                  have HA := Aside0.mk hall
                  clear hall
                  unfold badC at hbad
                  generalize bt hd.f1 j = c at *
                  have h0 : (c == 0) = false := by cases h0 : (c == 0) <;> simp_all
                  have h10 : (c == 10) = false := by cases h10 : (c == 10) <;> simp_all
                  have h13 : (c == 13) = false := by cases h13 : (c == 13) <;> simp_all
                  clear hbad
                  go_wp2
                  go_roundw
                  case rel => exact ⟨j + 1, by omega, by go_num, HA.out, rfl⟩
                  case measure => simp [intOf]; omega
              · obtain rfl : j = hd.f1.size := by omega
                have hb := badB_of HOK.out
                have hc2 : chkL k (l0.drop (i + 1)) = some r := by
                  have := HCH.out
                  simp only [hsz, hb, and_self, if_true] at this
                  exact this
                have HC2 := Aside0.mk hc2
                clear hb hc2
                go_wp2
                go_roundw
                case rel => exact ⟨i + 1, by omega, by go_num, HC2.out, HBL.out⟩
                case measure => simp [intOf]; omega
          · have hszI : (4000 : Int) < hd.f1.size := by omega
            have hr70 : r = 70 := by have := HCH.out; simp [hsz] at this; exact this.symm
            subst hr70
            go_wp2_with (first | (go_at_call 13; refine (HT.out _).mono ?_; rintro e w2 ⟨rfl, ⟨m1, rfl⟩⟩))
            go_ret
            exact ⟨rfl, by repeat (first | exact HB.out | apply pw_below_drewN | apply below_alloc)⟩
      · obtain rfl : i = l0.length := by omega
        rw [List.drop_length] at hch
        have hr0 : r = 0 := (Option.some.inj hch).symm
        subst hr0
        go_wp2
        go_ret
        exact ⟨rfl, hB⟩
  · rename_i hlen
    obtain rfl := Option.some.inj h
    have hlen2 : (100 : Int) < l0.length := by omega
    go_enter Tryd.func12, Tryd.ntmps12
    go_wp2
    go_ret
    exact ⟨rfl, Below.refl _ _⟩


/-! ### headers_comma: function 22 -/
/-- From byte i on, so many steps at most: the first comma outside quotes. -/
def comF (s : ByteArray) : Nat → Nat → Bool → Int
  | 0, _, _ => -1
  | d + 1, i, opn => if i < s.size then (if bt s i = 34 then comF s d (i + 1) (!opn) else if bt s i = 92 ∧ opn = true then comF s d (i + 2) opn else if bt s i = 44 ∧ opn = false then (i : Int) else comF s d (i + 1) opn) else -1
def commaOf (s : ByteArray) : Int := comF s (s.size + 2) 0 false
def headers_comma.f (a0 : ByteArray) : Option Int := if a0.size ≤ 281474976710656 then some (commaOf a0) else none
def ComAt (s : ByteArray) (r : Int) (d : Nat) (v3 v4 : Value) : Prop := ∃ (i : Nat) (opn : Bool), v4 = .int .i64 i ∧ v3 = .bool opn ∧ i ≤ s.size + 1 ∧ s.size + 2 ≤ i + d ∧ r = comF s d i opn
set_option maxHeartbeats 2000000 in
set_option maxRecDepth 100000 in
theorem headers_comma.calls (a0 : ByteArray) (r : Int) (w : World) (h : headers_comma.f a0 = some r) :
    Calls Tryd.prog 22 #[.string a0] w fun e w' => e = .returned (.int .i64 r) ∧ Drawn0 w w' := by
  unfold headers_comma.f at h
  split at h
  · rename_i hsz
    have hr := (Option.some.inj h).symm
    clear h
    have HRR := Aside0.mk hr
    clear hr
    go_enter Tryd.func22, Tryd.ntmps22
    go_wp2
    go_step3
    go_wp2
    go_step3
    go_wp2
    go_loopg [3, 4] (a0.size + 2) (fun gk v3 v4 wr => ComAt a0 r gk v3 v4 ∧ Drawn0 w wr)
    case atStart => exact ⟨⟨0, false, rfl, rfl, by omega, by omega, HRR.out⟩, Drawn0.refl _⟩
    case round =>
      obtain ⟨⟨i, opn, rfl, rfl, hi, hd, hr⟩, ⟨m1, rfl⟩⟩ := hrel
      cases gk with
      | zero => omega
      | succ d =>
        by_cases hlt : i < a0.size
        · have hx : ∀ h : i < a0.size, ((a0[i]'h).toNat : Int) = bt a0 i := fun h => by have := bt_at a0 i (by simpa using h); simpa using this
          obtain ⟨hb0, hb1⟩ := bt_range a0 i
          simp only [comF] at hr
          rw [if_pos hlt] at hr
          generalize bt a0 i = c at *
          by_cases h1 : c = 34
          · rw [if_pos h1] at hr
            have HR := Aside0.mk hr
            clear hr
            have b1 : (c == 34) = true := by rw [h1]; rfl
            clear h1
            go_wp2
            go_roundg d
            case measure => omega
            case rel => exact ⟨⟨i + 1, !opn, by go_num, rfl, by omega, by omega, HR.out⟩, by repeat (first | exact Drawn0.refl _ | apply Drawn0.step)⟩
          rw [if_neg h1] at hr
          have b1 : (c == 34) = false := by simpa using h1
          clear h1
          by_cases h2 : c = 92
          · have b2 : (c == 92) = true := by rw [h2]; rfl
            have b3 : (c == 44) = false := by rw [h2]; rfl
            cases opn with
            | true =>
              rw [if_pos ⟨h2, rfl⟩] at hr
              have HR := Aside0.mk hr
              clear hr h2
              go_wp2
              go_roundg d
              case measure => omega
              case rel => exact ⟨⟨i + 2, true, by go_num, rfl, by omega, by omega, HR.out⟩, by repeat (first | exact Drawn0.refl _ | apply Drawn0.step)⟩
            | false =>
              rw [if_neg (by simp), if_neg (by omega)] at hr
              have HR := Aside0.mk hr
              clear hr h2
              go_wp2
              go_roundg d
              case measure => omega
              case rel => exact ⟨⟨i + 1, false, by go_num, rfl, by omega, by omega, HR.out⟩, by repeat (first | exact Drawn0.refl _ | apply Drawn0.step)⟩
          rw [if_neg (fun h => h2 h.1)] at hr
          have b2 : (c == 92) = false := by simpa using h2
          clear h2
          by_cases h3 : c = 44
          · have b3 : (c == 44) = true := by rw [h3]; rfl
            cases opn with
            | true =>
              rw [if_neg (by simp)] at hr
              have HR := Aside0.mk hr
              clear hr h3
              go_wp2
              go_roundg d
              case measure => omega
              case rel => exact ⟨⟨i + 1, true, by go_num, rfl, by omega, by omega, HR.out⟩, by repeat (first | exact Drawn0.refl _ | apply Drawn0.step)⟩
            | false =>
              rw [if_pos ⟨h3, rfl⟩] at hr
              have HR := Aside0.mk hr
              clear hr h3
              go_wp2
              rw [Exit.noGoto_ret]
              go_ret
              exact ⟨by rw [HR.out]; rfl, by repeat (first | exact Drawn0.refl _ | apply Drawn0.step)⟩
          rw [if_neg (fun h => h3 h.1)] at hr
          have b3 : (c == 44) = false := by simpa using h3
          have HR := Aside0.mk hr
          clear hr h3
          go_wp2
          go_roundg d
          case measure => omega
          case rel => exact ⟨⟨i + 1, opn, by go_num, rfl, by omega, by omega, HR.out⟩, by repeat (first | exact Drawn0.refl _ | apply Drawn0.step)⟩
        · simp only [comF] at hr
          rw [if_neg hlt] at hr
          have HR := Aside0.mk hr
          clear hr
          go_wp2
          rw [Exit.noGoto_ret]
          go_ret
          exact ⟨by rw [HR.out]; rfl, by repeat (first | exact Drawn0.refl _ | apply Drawn0.step)⟩
  · cases h


/-! ### headers_Parts: function 14 -/
theorem comF_range (s : ByteArray) : ∀ (d i : Nat) (o : Bool), -1 ≤ comF s d i o ∧ (comF s d i o < s.size ∨ comF s d i o = -1) := by
  intro d
  induction d with
  | zero => intro i o; exact ⟨by simp [comF], .inr rfl⟩
  | succ d ih =>
    intro i o
    unfold comF
    split
    · split
      · exact ih _ _
      split
      · exact ih _ _
      split
      · exact ⟨by omega, .inl (by omega)⟩
      · exact ih _ _
    · exact ⟨by omega, .inr rfl⟩
theorem comma_some (s : ByteArray) (h : s.size ≤ 281474976710656) : headers_comma.f s = some (commaOf s) := if_pos h
/-- One value's parts. -/
def cpF : Nat → ByteArray → List ByteArray
  | 0, _ => []
  | d + 1, v => if 0 ≤ commaOf v then trimBA (v.extract 0 (commaOf v).toNat) :: cpF d (v.extract ((commaOf v).toNat + 1) v.size) else [trimBA v]
def cparts (v : ByteArray) : List ByteArray := cpF (v.size + 1) v
theorem cpF_mono : ∀ (d e : Nat) (v : ByteArray), v.size < d → d ≤ e → cpF e v = cpF d v := by
  intro d
  induction d with
  | zero => intro e v h; omega
  | succ d ih =>
    intro e v h he
    obtain ⟨e, rfl⟩ : ∃ k, e = k + 1 := ⟨e - 1, by omega⟩
    obtain ⟨h1, h2⟩ := comF_range v (v.size + 2) 0 false
    simp only [cpF]
    split
    · rename_i hc
      have hc' : 0 ≤ comF v (v.size + 2) 0 false := hc
      congr 1
      exact ih e _ (by simp [ByteArray.size_extract]; unfold commaOf; omega) (by omega)
    · rfl
theorem cparts_eq (v : ByteArray) : cparts v = if 0 ≤ commaOf v then trimBA (v.extract 0 (commaOf v).toNat) :: cparts (v.extract ((commaOf v).toNat + 1) v.size) else [trimBA v] := by
  obtain ⟨h1, h2⟩ := comF_range v (v.size + 2) 0 false
  unfold cparts
  rw [cpF]
  split
  · rename_i hc
    have hc' : 0 ≤ comF v (v.size + 2) 0 false := hc
    rw [cpF_mono ((v.extract ((commaOf v).toNat + 1) v.size).size + 1) v.size _ (by omega) (by simp [ByteArray.size_extract]; unfold commaOf; omega)]
  · rfl
theorem cparts_len (v : ByteArray) : (cparts v).length ≤ v.size + 1 := by
  suffices h : ∀ d v, v.size < d → (cpF d v).length ≤ v.size + 1 from h _ _ (by omega)
  intro d
  induction d with
  | zero => intro v h; omega
  | succ d ih =>
    intro v h
    obtain ⟨h1, h2⟩ := comF_range v (v.size + 2) 0 false
    simp only [cpF]
    split
    · rename_i hc
      have hc' : 0 ≤ comF v (v.size + 2) 0 false := hc
      have := ih (v.extract ((commaOf v).toNat + 1) v.size) (by simp [ByteArray.size_extract]; unfold commaOf; omega)
      simp only [ByteArray.size_extract] at this
      simp only [List.length_cons]
      unfold commaOf at *
      omega
    · simp
def partsOf (l : List S24) (name : ByteArray) : List ByteArray := (valsOf l name).flatMap cparts
def hdrsC (l : List S24) : Bool := l.all (fun h => decide ((h.f1.size + 1) * l.length ≤ 4398046511000))
theorem hdrsM {l : List S24} (h : hdrsC l = true) : ∀ h ∈ l, (h.f1.size + 1) * l.length ≤ 4398046511000 := by
  unfold hdrsC at h
  simpa [List.all_eq_true] using h
def headers_Parts.f (l0 : List S24) (a1 : ByteArray) : Option (List ByteArray) := if hdrsB l0 a1 = true ∧ hdrsC l0 = true then some (partsOf l0 a1) else none
theorem cparts_sum (M : Nat) (l : List ByteArray) (h : ∀ x ∈ l, x.size + 1 ≤ M) : (l.flatMap cparts).length ≤ l.length * M := by
  induction l with
  | nil => simp
  | cons a l ih =>
    have h1 := ih (fun x hx => h x (List.mem_cons_of_mem _ hx))
    have h2 := h a List.mem_cons_self
    have h3 := cparts_len a
    rw [List.flatMap_cons, List.length_append, List.length_cons, Nat.succ_mul]
    omega
def szOf : Value → Nat
  | .string s => s.size
  | _ => 0
theorem trim_len (s : ByteArray) : (trimBA s).size ≤ s.size := by
  show (Lib.trimS s.data.toList [9, 10, 12, 13, 32]).toArray.size ≤ s.data.size
  unfold Lib.trimS Lib.trimLeftS Lib.trimRightS
  rw [List.size_toArray, ← Array.length_toList]
  refine Nat.le_trans (List.dropWhile_sublist _).length_le ?_
  rw [List.length_reverse]
  refine Nat.le_trans (List.dropWhile_sublist _).length_le ?_
  rw [List.length_reverse]
  exact Nat.le_refl _
theorem vals_size {l : List S24} {name x : ByteArray} {C : Nat} (h : ∀ h ∈ l, (h.f1.size + 1) * l.length ≤ C) (hx : x ∈ valsOf l name) : 0 < l.length ∧ (x.size + 1) * l.length ≤ C := by
  unfold valsOf at hx
  obtain ⟨y, hy, rfl⟩ := List.mem_map.1 hx
  have hm := (List.mem_filter.1 hy).1
  have h1 := h y hm
  have h2 := trim_len y.f1
  exact ⟨List.length_pos_of_mem hm, Nat.le_trans (Nat.mul_le_mul_right _ (by omega)) h1⟩
theorem cparts_pos (v : ByteArray) : 0 < (cparts v).length := by
  rw [cparts_eq]
  split <;> simp
theorem parts_total {l : List S24} {name : ByteArray} {C : Nat} (h : ∀ h ∈ l, (h.f1.size + 1) * l.length ≤ C) (ys : List { x : ByteArray // x ∈ valsOf l name }) (hlt : ys.length ≤ l.length) (hpos : 0 < l.length) :
    ((ys.map (fun x => x.1)).flatMap cparts).length ≤ C := by
  refine Nat.le_trans (cparts_sum (C / l.length) _ ?_) ?_
  · intro x hx
    obtain ⟨y, _, rfl⟩ := List.mem_map.1 hx
    exact (Nat.le_div_iff_mul_le hpos).2 (vals_size h y.2).2
  · rw [List.length_map]
    exact Nat.le_trans (Nat.mul_le_mul_right _ hlt) (Nat.mul_div_le C l.length)
theorem keeps_below {A B : World} (h : Below A.heap.size A B) : KeepsOthers A B :=
  ⟨h.size, fun k o hk _ => (h.block k (by have := Array.getElem?_eq_some_iff.1 hk; exact this.1)).trans hk⟩
theorem below_drewN (w : World) (m : Nat) : Below w.heap.size w (w.drewN m) := ⟨rfl, rfl, rfl, Nat.le_refl _, fun _ _ => rfl⟩
theorem opIn_inRound {F : Fence} {n : Nat} {P : Program} {o : Oper} {a : Act} {w : World} {K : Act → World → Prop} {Q : Exit → Act → World → Prop} (l : Nat) (hnd : ∀ c, o.op ≠ .defer c)
    (h : o.wpIn F n P a w K Q) : o.wpIn (F.inRound l) n P a w K Q := by
  unfold Oper.wpIn at *
  refine ⟨h.1, ?_⟩
  have h2 := h.2
  rw [Oper.semAt_plain _ _ _ hnd] at h2 ⊢
  generalize (execOp a.eval o).run P w = r at *
  cases r with
  | ok x w' => cases x <;> exact h2
  | halt x w' => exact h2
theorem opsIn_inRound {F : Fence} {n : Nat} {P : Program} {ops : Array Oper} {Q : Exit → Act → World → Prop} (l : Nat) (hnd : ∀ o ∈ ops, ∀ c, o.op ≠ .defer c) :
    ∀ (order : List Nat) (a : Act) (w : World), wpOpsIn F n P ops Q order a w → wpOpsIn (F.inRound l) n P ops Q order a w := by
  intro order
  induction order with
  | nil => exact fun a w h => h
  | cons i rest ih =>
    intro a w h
    simp only [wpOpsIn] at h ⊢
    cases ho : ops[i]? with
    | none =>
      simp only [ho] at h
      exact ih _ _ h
    | some o =>
      simp only [ho] at h
      have hm : o ∈ ops := Array.mem_of_getElem? ho
      simp only []
      split
      · rename_i hw
        rw [if_pos hw] at h
        exact Oper.wpIn_mono (fun a w => ih a w) (opIn_inRound l (hnd o hm) h)
      · rename_i hw
        rw [if_neg hw] at h
        exact ⟨h.1, ih _ _ h.2⟩
/-- A region that draws its order, within a round: it is walked as outside of one. -/
theorem region_inRound {F : Fence} {n : Nat} {P : Program} {ops : Array Oper} {Q : Exit → Act → World → Prop} {l id : Nat} {a : Act} {w : World} (_ : F.round = none) (hm : P.follows .mixedOrders = true)
    (hnd : ∀ o ∈ ops, ∀ c, o.op ≠ .defer c) (h : wpAnyIn F n P .any ops Q ops.size (Array.replicate ops.size false) a w.drew) : (Code.region id ops true).wpIn (F.inRound l) n P Q a w :=
  wpIn_region_draw fun t => by
    simp only [Region.schedule, hm, Bool.true_or, if_true]
    exact opsIn_inRound l hnd _ _ _ (wpAnyIn_sound ops.size t _ a _ h)
theorem wpIn_append_own {F : Fence} {n : Nat} {P : Program} (w : World) {o : Oper} {a : Act} {K : Act → World → Prop} {Q : Exit → Act → World → Prop}
    (_ : o.guard = none) (s x : Operand) (t : TypeId) (hop : o.op = Op.call { callee := Callee.builtin Builtin.append, args := #[s, x], argTypes := #[t, t] })
    (base : Nat) (e : TypeId) (i : TypeInfo) (z : Value) (size bytes : Nat) (h1 : P.underlying t = some (.slice e)) (h2 : P.info? e = some i) (h3 : i.zero = some z) (h4 : i.size = size) (h5 : i.bytes = bytes) (h6 : z.cells.size = size) (h7 : 0 < size)
    (v : Value) (k : Nat) (xs : List Value) (hs : a.eval s = v) (hown : w.ownsRow base e size v k xs) (ad : Addr) (m c : Nat) (news : List Value) (hx : a.eval x = .slice (some ad) m c) (hn : news.length = m * size)
    (hc : ∀ j u, news[j]? = some u → w.cell? (ad.add j) = some u) (h1c : ∀ u ∈ news, u.oneCell' = true) (b1 : k + m ≤ maxLen) (b2 : (k + m) * bytes ≤ 140737488355328) (b3 : base ≤ w.heap.size)
    (hK : ∀ v' w', w'.ownsRow base e size v' (k + m) (xs ++ news) → w.grownBy w' v.ownBlock → (v' = .slice none 0 0 ↔ v = .slice none 0 0 ∧ m = 0) → K (a.put o.dst v') w') :
    o.wpIn F n P a w K Q := by
  obtain ⟨v', w', hrun, r1, r2, r3⟩ := run_append_own (P := P) w base t o.type e i z size bytes h1 h2 h3 h4 h5 h6 h7 v k xs hown ad m c news hn hc h1c b1 b2 b3
  unfold Oper.wpIn
  refine ⟨?_, ?_⟩
  · simp [Oper.about, hop, resolve, Target.leads, Sem.run_pure]
  · rw [Oper.semAt_plain F _ _ (by rw [hop]; intro c hc'; cases hc')]
    simp [execOp, hop, resolve, invoke, builtin, hs, hx, hrun, Result.andThen]
    exact hK v' w' r1 r2 r3
/-- A box and its row, behind what leaves them alone. -/
theorem drawn_kept {W w3 : World} {B m : Nat} {t e : TypeId} {vb : Value} {k : Nat} {xs : List Value} (hb : Boxed W B t vb) (hr : W.ownsRow m e 1 vb k xs) (h : Below W.drew.heap.size W.drew w3) :
    Boxed w3 B t vb ∧ w3.ownsRow m e 1 vb k xs ∧ w3.cell? ⟨B, 0, none⟩ = some vb ∧ ∀ o, (w3.alloc o).cell? ⟨B, 0, none⟩ = some vb := by
  have hb' : Boxed w3 B t vb := Boxed.kept (W := W.drew) hb (grown_of_below h none) (by simp)
  refine ⟨hb', World.ownsRow.kept (w := W.drew) hr (grown_of_below h (some w3.heap.size)) ?_, hb'.cell, fun o => (hb'.alloc o).cell⟩
  by_cases hn : vb.ownBlock = none
  · exact .inl hn
  · right
    intro e
    have := (hr.lt _ e).2
    have h2 := h.size
    simp at h2
    omega
/-- Between two rounds of the inner loop. -/
def PIn (w : World) (m bo : Nat) (fin : List ByteArray) (W : World) (v5 v6 : Value) (wr : World) : Prop :=
  ∃ acc v, v5 = .string v ∧ v6 = .int .i64 (commaOf v) ∧ v.size ≤ 281474976710656 ∧ fin = acc ++ cparts v ∧ GatherAt w m bo acc wr ∧ KeepsOthers W wr ∧ KpBut m bo W wr
attribute [local go_sem] Oper.semAt_some in
set_option maxRecDepth 100000 in
set_option maxHeartbeats 4000000 in
theorem Parts_ok (A0 : Option Addr) (c0 : Nat) (l0 : List S24) (a1 : ByteArray) (w : World) (hr0 : Kd.C k24 w A0 l0.length l0) (hc0 : l0.length ≤ c0) (hok : hdrsB l0 a1 = true) (hM : ∀ h ∈ l0, (h.f1.size + 1) * l0.length ≤ 4398046511000) :
    Calls Tryd.prog 14 #[.slice A0 l0.length c0, .string a1] w fun e w' => ∃ v0_ : Value, e = .returned v0_ ∧ Kd.R Kd.string 9 w' w.heap.size (fun _ => True) v0_ (partsOf l0 a1) ∧ Below w.heap.size w w' := by
  obtain ⟨hz, hlen, hsz⟩ := hdrsB_at hok
  clear hz hsz
  obtain ⟨i0, hi, hz0, hz1, hz2⟩ := info_parts info9
  have hmx : Tryd.prog.follows .mixedOrders = true := by kernel_rfl
  refine (callsIn_wide (n := 5)).1 ?_
  refine callsIn_of_wp_marks Tryd.func14 rfl trivial ?_ rfl
  simp only [Tryd.ntmps14, List.size_toArray, List.length_cons, List.length_nil, Nat.reduceAdd, Nat.reduceSub, Array.replicate_succ, Array.replicate_zero, List.push_toArray, List.append_toArray, List.nil_append, List.cons_append]
  have fw1 : Fence.wide.fn 19 := trivial
  have fw2 : Fence.wide.fn 22 := trivial
  have fw3 : Fence.wide.fn 10 := trivial
  have hv := fun W => values_any A0 l0.length c0 a1 W
  have HV := Aside0.mk hv
  have HR := Aside0.mk hr0
  have HOK := Aside0.mk hok
  have HM := Aside0.mk hM
  clear hv hr0 hok hM
  gi_wp2_with (gi_at_call 19; refine (callsIn_wide.2 (HV.out _)).mono ?_; rintro e w' ⟨rfl, rfl⟩)
  have bO := Boxed.new w 28 (.slice none 0 0)
  have bL := Boxed.new (w.alloc (.cells #[.slice none 0 0] 28)) 25 (.slice A0 l0.length c0)
  have bN := Boxed.new ((w.alloc (.cells #[.slice none 0 0] 28)).alloc (.cells #[.slice A0 l0.length c0] 25)) 9 (.string a1)
  rw [World.size_alloc] at bL
  rw [World.size_alloc, World.size_alloc] at bN
  have hB0 : Below w.heap.size w (((w.alloc (.cells #[.slice none 0 0] 28)).alloc (.cells #[.slice A0 l0.length c0] 25)).alloc (.cells #[.string a1] 9)) := (((Below.refl _ w).alloc (Nat.le_refl _) _).alloc (by simp) _).alloc (by simp; omega) _
  refine wpIn_rangeFunc_ownG rfl (by omega) (gf := 28) (lb := #[.pointer (some ⟨w.heap.size + 1, 0, none⟩), .pointer (some ⟨w.heap.size + 1 + 1, 0, none⟩)]) rfl trivial (enters_of Tryd.func28 (by kernel_rfl) rfl)
    (values_stopsM 4 (by omega) w _ A0 c0 l0 a1 HOK.out HR.out w.heap.size (w.heap.size + 1) (w.heap.size + 1 + 1) hB0 (Nat.le_refl _) (bL.alloc _) bN (by omega)) KpBut.trans (KpBut.putObj (Nat.le_refl _)) (Below.refl _ _) (fun _ => rfl)
    (fun pre W => GatherAt w (w.heap.size + 3) w.heap.size ((pre.map (fun x => x.1)).flatMap cparts) W) (fun _ _ _ => False)
    (fun s W W' row hs hg hr => GatherAt.own w (w.heap.size + 3) w.heap.size _ (by simp; omega) _ W W' row hs hg hr)
    (fun _ _ _ _ _ hs _ _ => hs)
    ⟨⟨_, (bO.alloc _).alloc _, World.ownsRow_nil _ _ _ _, trivial⟩, hB0, by simp⟩
    (fun x => { tmps := #[.slice A0 l0.length c0, .string a1, undef, undef, .pointer (some ⟨w.heap.size, 0, none⟩), .string x.1, undef, .slice A0 l0.length c0, .string a1, .func (.func 28) #[] #[.pointer (some ⟨w.heap.size + 1, 0, none⟩), .pointer (some ⟨w.heap.size + 1 + 1, 0, none⟩)], .string x.1, undef, undef, undef, undef, undef, undef, undef, undef, undef, undef, undef, undef, undef, undef, undef, undef, undef, undef, undef, undef, undef, undef, undef], defers := [] }) ?assign ?body ?done ?stop
  case assign =>
    intro l x W K hK
    gi_wp2
    exact hK
  case body =>
    rintro l pre x W hG hlt
    have hx := vals_size (HM.out) x.2
    obtain ⟨hx1, hx2⟩ := hx
    have hx3 : x.1.size ≤ 281474976710656 := by have := Nat.le_mul_of_pos_right (x.1.size + 1) hx1; omega
    have fr2 : (Fence.wide.inRound l).fn 22 := trivial
    have fr3 : (Fence.wide.inRound l).fn 10 := trivial
    have htot := parts_total HM.out (pre ++ [x]) (by simp; omega) hx1
    have HG := Aside0.mk hG
    clear hG
    have hCm := Aside0.mk (fun v (hv : v.size ≤ 281474976710656) W2 => headers_comma.calls v (commaOf v) W2 (comma_some v hv))
    have hTr := Aside0.mk (fun v (hv : v.size ≤ 281474976710656) W2 => octet_Trim.calls v (trimBA v) W2 (trim_some v hv))
    gi_wp2_with (first | (gi_at_call 22; refine (CallsIn.inRound l (callsIn_wide.2 (hCm.out x.1 hx3 _))).mono ?_; rintro e w2 ⟨rfl, ⟨m1, rfl⟩⟩))
    gi_loopw [5, 6] (fun v5 v6 wr => PIn w (w.heap.size + 3) w.heap.size (((pre ++ [x]).map (fun x => x.1)).flatMap cparts) W v5 v6 wr) (fun v5 v6 wr => szOf v5)
    case atStart =>
      exact ⟨_, _, rfl, rfl, hx3, by simp [List.flatMap_append], GatherAt.own w (w.heap.size + 3) w.heap.size _ (Nat.le_refl _) _ _ _ none HG.out (grown_of_below (below_drewN _ _) none) (by simp), keeps_below (below_drewN _ _), KpBut.below (below_drewN _ _) HG.out.2.2⟩
    case round =>
      obtain ⟨acc, v, rfl, rfl, hsz, hfin, hG, hKO, hKp⟩ := hrel
      obtain ⟨⟨vb, hb, hrow, _⟩, hB, hWs⟩ := hG
      have hc := hb.cell
      have hce := cparts_eq v
      have hac : acc.length + 1 ≤ 4398046511000 := by
        have h1 := cparts_pos v
        rw [hfin, List.length_append] at htot
        omega
      by_cases hco : 0 ≤ commaOf v
      · rw [if_pos hco] at hce
        obtain ⟨_, hc2⟩ := comF_range v (v.size + 2) 0 false
        replace hc2 : commaOf v < v.size := by unfold commaOf at *; omega
        generalize hcv : commaOf v = cv at *
        have hex : (v.extract 0 cv.toNat).size ≤ 281474976710656 := by simp [ByteArray.size_extract]; omega
        have hex2 : ∀ k, (v.extract k v.size).size ≤ 281474976710656 := by intro k; simp [ByteArray.size_extract]; omega
        gi_wp2
        -- BEGIN R6
        refine region_inRound rfl hmx (by intro o ho c; simp only [List.mem_toArray, List.mem_cons, List.not_mem_nil, or_false] at ho; rcases ho with rfl | rfl | rfl | rfl | rfl | rfl | rfl | rfl <;> simp) ?_
        refine wpAnyIn_take (i := 1) (v := .string v) rfl rfl (by kernel_rfl) (by kernel_rfl) (by kernel_rfl) (fun _ _ _ h => h) ⟨Or.inl ⟨by rfl, by intro w; go_simp⟩, fun _ => rfl⟩ ?_
        refine wpAnyIn_take (i := 2) (v := .int .i64 cv) rfl rfl (by kernel_rfl) (by kernel_rfl) (by kernel_rfl) (fun _ _ _ h => h) ⟨Or.inl ⟨by rfl, by intro w; go_simp⟩, fun _ => rfl⟩ ?_
        refine wpAnyIn_take (i := 3) (v := .string (v.extract 0 cv.toNat)) rfl rfl (by kernel_rfl) (by kernel_rfl) (by kernel_rfl) (fun _ _ _ h => h) ⟨Or.inl ⟨by rfl, by intro w; go_simp; intro hbad; exact absurd hbad (by omega)⟩, fun _ => rfl⟩ ?_
        refine wpAnyIn_ready (rs := [0, 4]) (by kernel_rfl) (by simp) (BigFrame.allReadyIn_want rfl (by rfl) (fun K hK => ?_) (BigFrame.allReadyIn_want rfl (by rfl) (fun K hK => ?_) (AllReadyIn.nil)))
        · go_simp
          refine hK _ _ ?_
          clear hK
          refine wpAnyIn_ready (rs := [4]) (by kernel_rfl) (by simp) (BigFrame.allReadyIn_want rfl (by rfl) (fun K hK => ?_) (AllReadyIn.nil))
          go_simp
          refine (CallsIn.mono (callsIn_wide.2 (hTr.out (v.extract 0 cv.toNat) hex _)) ?_)
          rintro e w3 ⟨rfl, hb3⟩
          have hq := drawn_kept hb hrow hb3
          obtain ⟨hb', hrow', hcw, hca⟩ := hq
          refine hK _ _ ?_
          clear hK
          refine wpAnyIn_ready (rs := [5]) (by kernel_rfl) (by simp) (BigFrame.allReadyIn_want rfl (by rfl) (fun K hK => ?_) (AllReadyIn.nil))
          go_simp
          refine hK _ _ ?_
          clear hK
          refine wpAnyIn_ready (rs := [6]) (by kernel_rfl) (by simp) (BigFrame.allReadyIn_want rfl (by rfl) (fun K hK => ?_) (AllReadyIn.nil))
          refine wpIn_append_own _ rfl _ _ 28 rfl (w.heap.size + 3) 9 i0 (.string ⟨#[]⟩) 1 16 Tryd.underlying28 hi hz0 hz1 hz2 rfl (by decide) _ _ _ rfl (hrow'.alloc _) ⟨w3.heap.size, 0, none⟩ 1 1 [.string (trimBA (v.extract 0 cv.toNat))] rfl rfl (cell_one_new _ _ _) (by simp [Value.oneCell']) (by simp only [maxLen]; omega) (by omega) (by simp; have := hb3.size; simp at this; omega) ?_
          intro v' w1 hown' hgrow _
          obtain ⟨g', cap', rfl⟩ := ownsRow_succ hown'
          obtain ⟨hv1, hv2, hr2, hk2, hb2, hkp⟩ := gathered hb' (by decide) hrow' (Nat.le_trans hWs hb3.size) (by omega) hown' hgrow
          have hc1 := hv1.cell
          have hf1 := hv1.frozen
          refine hK _ _ ?_
          clear hK
          refine wpAnyIn_ready (rs := [7]) (by kernel_rfl) (by simp) (BigFrame.allReadyIn_want rfl (by rfl) (fun K hK => ?_) (AllReadyIn.nil))
          go_simp
          refine hK _ _ ?_
          clear hK
          refine wpAnyIn_done (by kernel_rfl) ?_ _
          have hB3 : Below w.heap.size w w3 := hB.drew.trans (hb3.mono hB.size)
          have hKO2 := hKO.trans ((KeepsOthers.drew wr).trans ((keeps_below hb3).trans hk2))
          have hKp2 := hKp.trans (KpBut.trans (KpBut.below (A := wr.drew) hb3 hWs : KpBut _ _ wr w3) hkp)
          have hG2 : GatherAt w (w.heap.size + 3) w.heap.size (acc ++ [trimBA (v.extract 0 cv.toNat)]) (w1.setCell ⟨w.heap.size, 0, none⟩ (.slice (some ⟨g', 0, none⟩) (acc.length + 1) cap')) := ⟨⟨_, hv2, by simpa using hr2, trivial⟩, hB3.trans hb2, Nat.le_trans (Nat.le_trans hWs hb3.size) hb2.size⟩
          generalize w1.setCell ⟨w.heap.size, 0, none⟩ (.slice (some ⟨g', 0, none⟩) (acc.length + 1) cap') = W2 at *
          clear hv1 hv2 hr2 hk2 hb2 hkp hc1 hf1 hown' hgrow hb' hrow' hcw hca hB3
          gi_wp2_with (gi_at_call 22; refine (CallsIn.inRound l (callsIn_wide.2 (hCm.out _ (hex2 _) _))).mono ?_; rintro e w5 ⟨rfl, ⟨m5, rfl⟩⟩)
          go_roundw
          case rel => exact ⟨acc ++ [trimBA (v.extract 0 cv.toNat)], _, rfl, rfl, hex2 _, by rw [hfin, hce, show (cv + 1).toNat = cv.toNat + 1 by omega]; simp, GatherAt.own w (w.heap.size + 3) w.heap.size _ (Nat.le_refl _) _ _ _ none hG2 (grown_of_below (below_drewN _ _) none) (by simp), hKO2.trans (keeps_below (below_drewN _ _)), hKp2.trans (KpBut.below (below_drewN _ _) hG2.2.2)⟩
          case measure => simp [szOf, ByteArray.size_extract]; omega
        · go_simp
          refine (CallsIn.mono (callsIn_wide.2 (hTr.out (v.extract 0 cv.toNat) hex _)) ?_)
          rintro e w3 ⟨rfl, hb3⟩
          have hq := drawn_kept hb hrow hb3
          obtain ⟨hb', hrow', hcw, hca⟩ := hq
          refine hK _ _ ?_
          clear hK
          refine wpAnyIn_ready (rs := [0, 5]) (by kernel_rfl) (by simp) (BigFrame.allReadyIn_want rfl (by rfl) (fun K hK => ?_) (BigFrame.allReadyIn_want rfl (by rfl) (fun K hK => ?_) (AllReadyIn.nil)))
          · go_simp
            refine hK _ _ ?_
            clear hK
            refine wpAnyIn_ready (rs := [5]) (by kernel_rfl) (by simp) (BigFrame.allReadyIn_want rfl (by rfl) (fun K hK => ?_) (AllReadyIn.nil))
            go_simp
            refine hK _ _ ?_
            clear hK
            refine wpAnyIn_ready (rs := [6]) (by kernel_rfl) (by simp) (BigFrame.allReadyIn_want rfl (by rfl) (fun K hK => ?_) (AllReadyIn.nil))
            refine wpIn_append_own _ rfl _ _ 28 rfl (w.heap.size + 3) 9 i0 (.string ⟨#[]⟩) 1 16 Tryd.underlying28 hi hz0 hz1 hz2 rfl (by decide) _ _ _ rfl (hrow'.alloc _) ⟨w3.heap.size, 0, none⟩ 1 1 [.string (trimBA (v.extract 0 cv.toNat))] rfl rfl (cell_one_new _ _ _) (by simp [Value.oneCell']) (by simp only [maxLen]; omega) (by omega) (by simp; have := hb3.size; simp at this; omega) ?_
            intro v' w1 hown' hgrow _
            obtain ⟨g', cap', rfl⟩ := ownsRow_succ hown'
            obtain ⟨hv1, hv2, hr2, hk2, hb2, hkp⟩ := gathered hb' (by decide) hrow' (Nat.le_trans hWs hb3.size) (by omega) hown' hgrow
            have hc1 := hv1.cell
            have hf1 := hv1.frozen
            refine hK _ _ ?_
            clear hK
            refine wpAnyIn_ready (rs := [7]) (by kernel_rfl) (by simp) (BigFrame.allReadyIn_want rfl (by rfl) (fun K hK => ?_) (AllReadyIn.nil))
            go_simp
            refine hK _ _ ?_
            clear hK
            refine wpAnyIn_done (by kernel_rfl) ?_ _
            have hB3 : Below w.heap.size w w3 := hB.drew.trans (hb3.mono hB.size)
            have hKO2 := hKO.trans ((KeepsOthers.drew wr).trans ((keeps_below hb3).trans hk2))
            have hKp2 := hKp.trans (KpBut.trans (KpBut.below (A := wr.drew) hb3 hWs : KpBut _ _ wr w3) hkp)
            have hG2 : GatherAt w (w.heap.size + 3) w.heap.size (acc ++ [trimBA (v.extract 0 cv.toNat)]) (w1.setCell ⟨w.heap.size, 0, none⟩ (.slice (some ⟨g', 0, none⟩) (acc.length + 1) cap')) := ⟨⟨_, hv2, by simpa using hr2, trivial⟩, hB3.trans hb2, Nat.le_trans (Nat.le_trans hWs hb3.size) hb2.size⟩
            generalize w1.setCell ⟨w.heap.size, 0, none⟩ (.slice (some ⟨g', 0, none⟩) (acc.length + 1) cap') = W2 at *
            clear hv1 hv2 hr2 hk2 hb2 hkp hc1 hf1 hown' hgrow hb' hrow' hcw hca hB3
            gi_wp2_with (gi_at_call 22; refine (CallsIn.inRound l (callsIn_wide.2 (hCm.out _ (hex2 _) _))).mono ?_; rintro e w5 ⟨rfl, ⟨m5, rfl⟩⟩)
            go_roundw
            case rel => exact ⟨acc ++ [trimBA (v.extract 0 cv.toNat)], _, rfl, rfl, hex2 _, by rw [hfin, hce, show (cv + 1).toNat = cv.toNat + 1 by omega]; simp, GatherAt.own w (w.heap.size + 3) w.heap.size _ (Nat.le_refl _) _ _ _ none hG2 (grown_of_below (below_drewN _ _) none) (by simp), hKO2.trans (keeps_below (below_drewN _ _)), hKp2.trans (KpBut.below (below_drewN _ _) hG2.2.2)⟩
            case measure => simp [szOf, ByteArray.size_extract]; omega
          · go_simp
            refine hK _ _ ?_
            clear hK
            refine wpAnyIn_ready (rs := [0]) (by kernel_rfl) (by simp) (BigFrame.allReadyIn_want rfl (by rfl) (fun K hK => ?_) (AllReadyIn.nil))
            go_simp
            refine hK _ _ ?_
            clear hK
            refine wpAnyIn_ready (rs := [6]) (by kernel_rfl) (by simp) (BigFrame.allReadyIn_want rfl (by rfl) (fun K hK => ?_) (AllReadyIn.nil))
            refine wpIn_append_own _ rfl _ _ 28 rfl (w.heap.size + 3) 9 i0 (.string ⟨#[]⟩) 1 16 Tryd.underlying28 hi hz0 hz1 hz2 rfl (by decide) _ _ _ rfl (hrow'.alloc _) ⟨w3.heap.size, 0, none⟩ 1 1 [.string (trimBA (v.extract 0 cv.toNat))] rfl rfl (cell_one_new _ _ _) (by simp [Value.oneCell']) (by simp only [maxLen]; omega) (by omega) (by simp; have := hb3.size; simp at this; omega) ?_
            intro v' w1 hown' hgrow _
            obtain ⟨g', cap', rfl⟩ := ownsRow_succ hown'
            obtain ⟨hv1, hv2, hr2, hk2, hb2, hkp⟩ := gathered hb' (by decide) hrow' (Nat.le_trans hWs hb3.size) (by omega) hown' hgrow
            have hc1 := hv1.cell
            have hf1 := hv1.frozen
            refine hK _ _ ?_
            clear hK
            refine wpAnyIn_ready (rs := [7]) (by kernel_rfl) (by simp) (BigFrame.allReadyIn_want rfl (by rfl) (fun K hK => ?_) (AllReadyIn.nil))
            go_simp
            refine hK _ _ ?_
            clear hK
            refine wpAnyIn_done (by kernel_rfl) ?_ _
            have hB3 : Below w.heap.size w w3 := hB.drew.trans (hb3.mono hB.size)
            have hKO2 := hKO.trans ((KeepsOthers.drew wr).trans ((keeps_below hb3).trans hk2))
            have hKp2 := hKp.trans (KpBut.trans (KpBut.below (A := wr.drew) hb3 hWs : KpBut _ _ wr w3) hkp)
            have hG2 : GatherAt w (w.heap.size + 3) w.heap.size (acc ++ [trimBA (v.extract 0 cv.toNat)]) (w1.setCell ⟨w.heap.size, 0, none⟩ (.slice (some ⟨g', 0, none⟩) (acc.length + 1) cap')) := ⟨⟨_, hv2, by simpa using hr2, trivial⟩, hB3.trans hb2, Nat.le_trans (Nat.le_trans hWs hb3.size) hb2.size⟩
            generalize w1.setCell ⟨w.heap.size, 0, none⟩ (.slice (some ⟨g', 0, none⟩) (acc.length + 1) cap') = W2 at *
            clear hv1 hv2 hr2 hk2 hb2 hkp hc1 hf1 hown' hgrow hb' hrow' hcw hca hB3
            gi_wp2_with (gi_at_call 22; refine (CallsIn.inRound l (callsIn_wide.2 (hCm.out _ (hex2 _) _))).mono ?_; rintro e w5 ⟨rfl, ⟨m5, rfl⟩⟩)
            go_roundw
            case rel => exact ⟨acc ++ [trimBA (v.extract 0 cv.toNat)], _, rfl, rfl, hex2 _, by rw [hfin, hce, show (cv + 1).toNat = cv.toNat + 1 by omega]; simp, GatherAt.own w (w.heap.size + 3) w.heap.size _ (Nat.le_refl _) _ _ _ none hG2 (grown_of_below (below_drewN _ _) none) (by simp), hKO2.trans (keeps_below (below_drewN _ _)), hKp2.trans (KpBut.below (below_drewN _ _) hG2.2.2)⟩
            case measure => simp [szOf, ByteArray.size_extract]; omega
        -- END R6
      · rw [if_neg hco] at hce
        generalize hcv : commaOf v = cv at *
        gi_wp2
        -- BEGIN R8
        refine region_inRound rfl hmx (by intro o ho c; simp only [List.mem_toArray, List.mem_cons, List.not_mem_nil, or_false] at ho; rcases ho with rfl | rfl | rfl | rfl | rfl | rfl <;> simp) ?_
        refine wpAnyIn_take (i := 1) (v := .string v) rfl rfl (by kernel_rfl) (by kernel_rfl) (by kernel_rfl) (fun _ _ _ h => h) ⟨Or.inl ⟨by rfl, by intro w; go_simp⟩, fun _ => rfl⟩ ?_
        refine wpAnyIn_ready (rs := [0, 2]) (by kernel_rfl) (by simp) (BigFrame.allReadyIn_want rfl (by rfl) (fun K hK => ?_) (BigFrame.allReadyIn_want rfl (by rfl) (fun K hK => ?_) (AllReadyIn.nil)))
        · go_simp
          refine hK _ _ ?_
          clear hK
          refine wpAnyIn_ready (rs := [2]) (by kernel_rfl) (by simp) (BigFrame.allReadyIn_want rfl (by rfl) (fun K hK => ?_) (AllReadyIn.nil))
          go_simp
          refine (CallsIn.mono (callsIn_wide.2 (hTr.out v hsz _)) ?_)
          rintro e w3 ⟨rfl, hb3⟩
          have hq := drawn_kept hb hrow hb3
          obtain ⟨hb', hrow', hcw, hca⟩ := hq
          refine hK _ _ ?_
          clear hK
          refine wpAnyIn_ready (rs := [3]) (by kernel_rfl) (by simp) (BigFrame.allReadyIn_want rfl (by rfl) (fun K hK => ?_) (AllReadyIn.nil))
          go_simp
          refine hK _ _ ?_
          clear hK
          refine wpAnyIn_ready (rs := [4]) (by kernel_rfl) (by simp) (BigFrame.allReadyIn_want rfl (by rfl) (fun K hK => ?_) (AllReadyIn.nil))
          refine wpIn_append_own _ rfl _ _ 28 rfl (w.heap.size + 3) 9 i0 (.string ⟨#[]⟩) 1 16 Tryd.underlying28 hi hz0 hz1 hz2 rfl (by decide) _ _ _ rfl (hrow'.alloc _) ⟨w3.heap.size, 0, none⟩ 1 1 [.string (trimBA v)] rfl rfl (cell_one_new _ _ _) (by simp [Value.oneCell']) (by simp only [maxLen]; omega) (by omega) (by simp; have := hb3.size; simp at this; omega) ?_
          intro v' w1 hown' hgrow _
          obtain ⟨g', cap', rfl⟩ := ownsRow_succ hown'
          obtain ⟨hv1, hv2, hr2, hk2, hb2, hkp⟩ := gathered hb' (by decide) hrow' (Nat.le_trans hWs hb3.size) (by omega) hown' hgrow
          have hc1 := hv1.cell
          have hf1 := hv1.frozen
          refine hK _ _ ?_
          clear hK
          refine wpAnyIn_ready (rs := [5]) (by kernel_rfl) (by simp) (BigFrame.allReadyIn_want rfl (by rfl) (fun K hK => ?_) (AllReadyIn.nil))
          go_simp
          refine hK _ _ ?_
          clear hK
          refine wpAnyIn_done (by kernel_rfl) ?_ _
          have hB3 : Below w.heap.size w w3 := hB.drew.trans (hb3.mono hB.size)
          have hKO2 := hKO.trans ((KeepsOthers.drew wr).trans ((keeps_below hb3).trans hk2))
          have hKp2 := hKp.trans (KpBut.trans (KpBut.below (A := wr.drew) hb3 hWs : KpBut _ _ wr w3) hkp)
          have hG2 : GatherAt w (w.heap.size + 3) w.heap.size (acc ++ [trimBA v]) (w1.setCell ⟨w.heap.size, 0, none⟩ (.slice (some ⟨g', 0, none⟩) (acc.length + 1) cap')) := ⟨⟨_, hv2, by simpa using hr2, trivial⟩, hB3.trans hb2, Nat.le_trans (Nat.le_trans hWs hb3.size) hb2.size⟩
          generalize w1.setCell ⟨w.heap.size, 0, none⟩ (.slice (some ⟨g', 0, none⟩) (acc.length + 1) cap') = W2 at *
          clear hv1 hv2 hr2 hk2 hb2 hkp hc1 hf1 hown' hgrow hb' hrow' hcw hca hB3
          exact ⟨hKO2.from _, by simpa using hKp2, by show GatherAt w (w.heap.size + 3) w.heap.size (((pre ++ [x]).map (fun x => x.1)).flatMap cparts) W2; rw [hfin, hce]; exact hG2⟩
        · go_simp
          refine (CallsIn.mono (callsIn_wide.2 (hTr.out v hsz _)) ?_)
          rintro e w3 ⟨rfl, hb3⟩
          have hq := drawn_kept hb hrow hb3
          obtain ⟨hb', hrow', hcw, hca⟩ := hq
          refine hK _ _ ?_
          clear hK
          refine wpAnyIn_ready (rs := [0, 3]) (by kernel_rfl) (by simp) (BigFrame.allReadyIn_want rfl (by rfl) (fun K hK => ?_) (BigFrame.allReadyIn_want rfl (by rfl) (fun K hK => ?_) (AllReadyIn.nil)))
          · go_simp
            refine hK _ _ ?_
            clear hK
            refine wpAnyIn_ready (rs := [3]) (by kernel_rfl) (by simp) (BigFrame.allReadyIn_want rfl (by rfl) (fun K hK => ?_) (AllReadyIn.nil))
            go_simp
            refine hK _ _ ?_
            clear hK
            refine wpAnyIn_ready (rs := [4]) (by kernel_rfl) (by simp) (BigFrame.allReadyIn_want rfl (by rfl) (fun K hK => ?_) (AllReadyIn.nil))
            refine wpIn_append_own _ rfl _ _ 28 rfl (w.heap.size + 3) 9 i0 (.string ⟨#[]⟩) 1 16 Tryd.underlying28 hi hz0 hz1 hz2 rfl (by decide) _ _ _ rfl (hrow'.alloc _) ⟨w3.heap.size, 0, none⟩ 1 1 [.string (trimBA v)] rfl rfl (cell_one_new _ _ _) (by simp [Value.oneCell']) (by simp only [maxLen]; omega) (by omega) (by simp; have := hb3.size; simp at this; omega) ?_
            intro v' w1 hown' hgrow _
            obtain ⟨g', cap', rfl⟩ := ownsRow_succ hown'
            obtain ⟨hv1, hv2, hr2, hk2, hb2, hkp⟩ := gathered hb' (by decide) hrow' (Nat.le_trans hWs hb3.size) (by omega) hown' hgrow
            have hc1 := hv1.cell
            have hf1 := hv1.frozen
            refine hK _ _ ?_
            clear hK
            refine wpAnyIn_ready (rs := [5]) (by kernel_rfl) (by simp) (BigFrame.allReadyIn_want rfl (by rfl) (fun K hK => ?_) (AllReadyIn.nil))
            go_simp
            refine hK _ _ ?_
            clear hK
            refine wpAnyIn_done (by kernel_rfl) ?_ _
            have hB3 : Below w.heap.size w w3 := hB.drew.trans (hb3.mono hB.size)
            have hKO2 := hKO.trans ((KeepsOthers.drew wr).trans ((keeps_below hb3).trans hk2))
            have hKp2 := hKp.trans (KpBut.trans (KpBut.below (A := wr.drew) hb3 hWs : KpBut _ _ wr w3) hkp)
            have hG2 : GatherAt w (w.heap.size + 3) w.heap.size (acc ++ [trimBA v]) (w1.setCell ⟨w.heap.size, 0, none⟩ (.slice (some ⟨g', 0, none⟩) (acc.length + 1) cap')) := ⟨⟨_, hv2, by simpa using hr2, trivial⟩, hB3.trans hb2, Nat.le_trans (Nat.le_trans hWs hb3.size) hb2.size⟩
            generalize w1.setCell ⟨w.heap.size, 0, none⟩ (.slice (some ⟨g', 0, none⟩) (acc.length + 1) cap') = W2 at *
            clear hv1 hv2 hr2 hk2 hb2 hkp hc1 hf1 hown' hgrow hb' hrow' hcw hca hB3
            exact ⟨hKO2.from _, by simpa using hKp2, by show GatherAt w (w.heap.size + 3) w.heap.size (((pre ++ [x]).map (fun x => x.1)).flatMap cparts) W2; rw [hfin, hce]; exact hG2⟩
          · go_simp
            refine hK _ _ ?_
            clear hK
            refine wpAnyIn_ready (rs := [0]) (by kernel_rfl) (by simp) (BigFrame.allReadyIn_want rfl (by rfl) (fun K hK => ?_) (AllReadyIn.nil))
            go_simp
            refine hK _ _ ?_
            clear hK
            refine wpAnyIn_ready (rs := [4]) (by kernel_rfl) (by simp) (BigFrame.allReadyIn_want rfl (by rfl) (fun K hK => ?_) (AllReadyIn.nil))
            refine wpIn_append_own _ rfl _ _ 28 rfl (w.heap.size + 3) 9 i0 (.string ⟨#[]⟩) 1 16 Tryd.underlying28 hi hz0 hz1 hz2 rfl (by decide) _ _ _ rfl (hrow'.alloc _) ⟨w3.heap.size, 0, none⟩ 1 1 [.string (trimBA v)] rfl rfl (cell_one_new _ _ _) (by simp [Value.oneCell']) (by simp only [maxLen]; omega) (by omega) (by simp; have := hb3.size; simp at this; omega) ?_
            intro v' w1 hown' hgrow _
            obtain ⟨g', cap', rfl⟩ := ownsRow_succ hown'
            obtain ⟨hv1, hv2, hr2, hk2, hb2, hkp⟩ := gathered hb' (by decide) hrow' (Nat.le_trans hWs hb3.size) (by omega) hown' hgrow
            have hc1 := hv1.cell
            have hf1 := hv1.frozen
            refine hK _ _ ?_
            clear hK
            refine wpAnyIn_ready (rs := [5]) (by kernel_rfl) (by simp) (BigFrame.allReadyIn_want rfl (by rfl) (fun K hK => ?_) (AllReadyIn.nil))
            go_simp
            refine hK _ _ ?_
            clear hK
            refine wpAnyIn_done (by kernel_rfl) ?_ _
            have hB3 : Below w.heap.size w w3 := hB.drew.trans (hb3.mono hB.size)
            have hKO2 := hKO.trans ((KeepsOthers.drew wr).trans ((keeps_below hb3).trans hk2))
            have hKp2 := hKp.trans (KpBut.trans (KpBut.below (A := wr.drew) hb3 hWs : KpBut _ _ wr w3) hkp)
            have hG2 : GatherAt w (w.heap.size + 3) w.heap.size (acc ++ [trimBA v]) (w1.setCell ⟨w.heap.size, 0, none⟩ (.slice (some ⟨g', 0, none⟩) (acc.length + 1) cap')) := ⟨⟨_, hv2, by simpa using hr2, trivial⟩, hB3.trans hb2, Nat.le_trans (Nat.le_trans hWs hb3.size) hb2.size⟩
            generalize w1.setCell ⟨w.heap.size, 0, none⟩ (.slice (some ⟨g', 0, none⟩) (acc.length + 1) cap') = W2 at *
            clear hv1 hv2 hr2 hk2 hb2 hkp hc1 hf1 hown' hgrow hb' hrow' hcw hca hB3
            exact ⟨hKO2.from _, by simpa using hKp2, by show GatherAt w (w.heap.size + 3) w.heap.size (((pre ++ [x]).map (fun x => x.1)).flatMap cparts) W2; rw [hfin, hce]; exact hG2⟩
        -- END R8
  case done =>
    rintro D ys W hD hS hG hK
    rw [hS] at hG
    obtain ⟨v, hbx, hRR, hBB⟩ := hG.done (by omega)
    change Kd.R Kd.string 9 W w.heap.size (fun _ => True) v (partsOf l0 a1) at hRR
    obtain ⟨A1, c1, hv1⟩ := Kd.R_slice hRR
    generalize (partsOf l0 a1).length = n1 at hv1
    subst hv1
    have hc1 := hbx.cell
    have hf1 := hbx.frozen
    have HRR := Aside0.mk hRR
    have HBB := Aside0.mk hBB
    have HBX := Aside0.mk hbx
    clear hRR hBB hbx hG
    gi_wp2
    have hK2 := (KeepsOthers.setCell W ⟨w.heap.size, 0, none⟩ (.slice A1 n1 c1)).same D _ hK rfl
    have hD2 : D ≠ w.heap.size := by simp at hD; omega
    refine ⟨by simp, .inl ⟨_, _, rfl, run_takeDeferred hK2, ?_⟩⟩
    have hb3 : Boxed ((W.setCell ⟨w.heap.size, 0, none⟩ (.slice A1 n1 c1)).putObj D (.deferred none)) w.heap.size 28 (.slice A1 n1 c1) := (World.putObj_heap_other (Ne.symm hD2)).trans (HBX.out.set _)
    have hc3 := hb3.cell
    refine ⟨.slice A1 n1 c1, by simp [results, Tryd.results14, go_sem, hc3], ?_⟩
    exact ⟨_, rfl, R_putObj (Kd.R_set HRR.out HBX.out (by decide) 0 _) hK2 rfl _, (HBB.out.setCell (p := ⟨w.heap.size, 0, none⟩) (Nat.le_refl _) _).trans (belowK_b (w := w) (Nat.le_refl _) _ D _ _ (by simp at hD; omega) hK2 rfl rfl)⟩
  case stop =>
    rintro D c pre W _ _ h _
    exact h.elim
theorem headers_Parts.calls (A0 : Option Addr) (c0 : Nat) (l0 : List S24) (a1 : ByteArray) (r : List ByteArray) (w : World) (hr0 : Kd.C k24 w A0 l0.length l0) (hc0 : l0.length ≤ c0) (h : headers_Parts.f l0 a1 = some r) :
    Calls Tryd.prog 14 #[.slice A0 l0.length c0, .string a1] w fun e w' => ∃ v0_ : Value, e = .returned v0_ ∧ Kd.R Kd.string 9 w' w.heap.size (fun _ => True) v0_ r ∧ Below w.heap.size w w' := by
  unfold headers_Parts.f at h
  split at h
  · rename_i hok
    obtain rfl := Option.some.inj h
    exact Parts_ok A0 c0 l0 a1 w hr0 hc0 hok.1 (hdrsM hok.2)
  · cases h


end Go.Proofs.YtebkibohejjkcaaDoor.Q
