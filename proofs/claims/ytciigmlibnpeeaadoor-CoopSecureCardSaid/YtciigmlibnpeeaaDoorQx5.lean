-- Laid by this seat's own driver (wip/tools/drive.py) out of the translation.
import Derived.Test.YtciigmlibnpeeaaDoorQx0
import Derived.Test.YtciigmlibnpeeaaDoorQx3
import Derived.Test.YtciigmlibnpeeaaDoorQx4
namespace Go.Proofs.YtciigmlibnpeeaaDoor.Q
open Go.RowKit Go.Proofs.YtciigmlibnpeeaaDoorW.PrintWords Go.Proofs.YtciigmlibnpeeaaDoorW.PrintLast Go.Proofs.YtciigmlibnpeeaaDoorW.PrintMore
attribute [local go_sem] max2_int min2_int max_two min_two max_three min_three max_four min_four   -- for this text's walks alone
set_option linter.unusedVariables false
set_option linter.unusedSimpArgs false

/-! ### coop_Coep: function 11 -/
open Go.Proofs.YtciigmlibnpeeaaDoor.Sf
def reportTo : ByteArray := ⟨#[114, 101, 112, 111, 114, 116, 45, 116, 111]⟩
theorem rt_list : reportTo.toList = ([114, 101, 112, 111, 114, 116, 45, 116, 111] : List UInt8) := by rw [Lib.toList_data]; rfl
def toF : List S52 → ByteArray
  | [] => ⟨#[]⟩
  | p :: l => if p.f0 = reportTo ∧ p.f1 = 3 then p.f3 else toF l
def readF (l0 : List S33) (name : ByteArray) : Option (ByteArray × ByteArray) := (headers_Combined.f l0 name).bind fun t => (sfitem_Parse.f t.1).bind fun x => if t.2 = true ∧ x.2.2.2.2 = 0 ∧ x.1 = 4 then (if x.2.2.2.1.length ≤ 140737488355327 then some (x.2.2.1, toF x.2.2.2.1) else none) else some (⟨#[]⟩, ⟨#[]⟩)
/-- The block that reader's closure holds. -/
def CoB (W : World) (b : Nat) (v : Value) : Prop := W.heap[b]? = some (.cells #[v] 23 (0, 0))
theorem CoB.cell {W : World} {b : Nat} {v : Value} (h : CoB W b v) : W.cell? ⟨b, 0, none⟩ = some v := (blk_cell h 0).trans rfl
theorem CoB_new (W : World) (v : Value) : CoB (W.alloc (.cells #[v] 23)) W.heap.size v := by
  have := blk_new W (.cells #[v] 23); simpa [CoB] using this
theorem str_is (s t : ByteArray) : (s.toList == t.toList) = decide (s = t) := by
  by_cases h : s = t
  · subst h; simp
  · have : ¬ s.toList = t.toList := fun e => h (by
      rw [Lib.toList_data, Lib.toList_data] at e
      exact ByteArray.ext (Array.toList_inj.1 e))
    rw [decide_eq_false h]; exact beq_eq_false_iff_ne.mpr this
theorem PB_newp (W : World) (k : ByteArray) (n i : Int) (t : ByteArray) : PB (W.alloc (.cells #[.string k, .int .i64 n, .int .i64 i, .string t] 52)) W.heap.size k n i t := by
  have := blk_new W (.cells #[.string k, .int .i64 n, .int .i64 i, .string t] 52); simpa [PB] using this
theorem IB_new (W : World) (n i : Int) (t : ByteArray) (v : Value) : IB (W.alloc (.cells #[.int .i64 n, .int .i64 i, .string t, v] 47)) W.heap.size n i t v := by
  have := blk_new W (.cells #[.int .i64 n, .int .i64 i, .string t, v] 47); simpa [IB] using this
set_option maxHeartbeats 8000000 in
set_option maxRecDepth 100000 in
theorem read_calls (b : Nat) (A0 : Option Addr) (c0 : Nat) (l0 : List S33) (name t dst : ByteArray) (w : World) (hb : CoB w b (.slice A0 l0.length c0)) (hr0 : Kd.C k33 w A0 l0.length l0) (hc0 : l0.length ≤ c0) (h : readF l0 name = some (t, dst)) :
    Calls Tryd.prog 16 #[.string name, .pointer (some ⟨b, 0, none⟩)] w fun e w' => e = .returned (.tuple #[.string t, .string dst]) ∧ Below w.heap.size w w' := by
  unfold readF at h
  obtain ⟨⟨v, is⟩, hC, h⟩ := Option.bind_eq_some_iff.mp h
  obtain ⟨⟨kd, iv, tx, ps, e⟩, hP, h⟩ := Option.bind_eq_some_iff.mp h
  simp only [] at h hP
  have hc := hb.cell
  have HC := Aside0.mk (headers_Combined.calls A0 c0 l0 name v is w hr0 hc0 hC)
  have HP := Aside0.mk (fun W => sfitem_Parse.calls v kd iv tx ps e W hP)
  have HH := Aside0.mk h
  clear hb hr0 hc0 hC hP h
  go_enter Tryd.func16, Tryd.ntmps16
  go_upto_region 3 with (first | (go_at_call 18; refine (HP.out _).mono ?_; rintro e w2 ⟨v4, rfl, hR2, hB2⟩; obtain ⟨A2, c2, hv2⟩ := Kd.R_slice hR2; subst hv2) | (go_at_call 17; refine HC.out.mono ?_; rintro e w1 ⟨rfl, hB1⟩))
  have hI := IB_new w2 kd iv tx (.slice A2 ps.length c2)
  have HB := Aside0.mk (below_alloc (below_then hB1 hB1.size hB2) (.cells #[.int .i64 kd, .int .i64 iv, .string tx, .slice A2 ps.length c2] 47))
  have HR := Aside0.mk (Kd.R_alloc (Kd.R_lower hR2 (Nat.le_trans hB1.size (Nat.le_refl _))) (.cells #[.int .i64 kd, .int .i64 iv, .string tx, .slice A2 ps.length c2] 47))
  clear hR2 hB2 hB1 HC HP hc
  generalize w2.alloc (.cells #[.int .i64 kd, .int .i64 iv, .string tx, .slice A2 ps.length c2] 47) = w3 at *
  generalize w2.heap.size = ib at *
  have k0 := hI.c0
  have k2 := hI.c2
  have k3 := hI.c3
  cases is with
  | false =>
    have hH := HH.out
    rw [if_neg (by simp)] at hH
    obtain ⟨rfl, rfl⟩ := Prod.mk.inj (Option.some.inj hH)
    clear hH HH
    go_wp2
    go_ret2
    exact ⟨rfl, HB.out⟩
  | true =>
    by_cases he : e = 0
    · have he1 : (e != 0) = false := by simp [he]
      by_cases hk : kd = 4
      · have hk1 : (kd != 4) = false := by simp [hk]
        have hH := HH.out
        rw [if_pos ⟨rfl, he, hk⟩] at hH
        by_cases hz : ps.length ≤ 140737488355327
        · rw [if_pos hz] at hH
          obtain ⟨rfl, hQ⟩ := Prod.mk.inj (Option.some.inj hH)
          clear HH hH
          have HT := Aside0.mk hQ
          clear hQ he hk
          go_upto_region 6 with (fail)
          have hCp := (Kd.R_reads' HR.out).2.2
          have HC := Aside0.mk hCp
          have HI := Aside0.mk hI
          clear hCp HR k0 k2 k3 hI
          go_loopw [10, 36] (fun v10 v36 wr => ∃ n : Nat, n ≤ ps.length ∧ v36 = .int .i64 n ∧ Aside0 (toF (ps.drop n) = dst) ∧ Aside0 (Below w3.heap.size w3 wr)) (fun _ v36 _ => ps.length - (intOf v36).toNat)
          case atStart => exact ⟨0, Nat.zero_le _, rfl, HT, ⟨Below.refl _ _⟩⟩
          case round =>
            clear HT
            obtain ⟨n, hn, rfl, HT, HW⟩ := hrel
            have hIr : IB wr ib kd iv tx (.slice A2 ps.length c2) := blk_below HI.out HW.out
            have HIr := Aside0.mk hIr
            have k2 := hIr.c2
            clear hIr
            by_cases hlt : n < ps.length
            · have hltd : decide ((n : Int) < (ps.length : Int)) = true := decide_eq_true (by omega)
              obtain ⟨ad, hA, h0, h1, h2, h3⟩ := at_T52 (Kd.C_below HC.out HW.out) (n : Int) (by omega) (by omega)
              subst hA
              simp only [Int.toNat_natCast] at h0 h1 h2 h3
              have p1 : (0 ≤ (n : Int)) = True := eq_true (by omega)
              have p2 : ((n : Int) < (ps.length : Int)) = True := eq_true (by omega)
              have hH := HT.out
              rw [List.drop_eq_getElem_cons hlt, toF] at hH
              rw [← rd_get ps n hlt] at hH
              generalize rd_T52 ps n = p at *
              have HP := Aside0.mk (PB_newp wr p.f0 p.f1 p.f2 p.f3)
              have HW2 := Aside0.mk (below_alloc HW.out (.cells #[.string p.f0, .int .i64 p.f1, .int .i64 p.f2, .string p.f3] 52))
              have HI2 := Aside0.mk (blk_alloc HIr.out (.cells #[.string p.f0, .int .i64 p.f1, .int .i64 p.f2, .string p.f3] 52))
              have HH := Aside0.mk hH
              clear hH k2
              go_upto_region 8 with (fail)
              clear h0 h1 h2 h3 HW HIr
              generalize wr.alloc (.cells #[.string p.f0, .int .i64 p.f1, .int .i64 p.f2, .string p.f3] 52) = w4 at *
              generalize wr.heap.size = pb at *
              have hP := HP.out
              have j0 := hP.c0
              have j1 := hP.c1
              clear hP
              by_cases e1 : p.f0 = reportTo
              · have b1 : (p.f0.toList == ([114, 101, 112, 111, 114, 116, 45, 116, 111] : List UInt8)) = true := by rw [e1, rt_list]; rfl
                have b1c : p.f0.toList = ([114, 101, 112, 111, 114, 116, 45, 116, 111] : List UInt8) := by rw [e1, rt_list]
                by_cases e2 : p.f1 = 3
                · have b2 : (p.f1 == 3) = true := by simp [e2]
                  have hH := HH.out
                  rw [if_pos ⟨e1, e2⟩] at hH
                  subst hH
                  clear e1 e2 HH
                  go_upto_region 9 with (fail)
                  have K := Aside0.mk (fun W (hb : Below w4.heap.size w4 W) => And.intro (show IB W ib kd iv tx (.slice (some ad) ps.length c2) from blk_below HI2.out hb).c2 (And.intro (show PB W pb p.f0 p.f1 p.f2 p.f3 from blk_below HP.out hb).c3 hb))
                  go_region_held3 (fun w' => w'.cell? ⟨ib, 2, none⟩ = some (.string tx) ∧ w'.cell? ⟨pb, 3, none⟩ = some (.string p.f3) ∧ Below w4.heap.size w4 w') (first | exact K.out _ (below_drew (Below.refl _ _)) | exact K.out _ (Below.refl _ _) | exact K.out _ (by assumption)) (first | fail)
                  go_wp2
                  go_ret2
                  exact ⟨rfl, below_drew1 (below_then HB.out HB.out.size HW2.out)⟩
                · have b2 : (p.f1 == 3) = false := by simp [e2]
                  have hH := HH.out
                  rw [if_neg (fun h => e2 h.2)] at hH
                  have HH2 := Aside0.mk hH
                  clear hH HH e1
                  go_wp2
                  go_roundw
                  case rel => exact ⟨n + 1, by omega, by go_num, HH2, HW2⟩
                  case measure => simp [intOf]; omega
              · have b1 : (p.f0.toList == ([114, 101, 112, 111, 114, 116, 45, 116, 111] : List UInt8)) = false := by rw [← rt_list]; exact (str_is p.f0 reportTo).trans (decide_eq_false e1)
                have hH := HH.out
                rw [if_neg (fun h => e1 h.1)] at hH
                have HH2 := Aside0.mk hH
                clear hH HH
                go_wp2
                go_roundw
                case rel => exact ⟨n + 1, by omega, by go_num, HH2, HW2⟩
                case measure => simp [intOf]; omega
            · obtain rfl : n = ps.length := by omega
              have hltd : decide ((ps.length : Int) < (ps.length : Int)) = false := decide_eq_false (by omega)
              have hH := HT.out
              rw [List.drop_length, toF] at hH
              subst hH
              go_wp2
              go_ret2
              exact ⟨rfl, below_then HB.out HB.out.size HW.out⟩
        · rw [if_neg hz] at hH; cases hH
      · have hk1 : (kd != 4) = true := by simp [hk]
        have hH := HH.out
        rw [if_neg (fun h => hk h.2.2)] at hH
        obtain ⟨rfl, rfl⟩ := Prod.mk.inj (Option.some.inj hH)
        clear hH HH
        go_wp2
        go_ret2
        exact ⟨rfl, HB.out⟩
    · have he1 : (e != 0) = true := by simp [he]
      have hH := HH.out
      rw [if_neg (fun h => he h.2.1)] at hH
      obtain ⟨rfl, rfl⟩ := Prod.mk.inj (Option.some.inj hH)
      clear hH HH
      go_wp2
      go_ret2
      exact ⟨rfl, HB.out⟩
theorem reader_calls (A0 : Option Addr) (n c0 : Nat) (w : World) :
    Calls Tryd.prog 15 #[.slice A0 n c0] w fun e w' => e = .returned (.func (.func 16) #[] #[.pointer (some ⟨w.heap.size, 0, none⟩)]) ∧ w' = w.alloc (.cells #[.slice A0 n c0] 23) := by
  have hmf : ∀ (fn : Fn) (first cap : Array Value) (w : World), (Instr.makeFunc fn first cap).run Tryd.prog w = .ok (.func fn first cap) w := fun _ _ _ _ => rfl
  go_enter Tryd.func15, Tryd.ntmps15
  go_wp2
  go_ret
  exact ⟨rfl, rfl⟩
/-- A text as a map's key. -/
def keyC (s : ByteArray) : Lit := .string s.data.toList
theorem keyC_inj {s t : ByteArray} (h : keyC s = keyC t) : s = t := by
  unfold keyC at h
  injection h with h
  exact ByteArray.ext (Array.toList_inj.1 h)
theorem keyC_is (s : ByteArray) : WideAt.IsKeyLit (keyC s) := trivial
theorem insert_ownC {H : Type} {P : Program} (w : World) {ops : Array Oper} {rest : List Oper} {o : Oper} {a : Act} {Q : Exit → Act → World → Prop}
    (hg : o.guard = none) (m x v : Operand) (t : TypeId) (hop : o.op = Op.insert t m x v)
    (k e : TypeId) (K : Go.Maps.Keyed P k) (ht : P.underlying t = some (.map k e)) (R : Value → Option (DataW H × List MemPlace)) (b n : Nat) (D : DataW H)
    (hm : a.eval m = .map (some b)) (hown : w.ownsMap P k R b n D) (hn : n < maxLen) (key val : Value) (kl : Lit) (hx : a.eval x = key) (hv : a.eval v = val) (hkey : keyOf P k key = some kl)
    (d : DataW H) (ps : List MemPlace) (hval : R val = some (d, ps))
    (hK : ∀ w', w'.ownsMap P k R b (n + 1) (D.put kl d) → w.grownBy w' (some b) → wpList P ops Q rest (a.put o.dst undef) w') :
    wpList P ops Q (o :: rest) a w := by
  refine wpList_plain hg fun K' hK' => ?_
  obtain ⟨w', hrun, r1, r2⟩ := hown.update K ht hn hkey hval
  unfold Oper.wp
  simp [execOp, hop, hm, hx, hv, hrun, Result.andThen]
  exact hK' _ _ (hK w' r1 r2)
theorem below_grownC {B b : Nat} {w W W' : World} (h : Below B w W) (hg : W.grownBy W' (some b)) (hB : B ≤ b) (hs : B ≤ W.heap.size) : Below B w W' :=
  ⟨hg.os.trans h.os, hg.tape.trans h.tape, hg.output.trans h.output, Nat.le_trans h.size hg.size, fun k hk => (hg.block k (by omega) (by intro e; cases e; omega)).trans (h.block k hk)⟩
def litC (c : Int) : DataW Unit := .lit (.int .i64 c)
/-- A text looked up in a map that is held. -/
theorem look_C {W : World} {b n : Nat} {D : DataW Unit} (hown : W.ownsMap Tryd.prog 9 (plainElem Tryd.prog 3) b n D) (s : ByteArray) (hs : s.size ≤ 281474976710656) (v : Int) (hv : D.atKey (keyC s) (litC 0) = litC v) :
    (Instr.lookup 38 (.map (some b)) (.string s) false).run Tryd.prog W = .ok (.int .i64 v) W := by
  have kd : keyOf Tryd.prog 9 (.string s) = some (keyC s) := WideMaps.keyOf_string_mk Tryd.underlying9 (by unfold maxLen; omega)
  have zE : (zeroValue 3).run Tryd.prog W = .ok (.int .i64 0) W := by kernel_rfl
  obtain ⟨c2, hrun2, hc2, _⟩ := hown.lookup_int (Go.Maps.string_keyed Tryd.underlying9) Tryd.underlying38 Tryd.underlying3 zE kd
  have e2 : v = c2 := by
    have : litC v = litC c2 := hv.symm.trans hc2
    unfold litC at this
    simpa using this
  rw [e2]; exact hrun2
def wordsM (k1 k2 : ByteArray) : DataW Unit := ((DataW.map []).put (keyC k1) (litC 2)).put (keyC k2) (litC 1)
def twoOf (k1 k2 v : ByteArray) : Int := if v = k2 then 1 else if v = k1 then 2 else 0
theorem two_at (k1 k2 v : ByteArray) : (wordsM k1 k2).atKey (keyC v) (litC 0) = litC (twoOf k1 k2 v) := by
  unfold wordsM twoOf
  by_cases h2 : v = k2
  · subst h2
    rw [if_pos rfl]
    exact Go.Maps.atKey_put_same (Go.Maps.IsMap.put ⟨[], rfl⟩ _ _) (keyC_is _) _ _
  rw [if_neg h2, Go.Maps.atKey_put_other (fun e => h2 (keyC_inj e))]
  by_cases h1 : v = k1
  · subst h1
    rw [if_pos rfl]
    exact Go.Maps.atKey_put_same ⟨[], rfl⟩ (keyC_is _) _ _
  rw [if_neg h1, Go.Maps.atKey_put_other (fun e => h1 (keyC_inj e))]
  rfl
def nCoep : ByteArray := ⟨#[99, 114, 111, 115, 115, 45, 111, 114, 105, 103, 105, 110, 45, 101, 109, 98, 101, 100, 100, 101, 114, 45, 112, 111, 108, 105, 99, 121]⟩
def nCoepR : ByteArray := ⟨#[99, 114, 111, 115, 115, 45, 111, 114, 105, 103, 105, 110, 45, 101, 109, 98, 101, 100, 100, 101, 114, 45, 112, 111, 108, 105, 99, 121, 45, 114, 101, 112, 111, 114, 116, 45, 111, 110, 108, 121]⟩
def kReq : ByteArray := ⟨#[114, 101, 113, 117, 105, 114, 101, 45, 99, 111, 114, 112]⟩
def kCred : ByteArray := ⟨#[99, 114, 101, 100, 101, 110, 116, 105, 97, 108, 108, 101, 115, 115]⟩
def coop_Coep.f (l0 : List S33) (s : Bool) : Option (Int × ByteArray × Int × ByteArray) :=
  if s = true then (readF l0 nCoep).bind fun p => (readF l0 nCoepR).bind fun q => if p.1.size ≤ 281474976710656 ∧ q.1.size ≤ 281474976710656 then some (twoOf kReq kCred p.1, p.2, twoOf kReq kCred q.1, q.2) else none
  else some (0, ⟨#[]⟩, 0, ⟨#[]⟩)
/-- The block of an embedder's policy. -/
def EmB (W : World) (b : Nat) (m1 : Int) (s1 : ByteArray) (m2 : Int) (s2 : ByteArray) : Prop := W.heap[b]? = some (.cells #[.int .i64 m1, .string s1, .int .i64 m2, .string s2] 29 (0, 0))
theorem EmB.new (W : World) : EmB (W.alloc (.cells #[.int .i64 0, .string ⟨#[]⟩, .int .i64 0, .string ⟨#[]⟩] 29)) W.heap.size 0 ⟨#[]⟩ 0 ⟨#[]⟩ := by
  have := blk_new W (.cells #[.int .i64 0, .string ⟨#[]⟩, .int .i64 0, .string ⟨#[]⟩] 29); simpa [EmB] using this
theorem EmB.c0 {W : World} {b : Nat} {m1 m2 : Int} {s1 s2 : ByteArray} (h : EmB W b m1 s1 m2 s2) : W.cell? ⟨b, 0, none⟩ = some (.int .i64 m1) := (blk_cell h 0).trans rfl
theorem EmB.c1 {W : World} {b : Nat} {m1 m2 : Int} {s1 s2 : ByteArray} (h : EmB W b m1 s1 m2 s2) : W.cell? ⟨b, 1, none⟩ = some (.string s1) := (blk_cell h 1).trans rfl
theorem EmB.c2 {W : World} {b : Nat} {m1 m2 : Int} {s1 s2 : ByteArray} (h : EmB W b m1 s1 m2 s2) : W.cell? ⟨b, 2, none⟩ = some (.int .i64 m2) := (blk_cell h 2).trans rfl
theorem EmB.c3 {W : World} {b : Nat} {m1 m2 : Int} {s1 s2 : ByteArray} (h : EmB W b m1 s1 m2 s2) : W.cell? ⟨b, 3, none⟩ = some (.string s2) := (blk_cell h 3).trans rfl
theorem EmB.lo {W : World} {b : Nat} {m1 m2 : Int} {s1 s2 : ByteArray} (h : EmB W b m1 s1 m2 s2) (m : Int) (s : ByteArray) : EmB ((W.setCell ⟨b, 0, none⟩ (.int .i64 m)).setCell ⟨b, 1, none⟩ (.string s)) b m s m2 s2 := by
  have := blk_set (blk_set h 0 (.int .i64 m)) 1 (.string s); simpa [EmB] using this
theorem EmB.hi {W : World} {b : Nat} {m1 m2 : Int} {s1 s2 : ByteArray} (h : EmB W b m1 s1 m2 s2) (m : Int) (s : ByteArray) : EmB ((W.setCell ⟨b, 2, none⟩ (.int .i64 m)).setCell ⟨b, 3, none⟩ (.string s)) b m1 s1 m s := by
  have := blk_set (blk_set h 2 (.int .i64 m)) 3 (.string s); simpa [EmB] using this
theorem EmB.same {W : World} {b : Nat} {m1 m2 : Int} {s1 s2 : ByteArray} (h : EmB W b m1 s1 m2 s2) : EmB ((((W.setCell ⟨b, 0, none⟩ (.int .i64 m1)).setCell ⟨b, 1, none⟩ (.string s1)).setCell ⟨b, 2, none⟩ (.int .i64 m2)).setCell ⟨b, 3, none⟩ (.string s2)) b m1 s1 m2 s2 := (h.lo m1 s1).hi m2 s2
set_option maxHeartbeats 8000000 in
set_option maxRecDepth 100000 in
theorem coop_Coep.calls (A0 : Option Addr) (c0 : Nat) (l0 : List S33) (sec : Bool) (r1 : Int) (r2 : ByteArray) (r3 : Int) (r4 : ByteArray) (w : World) (hr0 : Kd.C k33 w A0 l0.length l0) (hc0 : l0.length ≤ c0) (h : coop_Coep.f l0 sec = some (r1, r2, r3, r4)) :
    Calls Tryd.prog 11 #[.slice A0 l0.length c0, .bool sec] w fun e w' => e = .returned (.agg #[.int .i64 r1, .string r2, .int .i64 r3, .string r4]) ∧ Below w.heap.size w w' := by
  unfold coop_Coep.f at h
  have hE0 := EmB.new w
  have hB0 := below_alloc (Below.refl w.heap.size w) (.cells #[.int .i64 0, .string ⟨#[]⟩, .int .i64 0, .string ⟨#[]⟩] 29)
  have HC := Aside0.mk hr0
  clear hr0
  cases sec with
  | false =>
    rw [if_neg (by decide)] at h
    simp only [Option.some.injEq, Prod.mk.injEq] at h
    obtain ⟨rfl, rfl, rfl, rfl⟩ := h
    go_enter Tryd.func11, Tryd.ntmps11
    go_upto_region 1 with (fail)
    generalize w.alloc (.cells #[.int .i64 0, .string ⟨#[]⟩, .int .i64 0, .string ⟨#[]⟩] 29) = w1 at *
    have k0 := hE0.c0
    have k1 := hE0.c1
    have k2 := hE0.c2
    have k3 := hE0.c3
    have f0 := blk_frozen hE0 0
    have f1 := blk_frozen hE0 1
    have f2 := blk_frozen hE0 2
    have f3 := blk_frozen hE0 3
    have hE2 := hE0.same
    have hB2 := (((hB0.setCell (p := ⟨w.heap.size, 0, none⟩) (Nat.le_refl _) (.int .i64 0)).setCell (p := ⟨w.heap.size, 1, none⟩) (Nat.le_refl _) (.string ⟨#[]⟩)).setCell (p := ⟨w.heap.size, 2, none⟩) (Nat.le_refl _) (.int .i64 0)).setCell (p := ⟨w.heap.size, 3, none⟩) (Nat.le_refl _) (.string ⟨#[]⟩)
    go_wp2
    generalize (((w1.setCell ⟨w.heap.size, 0, none⟩ (.int .i64 0)).setCell ⟨w.heap.size, 1, none⟩ (.string ⟨#[]⟩)).setCell ⟨w.heap.size, 2, none⟩ (.int .i64 0)).setCell ⟨w.heap.size, 3, none⟩ (.string ⟨#[]⟩) = w9 at *
    have n0 := hE2.c0
    have n1 := hE2.c1
    have n2 := hE2.c2
    have n3 := hE2.c3
    exact bodyPost_ret (v := .agg #[.int .i64 0, .string ⟨#[]⟩, .int .i64 0, .string ⟨#[]⟩]) (by simp [results, Tryd.results11, go_sem, n0, n1, n2, n3]) rfl ⟨rfl, hB2⟩
  | true =>
    rw [if_pos rfl] at h
    go_enter Tryd.func11, Tryd.ntmps11
    obtain ⟨⟨p1, p2⟩, hp, h⟩ := Option.bind_eq_some_iff.mp h
    obtain ⟨⟨q1, q2⟩, hq, h⟩ := Option.bind_eq_some_iff.mp h
    simp only [] at h
    by_cases hz : p1.size ≤ 281474976710656 ∧ q1.size ≤ 281474976710656
    case neg => rw [if_neg hz] at h; cases h
    rw [if_pos hz] at h
    obtain ⟨hz1, hz2⟩ := hz
    simp only [Option.some.injEq, Prod.mk.injEq] at h
    obtain ⟨e1, rfl, e3, rfl⟩ := h
    have t1 := (two_at kReq kCred p1).trans (by rw [e1])
    have t2 := (two_at kReq kCred q1).trans (by rw [e3])
    clear e1 e3
    have hg := enters_of Tryd.func16 (by kernel_rfl) rfl
    have hmm := @run_makeMap Tryd.prog
    have kd : ∀ s : ByteArray, s.size ≤ 281474976710656 → keyOf Tryd.prog 9 (.string s) = some (keyC s) := fun s hs => WideMaps.keyOf_string_mk Tryd.underlying9 (by unfold maxLen; omega)
    have T1 := Aside0.mk t1
    have T2 := Aside0.mk t2
    have HP := Aside0.mk hp
    have HQ := Aside0.mk hq
    clear t1 t2 hp hq
    go_upto_region 3 with (fail)
    generalize w.alloc (.cells #[.int .i64 0, .string ⟨#[]⟩, .int .i64 0, .string ⟨#[]⟩] 29) = w1 at *
    have hlt : w.heap.size < w1.heap.size := by
      obtain ⟨hh, -⟩ := Array.getElem?_eq_some_iff.mp hE0
      exact hh
    have hown := World.ownsMap_made (H := Unit) w1 Tryd.prog 9 (plainElem Tryd.prog 3)
    have hE := Aside0.mk (blk_alloc hE0 (.map #[] 0))
    have hB := below_alloc hB0 (.map #[] 0)
    go_upto_region 4 with (first | (refine insert_ownC _ rfl _ _ _ 38 rfl 9 3 (Go.Maps.string_keyed Tryd.underlying9) Tryd.underlying38 _ _ _ _ rfl hown (by unfold maxLen; omega) _ _ _ rfl rfl (kd _ (by decide)) _ [] (plainElem_int Tryd.underlying3 (by decide)) ?_; intro w2 hown2 hgrow2; replace hB := below_grownC hB hgrow2 (Nat.le_of_lt hlt) hB.size; replace hE := Aside0.mk (blk_grown hE.out hgrow2 (by simp only [ne_eq, Option.some.injEq]; omega)); replace hown := hown2; clear hown2 hgrow2))
    clear hE0 hB0 hmm kd
    have HO := Aside0.mk hown
    have HB2 := Aside0.mk hB
    clear hB
    go_upto_region 5 with (first | (go_at_call 15; refine (reader_calls A0 l0.length c0 w2).mono ?_; rintro e _ ⟨rfl, rfl⟩))
    have hb := CoB_new w2 (.slice A0 l0.length c0)
    have hown := HO.out.alloc (.cells #[.slice A0 l0.length c0] 23)
    have hE3 := blk_alloc hE.out (.cells #[.slice A0 l0.length c0] 23)
    have hB3 := below_alloc HB2.out (.cells #[.slice A0 l0.length c0] 23)
    have hlt3 : w1.heap.size < w2.heap.size := HO.out.lt
    clear HO hE HB2
    generalize w2.alloc (.cells #[.slice A0 l0.length c0] 23) = w3 at *
    generalize w2.heap.size = bb at *
    generalize w1.heap.size = mb at *
    clear h
    have HBb := Aside0.mk hb
    have HO := Aside0.mk hown
    have HE := Aside0.mk hE3
    have HW := Aside0.mk hB3
    clear hb hown hE3 hB3
    go_upto_region 6 with (first | (go_at_call 16; refine (read_calls bb A0 c0 l0 nCoep p1 p2 w3 HBb.out (Kd.C_below HC.out HW.out) hc0 HP.out).mono ?_; rintro e w4 ⟨rfl, hB4⟩))
    have HBb4 := Aside0.mk (show CoB w4 bb (.slice A0 l0.length c0) from blk_below HBb.out hB4)
    have hown4 := HO.out.kept (grown_of_below hB4 none) (by simp)
    have hE4 : EmB w4 w.heap.size 0 ⟨#[]⟩ 0 ⟨#[]⟩ := blk_below HE.out hB4
    have HW4 := Aside0.mk (below_then HW.out HW.out.size hB4)
    clear HBb HO HE HW hB4
    have hl1 := look_C hown4 p1 hz1 r1 T1.out
    have f0 := blk_frozen hE4 0
    have f1 := blk_frozen hE4 1
    have k0 := hE4.c0
    have k1 := hE4.c1
    have HO4 := Aside0.mk hown4
    have HE4 := Aside0.mk hE4
    clear hown4 hE4
    go_upto_region 7 with (fail)
    have HO5 := Aside0.mk ((HO4.out.setCell (a := ⟨w.heap.size, 0, none⟩) (by show mb ≠ w.heap.size; omega) (.int .i64 r1)).setCell (a := ⟨w.heap.size, 1, none⟩) (by show mb ≠ w.heap.size; omega) (.string p2))
    have HE5 := Aside0.mk (HE4.out.lo r1 p2)
    have HB5 := Aside0.mk (show CoB ((w4.setCell ⟨w.heap.size, 0, none⟩ (.int .i64 r1)).setCell ⟨w.heap.size, 1, none⟩ (.string p2)) bb (.slice A0 l0.length c0) from blk_far (blk_far HBb4.out (by show bb ≠ w.heap.size; omega) _) (by show bb ≠ w.heap.size; omega) _)
    have HW5 := Aside0.mk ((HW4.out.setCell (p := ⟨w.heap.size, 0, none⟩) (Nat.le_refl _) (.int .i64 r1)).setCell (p := ⟨w.heap.size, 1, none⟩) (Nat.le_refl _) (.string p2))
    clear HO4 HE4 HBb4 HW4 hl1 f0 f1 k0 k1
    generalize (w4.setCell ⟨w.heap.size, 0, none⟩ (.int .i64 r1)).setCell ⟨w.heap.size, 1, none⟩ (.string p2) = w5 at *
    go_upto_region 8 with (first | (go_at_call 16; refine (read_calls bb A0 c0 l0 nCoepR q1 q2 w5 HB5.out (Kd.C_below HC.out HW5.out) hc0 HQ.out).mono ?_; rintro e w6 ⟨rfl, hB6⟩))
    have hown6 := HO5.out.kept (grown_of_below hB6 none) (by simp)
    have hE6 : EmB w6 w.heap.size r1 p2 0 ⟨#[]⟩ := blk_below HE5.out hB6
    have HW6 := Aside0.mk (below_then HW5.out HW5.out.size hB6)
    clear HB5 HO5 HE5 HW5 hB6
    have hl1 := look_C hown6 q1 hz2 r3 T2.out
    have f0 := blk_frozen hE6 2
    have f1 := blk_frozen hE6 3
    have k0 := hE6.c2
    have k1 := hE6.c3
    have HE6 := Aside0.mk hE6
    clear hown6 hE6
    go_upto_region 9 with (fail)
    have hE7 := HE6.out.hi r3 q2
    have HW7 := Aside0.mk ((HW6.out.setCell (p := ⟨w.heap.size, 2, none⟩) (Nat.le_refl _) (.int .i64 r3)).setCell (p := ⟨w.heap.size, 3, none⟩) (Nat.le_refl _) (.string q2))
    clear HE6 HW6 hl1 f0 f1 k0 k1
    generalize (w6.setCell ⟨w.heap.size, 2, none⟩ (.int .i64 r3)).setCell ⟨w.heap.size, 3, none⟩ (.string q2) = w7 at *
    have k0 := hE7.c0
    have k1 := hE7.c1
    have k2 := hE7.c2
    have k3 := hE7.c3
    have f0 := blk_frozen hE7 0
    have f1 := blk_frozen hE7 1
    have f2 := blk_frozen hE7 2
    have f3 := blk_frozen hE7 3
    have hE8 := hE7.same
    have hB8 := ((((HW7.out.setCell (p := ⟨w.heap.size, 0, none⟩) (Nat.le_refl _) (.int .i64 r1)).setCell (p := ⟨w.heap.size, 1, none⟩) (Nat.le_refl _) (.string p2)).setCell (p := ⟨w.heap.size, 2, none⟩) (Nat.le_refl _) (.int .i64 r3)).setCell (p := ⟨w.heap.size, 3, none⟩) (Nat.le_refl _) (.string q2))
    have HE8 := Aside0.mk hE8
    have HB8 := Aside0.mk hB8
    clear hE8 hB8 hE7 HW7
    go_wp2
    have hE8 := HE8.out
    have hB8 := HB8.out
    clear HE8 HB8 k0 k1 k2 k3 f0 f1 f2 f3
    generalize (((w7.setCell ⟨w.heap.size, 0, none⟩ (.int .i64 r1)).setCell ⟨w.heap.size, 1, none⟩ (.string p2)).setCell ⟨w.heap.size, 2, none⟩ (.int .i64 r3)).setCell ⟨w.heap.size, 3, none⟩ (.string q2) = w9 at *
    have n0 := hE8.c0
    have n1 := hE8.c1
    have n2 := hE8.c2
    have n3 := hE8.c3
    exact bodyPost_ret (v := .agg #[.int .i64 r1, .string p2, .int .i64 r3, .string q2]) (by simp [results, Tryd.results11, go_sem, n0, n1, n2, n3]) rfl ⟨rfl, hB8⟩


/-! ### coop_Coop: function 9 -/
def nCoop : ByteArray := ⟨#[99, 114, 111, 115, 115, 45, 111, 114, 105, 103, 105, 110, 45, 111, 112, 101, 110, 101, 114, 45, 112, 111, 108, 105, 99, 121]⟩
def nCoopR : ByteArray := ⟨#[99, 114, 111, 115, 115, 45, 111, 114, 105, 103, 105, 110, 45, 111, 112, 101, 110, 101, 114, 45, 112, 111, 108, 105, 99, 121, 45, 114, 101, 112, 111, 114, 116, 45, 111, 110, 108, 121]⟩
def kSame : ByteArray := ⟨#[115, 97, 109, 101, 45, 111, 114, 105, 103, 105, 110]⟩
def kPop : ByteArray := ⟨#[115, 97, 109, 101, 45, 111, 114, 105, 103, 105, 110, 45, 97, 108, 108, 111, 119, 45, 112, 111, 112, 117, 112, 115]⟩
def isoF (x : Int) : Bool := x == 1 || x == 2
def plusF (v : Int) (b : Bool) : Int := if v = 2 then (if b = true then 3 else 2) else v
def coop_Coop.f (l0 : List S33) (s : Bool) : Option (Int × ByteArray × Int × ByteArray) :=
  if s = true then (coop_Coep.f l0 true).bind fun e => (readF l0 nCoop).bind fun p => (readF l0 nCoopR).bind fun q => if p.1.size ≤ 281474976710656 ∧ q.1.size ≤ 281474976710656 then some (plusF (twoOf kSame kPop p.1) (isoF e.1), p.2, plusF (twoOf kSame kPop q.1) (isoF e.1 || isoF e.2.2.1), q.2) else none
  else some (0, ⟨#[]⟩, 0, ⟨#[]⟩)
/-- The block of an opener's policy. -/
def OpB (W : World) (b : Nat) (m1 : Int) (s1 : ByteArray) (m2 : Int) (s2 : ByteArray) : Prop := W.heap[b]? = some (.cells #[.int .i64 m1, .string s1, .int .i64 m2, .string s2] 26 (0, 0))
theorem OpB.new (W : World) : OpB (W.alloc (.cells #[.int .i64 0, .string ⟨#[]⟩, .int .i64 0, .string ⟨#[]⟩] 26)) W.heap.size 0 ⟨#[]⟩ 0 ⟨#[]⟩ := by
  have := blk_new W (.cells #[.int .i64 0, .string ⟨#[]⟩, .int .i64 0, .string ⟨#[]⟩] 26); simpa [OpB] using this
theorem OpB.c0 {W : World} {b : Nat} {m1 m2 : Int} {s1 s2 : ByteArray} (h : OpB W b m1 s1 m2 s2) : W.cell? ⟨b, 0, none⟩ = some (.int .i64 m1) := (blk_cell h 0).trans rfl
theorem OpB.c1 {W : World} {b : Nat} {m1 m2 : Int} {s1 s2 : ByteArray} (h : OpB W b m1 s1 m2 s2) : W.cell? ⟨b, 1, none⟩ = some (.string s1) := (blk_cell h 1).trans rfl
theorem OpB.c2 {W : World} {b : Nat} {m1 m2 : Int} {s1 s2 : ByteArray} (h : OpB W b m1 s1 m2 s2) : W.cell? ⟨b, 2, none⟩ = some (.int .i64 m2) := (blk_cell h 2).trans rfl
theorem OpB.c3 {W : World} {b : Nat} {m1 m2 : Int} {s1 s2 : ByteArray} (h : OpB W b m1 s1 m2 s2) : W.cell? ⟨b, 3, none⟩ = some (.string s2) := (blk_cell h 3).trans rfl
theorem OpB.lo {W : World} {b : Nat} {m1 m2 : Int} {s1 s2 : ByteArray} (h : OpB W b m1 s1 m2 s2) (m : Int) (s : ByteArray) : OpB ((W.setCell ⟨b, 0, none⟩ (.int .i64 m)).setCell ⟨b, 1, none⟩ (.string s)) b m s m2 s2 := by
  have := blk_set (blk_set h 0 (.int .i64 m)) 1 (.string s); simpa [OpB] using this
theorem OpB.hi {W : World} {b : Nat} {m1 m2 : Int} {s1 s2 : ByteArray} (h : OpB W b m1 s1 m2 s2) (m : Int) (s : ByteArray) : OpB ((W.setCell ⟨b, 2, none⟩ (.int .i64 m)).setCell ⟨b, 3, none⟩ (.string s)) b m1 s1 m s := by
  have := blk_set (blk_set h 2 (.int .i64 m)) 3 (.string s); simpa [OpB] using this
theorem OpB.same {W : World} {b : Nat} {m1 m2 : Int} {s1 s2 : ByteArray} (h : OpB W b m1 s1 m2 s2) : OpB ((((W.setCell ⟨b, 0, none⟩ (.int .i64 m1)).setCell ⟨b, 1, none⟩ (.string s1)).setCell ⟨b, 2, none⟩ (.int .i64 m2)).setCell ⟨b, 3, none⟩ (.string s2)) b m1 s1 m2 s2 := (h.lo m1 s1).hi m2 s2
theorem EmB.newv (W : World) (m1 : Int) (s1 : ByteArray) (m2 : Int) (s2 : ByteArray) : EmB (W.alloc (.cells #[.int .i64 m1, .string s1, .int .i64 m2, .string s2] 29)) W.heap.size m1 s1 m2 s2 := by
  have := blk_new W (.cells #[.int .i64 m1, .string s1, .int .i64 m2, .string s2] 29); simpa [EmB] using this
theorem OpB.c0s {W : World} {b : Nat} {m1 m2 : Int} {s1 s2 : ByteArray} (h : OpB W b m1 s1 m2 s2) (m : Int) : OpB (W.setCell ⟨b, 0, none⟩ (.int .i64 m)) b m s1 m2 s2 := by
  have := blk_set h 0 (.int .i64 m); simpa [OpB] using this
theorem OpB.c2s {W : World} {b : Nat} {m1 m2 : Int} {s1 s2 : ByteArray} (h : OpB W b m1 s1 m2 s2) (m : Int) : OpB (W.setCell ⟨b, 2, none⟩ (.int .i64 m)) b m1 s1 m s2 := by
  have := blk_set h 2 (.int .i64 m); simpa [OpB] using this
theorem iso_calls (x : Int) (w : World) : Calls Tryd.prog 13 #[.int .i64 x] w fun e w' => e = .returned (.bool (isoF x)) ∧ w' = w := by
  by_cases h1 : x = 1
  · subst h1
    go_enter Tryd.func13, Tryd.ntmps13
    go_wp2
    go_ret
    exact ⟨rfl, rfl⟩
  · have b1 : (x == 1) = false := by simp [h1]
    by_cases h2 : x = 2
    · subst h2
      go_enter Tryd.func13, Tryd.ntmps13
      go_wp2
      go_ret
      exact ⟨rfl, rfl⟩
    · have b2 : (x == 2) = false := by simp [h2]
      have e : isoF x = false := by unfold isoF; rw [b1, b2]; rfl
      clear h1 h2
      go_enter Tryd.func13, Tryd.ntmps13
      go_wp2
      go_ret
      exact ⟨by rw [e]; rfl, rfl⟩
theorem plus_t {v : Int} {x : Bool} (h : true = (v == 2 && x)) : plusF v x = 3 := by
  have h1 := (Bool.and_eq_true _ _).mp h.symm
  have e : v = 2 := by simpa using h1.1
  unfold plusF
  rw [if_pos e, if_pos h1.2]
theorem plus_f {v : Int} {x : Bool} (h : false = (v == 2 && x)) : plusF v x = v := by
  unfold plusF
  by_cases e : v = 2
  · subst e
    cases x with
    | true => cases h
    | false => rfl
  · rw [if_neg e]
set_option maxHeartbeats 8000000 in
set_option maxRecDepth 100000 in
theorem coop_Coop.calls (A0 : Option Addr) (c0 : Nat) (l0 : List S33) (sec : Bool) (r1 : Int) (r2 : ByteArray) (r3 : Int) (r4 : ByteArray) (w : World) (hr0 : Kd.C k33 w A0 l0.length l0) (hc0 : l0.length ≤ c0) (h : coop_Coop.f l0 sec = some (r1, r2, r3, r4)) :
    Calls Tryd.prog 9 #[.slice A0 l0.length c0, .bool sec] w fun e w' => e = .returned (.agg #[.int .i64 r1, .string r2, .int .i64 r3, .string r4]) ∧ Below w.heap.size w w' := by
  unfold coop_Coop.f at h
  have hE0 := OpB.new w
  have hB0 := below_alloc (Below.refl w.heap.size w) (.cells #[.int .i64 0, .string ⟨#[]⟩, .int .i64 0, .string ⟨#[]⟩] 26)
  have HC := Aside0.mk hr0
  clear hr0
  cases sec with
  | false =>
    rw [if_neg (by decide)] at h
    simp only [Option.some.injEq, Prod.mk.injEq] at h
    obtain ⟨rfl, rfl, rfl, rfl⟩ := h
    go_enter Tryd.func9, Tryd.ntmps9
    go_upto_region 1 with (fail)
    generalize w.alloc (.cells #[.int .i64 0, .string ⟨#[]⟩, .int .i64 0, .string ⟨#[]⟩] 26) = w1 at *
    have k0 := hE0.c0
    have k1 := hE0.c1
    have k2 := hE0.c2
    have k3 := hE0.c3
    have f0 := blk_frozen hE0 0
    have f1 := blk_frozen hE0 1
    have f2 := blk_frozen hE0 2
    have f3 := blk_frozen hE0 3
    have hE2 := hE0.same
    have hB2 := (((hB0.setCell (p := ⟨w.heap.size, 0, none⟩) (Nat.le_refl _) (.int .i64 0)).setCell (p := ⟨w.heap.size, 1, none⟩) (Nat.le_refl _) (.string ⟨#[]⟩)).setCell (p := ⟨w.heap.size, 2, none⟩) (Nat.le_refl _) (.int .i64 0)).setCell (p := ⟨w.heap.size, 3, none⟩) (Nat.le_refl _) (.string ⟨#[]⟩)
    go_wp2
    generalize (((w1.setCell ⟨w.heap.size, 0, none⟩ (.int .i64 0)).setCell ⟨w.heap.size, 1, none⟩ (.string ⟨#[]⟩)).setCell ⟨w.heap.size, 2, none⟩ (.int .i64 0)).setCell ⟨w.heap.size, 3, none⟩ (.string ⟨#[]⟩) = w9 at *
    have n0 := hE2.c0
    have n1 := hE2.c1
    have n2 := hE2.c2
    have n3 := hE2.c3
    exact bodyPost_ret (v := .agg #[.int .i64 0, .string ⟨#[]⟩, .int .i64 0, .string ⟨#[]⟩]) (by simp [results, Tryd.results9, go_sem, n0, n1, n2, n3]) rfl ⟨rfl, hB2⟩
  | true =>
    rw [if_pos rfl] at h
    go_enter Tryd.func9, Tryd.ntmps9
    obtain ⟨⟨m1, m2, m3, m4⟩, hem, h⟩ := Option.bind_eq_some_iff.mp h
    obtain ⟨⟨p1, p2⟩, hp, h⟩ := Option.bind_eq_some_iff.mp h
    obtain ⟨⟨q1, q2⟩, hq, h⟩ := Option.bind_eq_some_iff.mp h
    simp only [] at h
    by_cases hz : p1.size ≤ 281474976710656 ∧ q1.size ≤ 281474976710656
    case neg => rw [if_neg hz] at h; cases h
    rw [if_pos hz] at h
    obtain ⟨hz1, hz2⟩ := hz
    simp only [Option.some.injEq, Prod.mk.injEq] at h
    obtain ⟨e1, rfl, e3, rfl⟩ := h
    have t1 := two_at kSame kPop p1
    have t2 := two_at kSame kPop q1
    generalize twoOf kSame kPop p1 = v1 at *
    generalize twoOf kSame kPop q1 = v3 at *
    have E1 := Aside0.mk e1
    have E3 := Aside0.mk e3
    have HM := Aside0.mk hem
    clear e1 e3 hem
    have hg := enters_of Tryd.func16 (by kernel_rfl) rfl
    have hmm := @run_makeMap Tryd.prog
    have kd : ∀ s : ByteArray, s.size ≤ 281474976710656 → keyOf Tryd.prog 9 (.string s) = some (keyC s) := fun s hs => WideMaps.keyOf_string_mk Tryd.underlying9 (by unfold maxLen; omega)
    have T1 := Aside0.mk t1
    have T2 := Aside0.mk t2
    have HP := Aside0.mk hp
    have HQ := Aside0.mk hq
    clear t1 t2 hp hq
    go_upto_region 3 with (fail)
    generalize w.alloc (.cells #[.int .i64 0, .string ⟨#[]⟩, .int .i64 0, .string ⟨#[]⟩] 26) = w1 at *
    have hlt : w.heap.size < w1.heap.size := by
      obtain ⟨hh, -⟩ := Array.getElem?_eq_some_iff.mp hE0
      exact hh
    have hown := World.ownsMap_made (H := Unit) w1 Tryd.prog 9 (plainElem Tryd.prog 3)
    have hE := Aside0.mk (blk_alloc hE0 (.map #[] 0))
    have hB := below_alloc hB0 (.map #[] 0)
    go_upto_region 4 with (first | (refine insert_ownC _ rfl _ _ _ 38 rfl 9 3 (Go.Maps.string_keyed Tryd.underlying9) Tryd.underlying38 _ _ _ _ rfl hown (by unfold maxLen; omega) _ _ _ rfl rfl (kd _ (by decide)) _ [] (plainElem_int Tryd.underlying3 (by decide)) ?_; intro w2 hown2 hgrow2; replace hB := below_grownC hB hgrow2 (Nat.le_of_lt hlt) hB.size; replace hE := Aside0.mk (blk_grown hE.out hgrow2 (by simp only [ne_eq, Option.some.injEq]; omega)); replace hown := hown2; clear hown2 hgrow2))
    clear h hE0 hB0 hmm kd
    have HO := Aside0.mk hown
    have HB2 := Aside0.mk hB
    clear hB
    go_upto_region 5 with (first | (go_at_call 15; refine (reader_calls A0 l0.length c0 w2).mono ?_; rintro e _ ⟨rfl, rfl⟩))
    have hb := CoB_new w2 (.slice A0 l0.length c0)
    have hown := HO.out.alloc (.cells #[.slice A0 l0.length c0] 23)
    have hE3 := blk_alloc hE.out (.cells #[.slice A0 l0.length c0] 23)
    have hB3 := below_alloc HB2.out (.cells #[.slice A0 l0.length c0] 23)
    have hlt3 : w1.heap.size < w2.heap.size := HO.out.lt
    clear HO hE HB2
    generalize w2.alloc (.cells #[.slice A0 l0.length c0] 23) = w3 at *
    generalize w2.heap.size = bb at *
    generalize w1.heap.size = mb at *
    have HBb := Aside0.mk hb
    have HO := Aside0.mk hown
    have HE := Aside0.mk hE3
    have HW := Aside0.mk hB3
    clear hb hown hE3 hB3
    go_upto_region 6 with (first | (go_at_call 11; refine (coop_Coep.calls A0 c0 l0 true m1 m2 m3 m4 w3 (Kd.C_below HC.out HW.out) hc0 HM.out).mono ?_; rintro e w4 ⟨rfl, hB4⟩))
    obtain ⟨i1, hi1⟩ : ∃ i, i = isoF m1 := ⟨_, rfl⟩
    obtain ⟨i3, hi3⟩ : ∃ i, i = isoF m3 := ⟨_, rfl⟩
    have HI1 := Aside0.mk (fun W => iso_calls m1 W)
    have HI3 := Aside0.mk (fun W => iso_calls m3 W)
    rw [← hi1] at E1 E3 HI1
    rw [← hi3] at E3 HI3
    clear hi1 hi3 h
    have HBb4 := Aside0.mk (show CoB (w4.alloc (.cells #[.int .i64 m1, .string m2, .int .i64 m3, .string m4] 29)) bb (.slice A0 l0.length c0) from blk_alloc (blk_below HBb.out hB4) _)
    have HO4 := Aside0.mk ((HO.out.kept (grown_of_below hB4 none) (by simp)).alloc (.cells #[.int .i64 m1, .string m2, .int .i64 m3, .string m4] 29))
    have HE4 := Aside0.mk (show OpB (w4.alloc (.cells #[.int .i64 m1, .string m2, .int .i64 m3, .string m4] 29)) w.heap.size 0 ⟨#[]⟩ 0 ⟨#[]⟩ from blk_alloc (blk_below HE.out hB4) _)
    have HEm := Aside0.mk (EmB.newv w4 m1 m2 m3 m4)
    have HW4 := Aside0.mk (below_alloc (below_then HW.out HW.out.size hB4) (.cells #[.int .i64 m1, .string m2, .int .i64 m3, .string m4] 29))
    have hlt4 : bb < w4.heap.size := blk_lt (blk_below HBb.out hB4)
    clear HBb HO HE HW hB4 hown
    generalize w4.alloc (.cells #[.int .i64 m1, .string m2, .int .i64 m3, .string m4] 29) = w5 at *
    generalize w4.heap.size = eb at *
    have HBb := HBb4
    have HO := HO4
    have HE := HE4
    have HW := HW4
    clear HBb4 HO4 HE4 HW4
    go_upto_region 7 with (first | (go_at_call 16; refine (read_calls bb A0 c0 l0 nCoop p1 p2 w5 HBb.out (Kd.C_below HC.out HW.out) hc0 HP.out).mono ?_; rintro e w6 ⟨rfl, hB4⟩))
    have HBb4 := Aside0.mk (show CoB w6 bb (.slice A0 l0.length c0) from blk_below HBb.out hB4)
    have hown4 := HO.out.kept (grown_of_below hB4 none) (by simp)
    have hE4 : OpB w6 w.heap.size 0 ⟨#[]⟩ 0 ⟨#[]⟩ := blk_below HE.out hB4
    have HM4 := Aside0.mk (show EmB w6 eb m1 m2 m3 m4 from blk_below HEm.out hB4)
    have HW4 := Aside0.mk (below_then HW.out HW.out.size hB4)
    clear HBb HO HE HW HEm hB4
    have hl1 := look_C hown4 p1 hz1 v1 T1.out
    have f0 := blk_frozen hE4 0
    have f1 := blk_frozen hE4 1
    have k0 := hE4.c0
    have k1 := hE4.c1
    have HO4 := Aside0.mk hown4
    have HE4 := Aside0.mk hE4
    clear hown4 hE4
    go_upto_region 8 with (fail)
    have HO := Aside0.mk ((HO4.out.setCell (a := ⟨w.heap.size, 0, none⟩) (by show mb ≠ w.heap.size; omega) (.int .i64 v1)).setCell (a := ⟨w.heap.size, 1, none⟩) (by show mb ≠ w.heap.size; omega) (.string p2))
    have HE := Aside0.mk (HE4.out.lo v1 p2)
    have HBb := Aside0.mk (show CoB ((w6.setCell ⟨w.heap.size, 0, none⟩ (.int .i64 v1)).setCell ⟨w.heap.size, 1, none⟩ (.string p2)) bb (.slice A0 l0.length c0) from blk_far (blk_far HBb4.out (by show bb ≠ w.heap.size; omega) _) (by show bb ≠ w.heap.size; omega) _)
    have HEm := Aside0.mk (show EmB ((w6.setCell ⟨w.heap.size, 0, none⟩ (.int .i64 v1)).setCell ⟨w.heap.size, 1, none⟩ (.string p2)) eb m1 m2 m3 m4 from blk_far (blk_far HM4.out (by show eb ≠ w.heap.size; omega) _) (by show eb ≠ w.heap.size; omega) _)
    have HW := Aside0.mk ((HW4.out.setCell (p := ⟨w.heap.size, 0, none⟩) (Nat.le_refl _) (.int .i64 v1)).setCell (p := ⟨w.heap.size, 1, none⟩) (Nat.le_refl _) (.string p2))
    clear HO4 HE4 HBb4 HW4 HM4 hl1 f0 f1 k0 k1
    generalize (w6.setCell ⟨w.heap.size, 0, none⟩ (.int .i64 v1)).setCell ⟨w.heap.size, 1, none⟩ (.string p2) = w7 at *
    go_cut [38] (fun vc wc => ∃ b : Bool, vc = .bool b ∧ w7 = wc ∧ Aside0 (b = (v1 == 2 && i1)))
    case first =>
      have k0 := HE.out.c0
      have n0 := HEm.out.c0
      have n2 := HEm.out.c2
      by_cases hv : v1 = 2
      · subst hv
        go_wp2_with (first | (go_at_call 13; (first | refine (HI1.out _).mono ?_ | refine (HI3.out _).mono ?_); rintro e _ ⟨rfl, rfl⟩))
        go_meet
        case rel => exact ⟨i1, rfl, rfl, ⟨by simp⟩⟩
      · have b1 : (v1 == 2) = false := by simp [hv]
        go_wp2
        go_meet
        case rel => exact ⟨false, rfl, rfl, ⟨by simp [hv]⟩⟩
    case rest =>
      obtain ⟨b, rfl, rfl, hbq⟩ := hcut
      go_upto_if 38 with (fail)
      go_cut [] (fun wc => Aside0 (OpB wc w.heap.size r1 p2 0 ⟨#[]⟩) ∧ Aside0 (EmB wc eb m1 m2 m3 m4) ∧ Aside0 (CoB wc bb (.slice A0 l0.length c0)) ∧ Aside0 (wc.ownsMap Tryd.prog 9 (plainElem Tryd.prog 3) mb (0 + 1 + 1) (wordsM kSame kPop)) ∧ Aside0 (Below w.heap.size w wc))
      case first =>
        cases b with
        | true =>
          have hr : r1 = 3 := E1.out.symm.trans (plus_t hbq.out)
          have k0 := HE.out.c0
          have f0 := blk_frozen HE.out 0
          go_wp2
          go_meet
          case rel => exact ⟨⟨hr ▸ HE.out.c0s 3⟩, ⟨blk_far HEm.out (by show eb ≠ w.heap.size; omega) _⟩, ⟨blk_far HBb.out (by show bb ≠ w.heap.size; omega) _⟩, ⟨HO.out.setCell (a := ⟨w.heap.size, 0, none⟩) (by show mb ≠ w.heap.size; omega) _⟩, ⟨HW.out.setCell (p := ⟨w.heap.size, 0, none⟩) (Nat.le_refl _) _⟩⟩
        | false =>
          have hr : r1 = v1 := E1.out.symm.trans (plus_f hbq.out)
          go_wp2
          go_meet
          case rel => exact ⟨⟨hr ▸ HE.out⟩, HEm, HBb, HO, HW⟩
      case rest =>
        clear HE HEm HBb HO HW
        obtain ⟨HE, HEm, HBb, HO, HW⟩ := hcut
        go_upto_region 11 with (first | (go_at_call 16; refine (read_calls bb A0 c0 l0 nCoopR q1 q2 wc HBb.out (Kd.C_below HC.out HW.out) hc0 HQ.out).mono ?_; rintro e w9 ⟨rfl, hB4⟩))
        have HBb4 := Aside0.mk (show CoB w9 bb (.slice A0 l0.length c0) from blk_below HBb.out hB4)
        have hown4 := HO.out.kept (grown_of_below hB4 none) (by simp)
        have hE4 : OpB w9 w.heap.size r1 p2 0 ⟨#[]⟩ := blk_below HE.out hB4
        have HM4 := Aside0.mk (show EmB w9 eb m1 m2 m3 m4 from blk_below HEm.out hB4)
        have HW4 := Aside0.mk (below_then HW.out HW.out.size hB4)
        clear HBb HO HE HW HEm hB4
        have hl1 := look_C hown4 q1 hz2 v3 T2.out
        have f0 := blk_frozen hE4 2
        have f1 := blk_frozen hE4 3
        have k0 := hE4.c2
        have k1 := hE4.c3
        have HO4 := Aside0.mk hown4
        have HE4 := Aside0.mk hE4
        clear hown4 hE4
        go_upto_region 12 with (fail)
        have HO := Aside0.mk ((HO4.out.setCell (a := ⟨w.heap.size, 2, none⟩) (by show mb ≠ w.heap.size; omega) (.int .i64 v3)).setCell (a := ⟨w.heap.size, 3, none⟩) (by show mb ≠ w.heap.size; omega) (.string q2))
        have HE := Aside0.mk (HE4.out.hi v3 q2)
        have HBb := Aside0.mk (show CoB ((w9.setCell ⟨w.heap.size, 2, none⟩ (.int .i64 v3)).setCell ⟨w.heap.size, 3, none⟩ (.string q2)) bb (.slice A0 l0.length c0) from blk_far (blk_far HBb4.out (by show bb ≠ w.heap.size; omega) _) (by show bb ≠ w.heap.size; omega) _)
        have HEm := Aside0.mk (show EmB ((w9.setCell ⟨w.heap.size, 2, none⟩ (.int .i64 v3)).setCell ⟨w.heap.size, 3, none⟩ (.string q2)) eb m1 m2 m3 m4 from blk_far (blk_far HM4.out (by show eb ≠ w.heap.size; omega) _) (by show eb ≠ w.heap.size; omega) _)
        have HW := Aside0.mk ((HW4.out.setCell (p := ⟨w.heap.size, 2, none⟩) (Nat.le_refl _) (.int .i64 v3)).setCell (p := ⟨w.heap.size, 3, none⟩) (Nat.le_refl _) (.string q2))
        clear HO4 HE4 HBb4 HW4 HM4 hl1 f0 f1 k0 k1
        generalize (w9.setCell ⟨w.heap.size, 2, none⟩ (.int .i64 v3)).setCell ⟨w.heap.size, 3, none⟩ (.string q2) = w10 at *
        go_cut [63] (fun vc wc => ∃ b : Bool, vc = .bool b ∧ w10 = wc ∧ Aside0 (b = (v3 == 2 && (i1 || i3))))
        case first =>
          have k0 := HE.out.c2
          have n0 := HEm.out.c0
          have n2 := HEm.out.c2
          by_cases hv : v3 = 2
          · subst hv
            cases i1 with
            | true =>
              go_wp2_with (first | (go_at_call 13; (first | refine (HI1.out _).mono ?_ | refine (HI3.out _).mono ?_); rintro e _ ⟨rfl, rfl⟩))
              go_meet
              case rel => exact ⟨true, rfl, rfl, ⟨by simp⟩⟩
            | false =>
              go_wp2_with (first | (go_at_call 13; (first | refine (HI1.out _).mono ?_ | refine (HI3.out _).mono ?_); rintro e _ ⟨rfl, rfl⟩))
              go_meet
              case rel => exact ⟨i3, rfl, rfl, ⟨by simp⟩⟩
          · have b1 : (v3 == 2) = false := by simp [hv]
            go_wp2
            go_meet
            case rel => exact ⟨false, rfl, rfl, ⟨by simp [hv]⟩⟩
        case rest =>
          obtain ⟨b, rfl, rfl, hbq⟩ := hcut
          go_upto_if 63 with (fail)
          go_cut [] (fun wc => Aside0 (OpB wc w.heap.size r1 p2 r3 q2) ∧ Aside0 (EmB wc eb m1 m2 m3 m4) ∧ Aside0 (CoB wc bb (.slice A0 l0.length c0)) ∧ Aside0 (wc.ownsMap Tryd.prog 9 (plainElem Tryd.prog 3) mb (0 + 1 + 1) (wordsM kSame kPop)) ∧ Aside0 (Below w.heap.size w wc))
          case first =>
            cases b with
            | true =>
              have hr : r3 = 3 := E3.out.symm.trans (plus_t hbq.out)
              have k0 := HE.out.c2
              have f0 := blk_frozen HE.out 2
              go_wp2
              go_meet
              case rel => exact ⟨⟨hr ▸ HE.out.c2s 3⟩, ⟨blk_far HEm.out (by show eb ≠ w.heap.size; omega) _⟩, ⟨blk_far HBb.out (by show bb ≠ w.heap.size; omega) _⟩, ⟨HO.out.setCell (a := ⟨w.heap.size, 2, none⟩) (by show mb ≠ w.heap.size; omega) _⟩, ⟨HW.out.setCell (p := ⟨w.heap.size, 2, none⟩) (Nat.le_refl _) _⟩⟩
            | false =>
              have hr : r3 = v3 := E3.out.symm.trans (plus_f hbq.out)
              go_wp2
              go_meet
              case rel => exact ⟨⟨hr ▸ HE.out⟩, HEm, HBb, HO, HW⟩
          case rest =>
            clear HE HEm HBb HO HW
            obtain ⟨HE, HEm, HBb, HO, HW⟩ := hcut
            have k0 := HE.out.c0
            have k1 := HE.out.c1
            have k2 := HE.out.c2
            have k3 := HE.out.c3
            have f0 := blk_frozen HE.out 0
            have f1 := blk_frozen HE.out 1
            have f2 := blk_frozen HE.out 2
            have f3 := blk_frozen HE.out 3
            have HE8 := Aside0.mk HE.out.same
            have HB8 := Aside0.mk ((((HW.out.setCell (p := ⟨w.heap.size, 0, none⟩) (Nat.le_refl _) (.int .i64 r1)).setCell (p := ⟨w.heap.size, 1, none⟩) (Nat.le_refl _) (.string p2)).setCell (p := ⟨w.heap.size, 2, none⟩) (Nat.le_refl _) (.int .i64 r3)).setCell (p := ⟨w.heap.size, 3, none⟩) (Nat.le_refl _) (.string q2))
            clear HE HEm HBb HO HW
            go_wp2
            have hE8 := HE8.out
            have hB8 := HB8.out
            clear HE8 HB8 k0 k1 k2 k3 f0 f1 f2 f3
            generalize (((wc.setCell ⟨w.heap.size, 0, none⟩ (.int .i64 r1)).setCell ⟨w.heap.size, 1, none⟩ (.string p2)).setCell ⟨w.heap.size, 2, none⟩ (.int .i64 r3)).setCell ⟨w.heap.size, 3, none⟩ (.string q2) = w12 at *
            have n0 := hE8.c0
            have n1 := hE8.c1
            have n2 := hE8.c2
            have n3 := hE8.c3
            exact bodyPost_ret (v := .agg #[.int .i64 r1, .string p2, .int .i64 r3, .string q2]) (by simp [results, Tryd.results9, go_sem, n0, n1, n2, n3]) rfl ⟨rfl, hB8⟩


/-! ### coop_Plain: function 10 -/
def coop_Plain.l0 : Nat → List (S33) → List (S33) → Int → Int → Option ((List (S33)))
  | 0, _, _, _, _ => none
  | k + 1, x2, x5, x6, x7 => if x7 < x6 then (if 0 ≤ x7 then (if x7 < (x5.length : Int) then ((octet_Fold.f ((rd_T33 x5 x7).f0) (⟨#[99, 114, 111, 115, 115, 45, 111, 114, 105, 103, 105, 110, 45, 111, 112, 101, 110, 101, 114, 45, 112, 111, 108, 105, 99, 121, 45, 114, 101, 112, 111, 114, 116, 45, 111, 110, 108, 121]⟩ : ByteArray)).bind fun t120 => (if t120 = true then (coop_Plain.l0 k x2 x5 x6 (wrap64 (x7 + 1))) else ((octet_Fold.f ((rd_T33 x5 x7).f0) (⟨#[99, 114, 111, 115, 115, 45, 111, 114, 105, 103, 105, 110, 45, 101, 109, 98, 101, 100, 100, 101, 114, 45, 112, 111, 108, 105, 99, 121, 45, 114, 101, 112, 111, 114, 116, 45, 111, 110, 108, 121]⟩ : ByteArray)).bind fun t121 => (if t121 = true then (coop_Plain.l0 k x2 x5 x6 (wrap64 (x7 + 1))) else (if x2.length < 4398046511104 then (coop_Plain.l0 k (x2 ++ [(⟨(rd_T33 x5 x7).f0, (rd_T33 x5 x7).f1⟩ : S33)]) x5 x6 (wrap64 (x7 + 1))) else (none)))))) else (none)) else (none)) else (some x2)
def coop_Plain.f (k : Nat) (l0 : List (S33)) : Option ((List (S33))) := coop_Plain.l0 k ([] : List (S33)) l0 (l0.length : Int) 0
theorem coop_Plain.mono_l : ∀ k, (∀ y0 y1 y2 y3, LeO (coop_Plain.l0 k y0 y1 y2 y3) (coop_Plain.l0 (k + 1) y0 y1 y2 y3))
  | 0 => fun _ _ _ _ r h => by simp [coop_Plain.l0] at h
  | k + 1 => by
    have ih0 := coop_Plain.mono_l k
    · intro y0 y1 y2 y3
      unfold coop_Plain.l0
      repeat' first
      | (with_reducible exact ih0 _ _ _ _)
      | (with_reducible exact LeO.refl _)
      | (with_reducible exact LeO.none _)
      | (with_reducible refine LeO.ite ?_ ?_)
      | (with_reducible refine LeO.bind ?_ (fun _ => ?_))
      | exact ih0 _ _ _ _
      | exact LeO.none _
      | refine LeO.ite ?_ ?_
      | refine LeO.bind ?_ (fun _ => ?_)
theorem coop_Plain.mono : ∀ a0 k, LeO (coop_Plain.f k a0) (coop_Plain.f (k + 1) a0) := by
  intro a0 k
  have ih0 := coop_Plain.mono_l k
  unfold coop_Plain.f
  repeat' first
      | (with_reducible exact ih0 _ _ _ _)
      | (with_reducible exact LeO.refl _)
      | (with_reducible exact LeO.none _)
      | (with_reducible refine LeO.ite ?_ ?_)
      | (with_reducible refine LeO.bind ?_ (fun _ => ?_))
      | exact ih0 _ _ _ _
      | exact LeO.none _
      | refine LeO.ite ?_ ?_
      | refine LeO.bind ?_ (fun _ => ?_)
set_option maxHeartbeats 8000000 in
set_option maxRecDepth 100000 in
theorem coop_Plain.calls (k : Nat) (A0 : Option Addr) (c0 : Nat) (l0 : List (S33)) (r : List (S33)) (w : World) (hr0 : Kd.C k33 w A0 l0.length l0) (hc0 : l0.length ≤ c0) (h : coop_Plain.f k l0 = some r) :
    Calls Tryd.prog 10 #[.slice A0 l0.length c0] w fun e w' => ∃ v0_ : Value, e = .returned (v0_) ∧ Kd.R k33 33 w' w.heap.size (fun _ => True) v0_ r ∧ Below w.heap.size w w' := by
  have hu33 := Tryd.underlying33
  have HR0 := Aside0.mk hr0
  have HC0 := Aside0.mk hc0
  clear hr0 hc0
  have HB := Aside0.mk (Below.refl w.heap.size w)
  have H : (coop_Plain.l0 k ([] : List (S33)) l0 (l0.length : Int) 0) = some r := h
  clear h
  have H' := Aside0.mk H
  clear H
  go_enter Tryd.func10, Tryd.ntmps10
  go_wp2
  go_loopg [2, 7] k (fun kq v2 v7 w' => ∃ (x2_1 : List (S33)) (x7_1 : Int), v7 = .int .i64 x7_1 ∧ Aside0 (coop_Plain.l0 kq x2_1 l0 (l0.length : Int) x7_1 = some r) ∧ Aside0 (kq ≤ k) ∧ Aside0 (Kd.R k33 33 w' w.heap.size (fun _ => True) v2 x2_1) ∧ Aside0 (Below w.heap.size w w'))
  case atStart => exact ⟨(([] : List (S33))), (0), (by first | rfl | (simp; done) | (simp [*]; done) | (simp [q_ne_nil]; done)), H', ⟨Nat.le_refl _⟩, ⟨by first | exact Kd.R_nil _ _ _ _ _ | exact Kd.N_nil _ _ _ _ _ | exact Kd.V_nil _ _ _ _ _ | exact Kd.Q_nil _ _ _ _ _ | exact Kd.S_nil _ _ _ _ _⟩, ⟨by repeat (first | (with_reducible first | exact HB.out | apply below_alloc | apply pw_below_drewN | apply below_drew1) | exact HB.out)⟩⟩
  case round =>
    clear H'
    try clear c1
    obtain ⟨x2_1, x7_1, rfl, HA, HK1, HO_2, HB⟩ := hrel
    cases gk with
    | zero => exact absurd HA.out (by simp [coop_Plain.l0])
    | succ k1 =>
      have H := HA.out
      clear HA
      simp only [coop_Plain.l0] at H
      by_cases c2 : x7_1 < (l0.length : Int)
      · rw [if_pos c2] at H
        have c2b0 : decide (x7_1 < (l0.length : Int)) = true := decide_eq_true c2
        clear c2
        by_cases c3 : 0 ≤ x7_1
        · rw [if_pos c3] at H
          have c3b0 : decide (0 ≤ x7_1) = true := decide_eq_true c3
          clear c3
          by_cases c4 : x7_1 < (l0.length : Int)
          · rw [if_pos c4] at H
            have c4b0 : decide (x7_1 < (l0.length : Int)) = true := decide_eq_true c4
            clear c4
            replace H := Option.bind_eq_some_iff.mp H
            obtain ⟨t120, A50, H⟩ := H
            replace H : (if t120 = true then (coop_Plain.l0 k1 x2_1 l0 (l0.length : Int) (wrap64 (x7_1 + 1))) else ((octet_Fold.f ((rd_T33 l0 x7_1).f0) (⟨#[99, 114, 111, 115, 115, 45, 111, 114, 105, 103, 105, 110, 45, 101, 109, 98, 101, 100, 100, 101, 114, 45, 112, 111, 108, 105, 99, 121, 45, 114, 101, 112, 111, 114, 116, 45, 111, 110, 108, 121]⟩ : ByteArray)).bind fun t121 => (if t121 = true then (coop_Plain.l0 k1 x2_1 l0 (l0.length : Int) (wrap64 (x7_1 + 1))) else (if x2_1.length < 4398046511104 then (coop_Plain.l0 k1 (x2_1 ++ [(⟨(rd_T33 l0 x7_1).f0, (rd_T33 l0 x7_1).f1⟩ : S33)]) l0 (l0.length : Int) (wrap64 (x7_1 + 1))) else (none))))) = some r := H
            have A5 := Aside0.mk A50
            clear A50
            by_cases c6 : t120 = true
            · subst c6
              have H1 : (coop_Plain.l0 k1 x2_1 l0 (l0.length : Int) (wrap64 (x7_1 + 1))) = some r := by rw [if_pos rfl] at H; exact H
              clear H
              have H := H1
              clear H1
              have H' := Aside0.mk H
              clear H
              have p118 : 0 ≤ (x7_1 : Int) := of_decide_eq_true (by first | (with_reducible assumption) | assumption)
              have q118 : x7_1 < (l0.length : Int) := of_decide_eq_true (by first | (with_reducible assumption) | assumption)
              obtain ⟨ad118, e118, hx118_0, hx118_1⟩ := at_T33 HR0.out x7_1 p118 q118
              cases e118
              replace hx118_0 := (HB.out.cell (World.block_lt_of_cell? w _ hx118_0)).trans hx118_0
              replace hx118_1 := (HB.out.cell (World.block_lt_of_cell? w _ hx118_1)).trans hx118_1
              replace p118 := eq_true p118
              replace q118 := eq_true q118
              go_wp2_with (first | ((with_reducible refine gate_dst (N := 4) rfl ?_); refine box_event ?hg (N := 4) ?hd (cs := #[.string (⟨#[]⟩ : ByteArray), .string (⟨#[]⟩ : ByteArray)]) (t := 33) ?hr ?_; (case hd => rfl); (case hg => rfl); (case hr => first | (go_simp; done) | (go_simp; rfl)); intro gb119 hg w7 hbox hb; have n0_ := Aside0.mk (Kd.R_below (Kd.R_elderB (by (with_reducible repeat (first | apply Kd.R_alloc | apply Kd.R_drewN | apply Kd.R_drew)); exact HO_2.out) gb119 (Nat.le_of_eq hg.symm)) hb); have n1_ := Aside0.mk (below_step (by repeat (first | (with_reducible first | exact HB.out | apply below_alloc | apply pw_below_drewN | apply below_drew1) | exact HB.out)) hb); have n2_ := Aside0.mk (hbox); have n3_ := Aside0.mk ((by rw [hg]; exact (below_size (by repeat (first | (with_reducible first | exact HB.out | apply below_alloc | apply pw_below_drewN | apply below_drew1) | exact HB.out))) : w.heap.size ≤ gb119)); have n4_ := Aside0.mk ((by rw [hg]; exact (below_size (by repeat (first | (with_reducible first | exact HB.out | apply below_alloc | apply pw_below_drewN | apply below_drew1) | exact HB.out))) : w.heap.size ≤ gb119)); clear HO_2; clear HB; have HO_2 := n0_; have HB := n1_; have BK119 := n2_; have GW119 := n3_; have GE119 := n4_; clear n0_ n1_ n2_ n3_ n4_; clear hb hbox hg; have hcz8_0 : w7.cell? ⟨gb119, 0, none⟩ = some (.string (⟨#[]⟩ : ByteArray)) := (blk_cell BK119.out 0).trans rfl; have hcz8_1 : w7.cell? ⟨gb119, 1, none⟩ = some (.string (⟨#[]⟩ : ByteArray)) := (blk_cell BK119.out 1).trans rfl; have hfz8_0 := blk_frozen BK119.out 0; have hfz8_1 := blk_frozen BK119.out 1) | ((with_reducible refine gate_callee (f := 12) rfl ?_); refine goesL_ (some 13) rfl rfl Tryd.func12 (by kernel_rfl) rfl #[.string ((rd_T33 l0 x7_1).f0), .string (⟨#[99, 114, 111, 115, 115, 45, 111, 114, 105, 103, 105, 110, 45, 111, 112, 101, 110, 101, 114, 45, 112, 111, 108, 105, 99, 121, 45, 114, 101, 112, 111, 114, 116, 45, 111, 110, 108, 121]⟩ : ByteArray)] rfl (by (try simp only [List.map_toArray, List.map_cons, List.map_nil]); first | done | rfl | (simp only [List.length_drop, List.length_take]; rfl)) ?_; (with_reducible refine (octet_Fold.calls ((rd_T33 l0 x7_1).f0) (⟨#[99, 114, 111, 115, 115, 45, 111, 114, 105, 103, 105, 110, 45, 111, 112, 101, 110, 101, 114, 45, 112, 111, 108, 105, 99, 121, 45, 114, 101, 112, 111, 114, 116, 45, 111, 110, 108, 121]⟩ : ByteArray) true _ A5.out).mono ?_); rintro e w9 ⟨rfl, hb⟩; refine ⟨_, rfl, ?_⟩; have n0_ := Aside0.mk (Kd.R_below (by (with_reducible repeat (first | apply Kd.R_alloc | apply Kd.R_drewN | apply Kd.R_drew)); exact (Kd.R_mono (Kd.R_far (p := ⟨gb119, 1, none⟩) (Kd.R_far (p := ⟨gb119, 0, none⟩) (Kd.R_mono HO_2.out (fun k_ hk => (⟨hk, hk.2⟩ : _ ∧ k_ ≠ gb119))) (fun _ hk => hk.2) (.string ((rd_T33 l0 x7_1).f0))) (fun _ hk => hk.2) (.string ((rd_T33 l0 x7_1).f1))) (fun _ h_ => h_.1))) hb); have n1_ := Aside0.mk (blk_below (g := gb119) (o := .cells #[.string ((rd_T33 l0 x7_1).f0), .string ((rd_T33 l0 x7_1).f1)] 33 (0, 0)) (by (with_reducible repeat (first | refine blk_drewN ?_ _ | refine blk_drew ?_ | refine blk_alloc ?_ _)); refine blk_put (cs := #[.string ((rd_T33 l0 x7_1).f0), .string (⟨#[]⟩ : ByteArray)]) ?_ 1 _ rfl; (with_reducible repeat (first | refine blk_drewN ?_ _ | refine blk_drew ?_ | refine blk_alloc ?_ _)); refine blk_put (cs := #[.string (⟨#[]⟩ : ByteArray), .string (⟨#[]⟩ : ByteArray)]) ?_ 0 _ rfl; (with_reducible repeat (first | refine blk_drewN ?_ _ | refine blk_drew ?_ | refine blk_alloc ?_ _)); exact BK119.out) hb); have n2_ := Aside0.mk (below_step (by repeat (first | (with_reducible first | exact HB.out | apply below_alloc | apply pw_below_drewN | apply below_drew1 | refine below_set ?_ GE119.out) | exact HB.out)) hb); clear HO_2; clear BK119; clear HB; have HO_2 := n0_; have BK119 := n1_; have HB := n2_; clear n0_ n1_ n2_; (try clear hb); (try clear hb2); (try clear hk); (try clear hi)))
              go_roundg k1
              case measure => have := HK1.out; omega
              case rel => exact ⟨(x2_1), (wrap64 (x7_1 + 1)), (by first | rfl | (simp; done) | (simp [*]; done) | (simp [q_ne_nil]; done)), H', ⟨by have := HK1.out; omega⟩, ⟨by (with_reducible repeat (first | apply Kd.R_alloc | apply Kd.R_drewN | apply Kd.R_drew)); exact Kd.R_mono HO_2.out (fun _ hk => trivial)⟩, ⟨by repeat (first | (with_reducible first | exact HB.out | apply below_alloc | apply pw_below_drewN | apply below_drew1 | refine below_set ?_ GE119.out) | exact HB.out)⟩⟩
            · replace c6 := Bool.eq_false_iff.mpr c6
              subst c6
              have H1 : ((octet_Fold.f ((rd_T33 l0 x7_1).f0) (⟨#[99, 114, 111, 115, 115, 45, 111, 114, 105, 103, 105, 110, 45, 101, 109, 98, 101, 100, 100, 101, 114, 45, 112, 111, 108, 105, 99, 121, 45, 114, 101, 112, 111, 114, 116, 45, 111, 110, 108, 121]⟩ : ByteArray)).bind fun t121 => (if t121 = true then (coop_Plain.l0 k1 x2_1 l0 (l0.length : Int) (wrap64 (x7_1 + 1))) else (if x2_1.length < 4398046511104 then (coop_Plain.l0 k1 (x2_1 ++ [(⟨(rd_T33 l0 x7_1).f0, (rd_T33 l0 x7_1).f1⟩ : S33)]) l0 (l0.length : Int) (wrap64 (x7_1 + 1))) else (none)))) = some r := by rw [if_neg (show ¬ (false = true) by decide)] at H; exact H
              clear H
              have H := H1
              clear H1
              replace H := Option.bind_eq_some_iff.mp H
              obtain ⟨t121, A100, H⟩ := H
              replace H : (if t121 = true then (coop_Plain.l0 k1 x2_1 l0 (l0.length : Int) (wrap64 (x7_1 + 1))) else (if x2_1.length < 4398046511104 then (coop_Plain.l0 k1 (x2_1 ++ [(⟨(rd_T33 l0 x7_1).f0, (rd_T33 l0 x7_1).f1⟩ : S33)]) l0 (l0.length : Int) (wrap64 (x7_1 + 1))) else (none))) = some r := H
              have A10 := Aside0.mk A100
              clear A100
              by_cases c11 : t121 = true
              · subst c11
                have H1 : (coop_Plain.l0 k1 x2_1 l0 (l0.length : Int) (wrap64 (x7_1 + 1))) = some r := by rw [if_pos rfl] at H; exact H
                clear H
                have H := H1
                clear H1
                have H' := Aside0.mk H
                clear H
                have p118 : 0 ≤ (x7_1 : Int) := of_decide_eq_true (by first | (with_reducible assumption) | assumption)
                have q118 : x7_1 < (l0.length : Int) := of_decide_eq_true (by first | (with_reducible assumption) | assumption)
                obtain ⟨ad118, e118, hx118_0, hx118_1⟩ := at_T33 HR0.out x7_1 p118 q118
                cases e118
                replace hx118_0 := (HB.out.cell (World.block_lt_of_cell? w _ hx118_0)).trans hx118_0
                replace hx118_1 := (HB.out.cell (World.block_lt_of_cell? w _ hx118_1)).trans hx118_1
                replace p118 := eq_true p118
                replace q118 := eq_true q118
                go_wp2_with (first | ((with_reducible refine gate_dst (N := 4) rfl ?_); refine box_event ?hg (N := 4) ?hd (cs := #[.string (⟨#[]⟩ : ByteArray), .string (⟨#[]⟩ : ByteArray)]) (t := 33) ?hr ?_; (case hd => rfl); (case hg => rfl); (case hr => first | (go_simp; done) | (go_simp; rfl)); intro gb119 hg w12 hbox hb; have n0_ := Aside0.mk (Kd.R_below (Kd.R_elderB (by (with_reducible repeat (first | apply Kd.R_alloc | apply Kd.R_drewN | apply Kd.R_drew)); exact HO_2.out) gb119 (Nat.le_of_eq hg.symm)) hb); have n1_ := Aside0.mk (below_step (by repeat (first | (with_reducible first | exact HB.out | apply below_alloc | apply pw_below_drewN | apply below_drew1) | exact HB.out)) hb); have n2_ := Aside0.mk (hbox); have n3_ := Aside0.mk ((by rw [hg]; exact (below_size (by repeat (first | (with_reducible first | exact HB.out | apply below_alloc | apply pw_below_drewN | apply below_drew1) | exact HB.out))) : w.heap.size ≤ gb119)); have n4_ := Aside0.mk ((by rw [hg]; exact (below_size (by repeat (first | (with_reducible first | exact HB.out | apply below_alloc | apply pw_below_drewN | apply below_drew1) | exact HB.out))) : w.heap.size ≤ gb119)); clear HO_2; clear HB; have HO_2 := n0_; have HB := n1_; have BK119 := n2_; have GW119 := n3_; have GE119 := n4_; clear n0_ n1_ n2_ n3_ n4_; clear hb hbox hg; have hcz13_0 : w12.cell? ⟨gb119, 0, none⟩ = some (.string (⟨#[]⟩ : ByteArray)) := (blk_cell BK119.out 0).trans rfl; have hcz13_1 : w12.cell? ⟨gb119, 1, none⟩ = some (.string (⟨#[]⟩ : ByteArray)) := (blk_cell BK119.out 1).trans rfl; have hfz13_0 := blk_frozen BK119.out 0; have hfz13_1 := blk_frozen BK119.out 1) | ((with_reducible refine gate_callee (f := 12) rfl ?_); refine goesL_ (some 13) rfl rfl Tryd.func12 (by kernel_rfl) rfl #[.string ((rd_T33 l0 x7_1).f0), .string (⟨#[99, 114, 111, 115, 115, 45, 111, 114, 105, 103, 105, 110, 45, 111, 112, 101, 110, 101, 114, 45, 112, 111, 108, 105, 99, 121, 45, 114, 101, 112, 111, 114, 116, 45, 111, 110, 108, 121]⟩ : ByteArray)] rfl (by (try simp only [List.map_toArray, List.map_cons, List.map_nil]); first | done | rfl | (simp only [List.length_drop, List.length_take]; rfl)) ?_; (with_reducible refine (octet_Fold.calls ((rd_T33 l0 x7_1).f0) (⟨#[99, 114, 111, 115, 115, 45, 111, 114, 105, 103, 105, 110, 45, 111, 112, 101, 110, 101, 114, 45, 112, 111, 108, 105, 99, 121, 45, 114, 101, 112, 111, 114, 116, 45, 111, 110, 108, 121]⟩ : ByteArray) false _ A5.out).mono ?_); rintro e w14 ⟨rfl, hb⟩; refine ⟨_, rfl, ?_⟩; have n0_ := Aside0.mk (Kd.R_below (by (with_reducible repeat (first | apply Kd.R_alloc | apply Kd.R_drewN | apply Kd.R_drew)); exact (Kd.R_mono (Kd.R_far (p := ⟨gb119, 1, none⟩) (Kd.R_far (p := ⟨gb119, 0, none⟩) (Kd.R_mono HO_2.out (fun k_ hk => (⟨hk, hk.2⟩ : _ ∧ k_ ≠ gb119))) (fun _ hk => hk.2) (.string ((rd_T33 l0 x7_1).f0))) (fun _ hk => hk.2) (.string ((rd_T33 l0 x7_1).f1))) (fun _ h_ => h_.1))) hb); have n1_ := Aside0.mk (blk_below (g := gb119) (o := .cells #[.string ((rd_T33 l0 x7_1).f0), .string ((rd_T33 l0 x7_1).f1)] 33 (0, 0)) (by (with_reducible repeat (first | refine blk_drewN ?_ _ | refine blk_drew ?_ | refine blk_alloc ?_ _)); refine blk_put (cs := #[.string ((rd_T33 l0 x7_1).f0), .string (⟨#[]⟩ : ByteArray)]) ?_ 1 _ rfl; (with_reducible repeat (first | refine blk_drewN ?_ _ | refine blk_drew ?_ | refine blk_alloc ?_ _)); refine blk_put (cs := #[.string (⟨#[]⟩ : ByteArray), .string (⟨#[]⟩ : ByteArray)]) ?_ 0 _ rfl; (with_reducible repeat (first | refine blk_drewN ?_ _ | refine blk_drew ?_ | refine blk_alloc ?_ _)); exact BK119.out) hb); have n2_ := Aside0.mk (below_step (by repeat (first | (with_reducible first | exact HB.out | apply below_alloc | apply pw_below_drewN | apply below_drew1 | refine below_set ?_ GE119.out) | exact HB.out)) hb); clear HO_2; clear BK119; clear HB; have HO_2 := n0_; have BK119 := n1_; have HB := n2_; clear n0_ n1_ n2_; (try clear hb); (try clear hb2); (try clear hk); (try clear hi); have hcz15_0 : w14.cell? ⟨gb119, 0, none⟩ = some (.string ((rd_T33 l0 x7_1).f0)) := (blk_cell BK119.out 0).trans rfl; have hcz15_1 : w14.cell? ⟨gb119, 1, none⟩ = some (.string ((rd_T33 l0 x7_1).f1)) := (blk_cell BK119.out 1).trans rfl; have hfz15_0 := blk_frozen BK119.out 0; have hfz15_1 := blk_frozen BK119.out 1) | (go_at_call 12; (with_reducible refine (octet_Fold.calls ((rd_T33 l0 x7_1).f0) (⟨#[99, 114, 111, 115, 115, 45, 111, 114, 105, 103, 105, 110, 45, 101, 109, 98, 101, 100, 100, 101, 114, 45, 112, 111, 108, 105, 99, 121, 45, 114, 101, 112, 111, 114, 116, 45, 111, 110, 108, 121]⟩ : ByteArray) true _ A10.out).mono ?_); rintro e w16 ⟨rfl, hb⟩; have n0_ := Aside0.mk (Kd.R_below (by (with_reducible repeat (first | apply Kd.R_alloc | apply Kd.R_drewN | apply Kd.R_drew)); exact HO_2.out) hb); have n1_ := Aside0.mk (blk_below (g := gb119) (o := .cells #[.string ((rd_T33 l0 x7_1).f0), .string ((rd_T33 l0 x7_1).f1)] 33 (0, 0)) (by (with_reducible repeat (first | refine blk_drewN ?_ _ | refine blk_drew ?_ | refine blk_alloc ?_ _)); exact BK119.out) hb); have n2_ := Aside0.mk (below_step (by repeat (first | (with_reducible first | exact HB.out | apply below_alloc | apply pw_below_drewN | apply below_drew1 | refine below_set ?_ GE119.out) | exact HB.out)) hb); clear HO_2; clear BK119; clear HB; have HO_2 := n0_; have BK119 := n1_; have HB := n2_; clear n0_ n1_ n2_; (try clear hb); (try clear hb2); (try clear hk); (try clear hi)))
                go_roundg k1
                case measure => have := HK1.out; omega
                case rel => exact ⟨(x2_1), (wrap64 (x7_1 + 1)), (by first | rfl | (simp; done) | (simp [*]; done) | (simp [q_ne_nil]; done)), H', ⟨by have := HK1.out; omega⟩, ⟨by (with_reducible repeat (first | apply Kd.R_alloc | apply Kd.R_drewN | apply Kd.R_drew)); exact Kd.R_mono HO_2.out (fun _ hk => trivial)⟩, ⟨by repeat (first | (with_reducible first | exact HB.out | apply below_alloc | apply pw_below_drewN | apply below_drew1 | refine below_set ?_ GE119.out) | exact HB.out)⟩⟩
              · replace c11 := Bool.eq_false_iff.mpr c11
                subst c11
                have H1 : (if x2_1.length < 4398046511104 then (coop_Plain.l0 k1 (x2_1 ++ [(⟨(rd_T33 l0 x7_1).f0, (rd_T33 l0 x7_1).f1⟩ : S33)]) l0 (l0.length : Int) (wrap64 (x7_1 + 1))) else (none)) = some r := by rw [if_neg (show ¬ (false = true) by decide)] at H; exact H
                clear H
                have H := H1
                clear H1
                by_cases c17 : x2_1.length < 4398046511104
                · rw [if_pos c17] at H
                  have LMc17 := Aside0.mk c17
                  clear c17
                  obtain ⟨y122, hy122⟩ : ∃ y_ : List (S33), y_ = (x2_1 ++ [(⟨(rd_T33 l0 x7_1).f0, (rd_T33 l0 x7_1).f1⟩ : S33)]) := ⟨_, rfl⟩
                  replace H : (coop_Plain.l0 k1 y122 l0 (l0.length : Int) (wrap64 (x7_1 + 1))) = some r := by first | (rw [hy122]; with_reducible exact H) | (have H2_ := (Option.bind_some _ _).symm.trans H; rw [hy122]; with_reducible exact H2_) | (have H2_ := (Option.bind_some _ _).symm.trans H; with_reducible exact H2_) | with_reducible exact H | (rw [hy122]; exact H) | exact H
                  have Ny122 := Aside0.mk hy122
                  clear hy122
                  have H' := Aside0.mk H
                  clear H
                  have p118 : 0 ≤ (x7_1 : Int) := of_decide_eq_true (by first | (with_reducible assumption) | assumption)
                  have q118 : x7_1 < (l0.length : Int) := of_decide_eq_true (by first | (with_reducible assumption) | assumption)
                  obtain ⟨ad118, e118, hx118_0, hx118_1⟩ := at_T33 HR0.out x7_1 p118 q118
                  cases e118
                  replace hx118_0 := (HB.out.cell (World.block_lt_of_cell? w _ hx118_0)).trans hx118_0
                  replace hx118_1 := (HB.out.cell (World.block_lt_of_cell? w _ hx118_1)).trans hx118_1
                  replace p118 := eq_true p118
                  replace q118 := eq_true q118
                  go_wp2_with (first | ((with_reducible refine gate_dst (N := 4) rfl ?_); refine box_event ?hg (N := 4) ?hd (cs := #[.string (⟨#[]⟩ : ByteArray), .string (⟨#[]⟩ : ByteArray)]) (t := 33) ?hr ?_; (case hd => rfl); (case hg => rfl); (case hr => first | (go_simp; done) | (go_simp; rfl)); intro gb119 hg w18 hbox hb; have n0_ := Aside0.mk (Kd.R_below (Kd.R_elderB (by (with_reducible repeat (first | apply Kd.R_alloc | apply Kd.R_drewN | apply Kd.R_drew)); exact HO_2.out) gb119 (Nat.le_of_eq hg.symm)) hb); have n1_ := Aside0.mk (below_step (by repeat (first | (with_reducible first | exact HB.out | apply below_alloc | apply pw_below_drewN | apply below_drew1) | exact HB.out)) hb); have n2_ := Aside0.mk (hbox); have n3_ := Aside0.mk ((by rw [hg]; exact (below_size (by repeat (first | (with_reducible first | exact HB.out | apply below_alloc | apply pw_below_drewN | apply below_drew1) | exact HB.out))) : w.heap.size ≤ gb119)); have n4_ := Aside0.mk ((by rw [hg]; exact (below_size (by repeat (first | (with_reducible first | exact HB.out | apply below_alloc | apply pw_below_drewN | apply below_drew1) | exact HB.out))) : w.heap.size ≤ gb119)); clear HO_2; clear HB; have HO_2 := n0_; have HB := n1_; have BK119 := n2_; have GW119 := n3_; have GE119 := n4_; clear n0_ n1_ n2_ n3_ n4_; clear hb hbox hg; have hcz19_0 : w18.cell? ⟨gb119, 0, none⟩ = some (.string (⟨#[]⟩ : ByteArray)) := (blk_cell BK119.out 0).trans rfl; have hcz19_1 : w18.cell? ⟨gb119, 1, none⟩ = some (.string (⟨#[]⟩ : ByteArray)) := (blk_cell BK119.out 1).trans rfl; have hfz19_0 := blk_frozen BK119.out 0; have hfz19_1 := blk_frozen BK119.out 1) | ((with_reducible refine gate_callee (f := 12) rfl ?_); refine goesL_ (some 13) rfl rfl Tryd.func12 (by kernel_rfl) rfl #[.string ((rd_T33 l0 x7_1).f0), .string (⟨#[99, 114, 111, 115, 115, 45, 111, 114, 105, 103, 105, 110, 45, 111, 112, 101, 110, 101, 114, 45, 112, 111, 108, 105, 99, 121, 45, 114, 101, 112, 111, 114, 116, 45, 111, 110, 108, 121]⟩ : ByteArray)] rfl (by (try simp only [List.map_toArray, List.map_cons, List.map_nil]); first | done | rfl | (simp only [List.length_drop, List.length_take]; rfl)) ?_; (with_reducible refine (octet_Fold.calls ((rd_T33 l0 x7_1).f0) (⟨#[99, 114, 111, 115, 115, 45, 111, 114, 105, 103, 105, 110, 45, 111, 112, 101, 110, 101, 114, 45, 112, 111, 108, 105, 99, 121, 45, 114, 101, 112, 111, 114, 116, 45, 111, 110, 108, 121]⟩ : ByteArray) false _ A5.out).mono ?_); rintro e w20 ⟨rfl, hb⟩; refine ⟨_, rfl, ?_⟩; have n0_ := Aside0.mk (Kd.R_below (by (with_reducible repeat (first | apply Kd.R_alloc | apply Kd.R_drewN | apply Kd.R_drew)); exact (Kd.R_mono (Kd.R_far (p := ⟨gb119, 1, none⟩) (Kd.R_far (p := ⟨gb119, 0, none⟩) (Kd.R_mono HO_2.out (fun k_ hk => (⟨hk, hk.2⟩ : _ ∧ k_ ≠ gb119))) (fun _ hk => hk.2) (.string ((rd_T33 l0 x7_1).f0))) (fun _ hk => hk.2) (.string ((rd_T33 l0 x7_1).f1))) (fun _ h_ => h_.1))) hb); have n1_ := Aside0.mk (blk_below (g := gb119) (o := .cells #[.string ((rd_T33 l0 x7_1).f0), .string ((rd_T33 l0 x7_1).f1)] 33 (0, 0)) (by (with_reducible repeat (first | refine blk_drewN ?_ _ | refine blk_drew ?_ | refine blk_alloc ?_ _)); refine blk_put (cs := #[.string ((rd_T33 l0 x7_1).f0), .string (⟨#[]⟩ : ByteArray)]) ?_ 1 _ rfl; (with_reducible repeat (first | refine blk_drewN ?_ _ | refine blk_drew ?_ | refine blk_alloc ?_ _)); refine blk_put (cs := #[.string (⟨#[]⟩ : ByteArray), .string (⟨#[]⟩ : ByteArray)]) ?_ 0 _ rfl; (with_reducible repeat (first | refine blk_drewN ?_ _ | refine blk_drew ?_ | refine blk_alloc ?_ _)); exact BK119.out) hb); have n2_ := Aside0.mk (below_step (by repeat (first | (with_reducible first | exact HB.out | apply below_alloc | apply pw_below_drewN | apply below_drew1 | refine below_set ?_ GE119.out) | exact HB.out)) hb); clear HO_2; clear BK119; clear HB; have HO_2 := n0_; have BK119 := n1_; have HB := n2_; clear n0_ n1_ n2_; (try clear hb); (try clear hb2); (try clear hk); (try clear hi); have hcz21_0 : w20.cell? ⟨gb119, 0, none⟩ = some (.string ((rd_T33 l0 x7_1).f0)) := (blk_cell BK119.out 0).trans rfl; have hcz21_1 : w20.cell? ⟨gb119, 1, none⟩ = some (.string ((rd_T33 l0 x7_1).f1)) := (blk_cell BK119.out 1).trans rfl; have hfz21_0 := blk_frozen BK119.out 0; have hfz21_1 := blk_frozen BK119.out 1) | (go_at_call 12; (with_reducible refine (octet_Fold.calls ((rd_T33 l0 x7_1).f0) (⟨#[99, 114, 111, 115, 115, 45, 111, 114, 105, 103, 105, 110, 45, 101, 109, 98, 101, 100, 100, 101, 114, 45, 112, 111, 108, 105, 99, 121, 45, 114, 101, 112, 111, 114, 116, 45, 111, 110, 108, 121]⟩ : ByteArray) false _ A10.out).mono ?_); rintro e w22 ⟨rfl, hb⟩; have n0_ := Aside0.mk (Kd.R_below (by (with_reducible repeat (first | apply Kd.R_alloc | apply Kd.R_drewN | apply Kd.R_drew)); exact HO_2.out) hb); have n1_ := Aside0.mk (blk_below (g := gb119) (o := .cells #[.string ((rd_T33 l0 x7_1).f0), .string ((rd_T33 l0 x7_1).f1)] 33 (0, 0)) (by (with_reducible repeat (first | refine blk_drewN ?_ _ | refine blk_drew ?_ | refine blk_alloc ?_ _)); exact BK119.out) hb); have n2_ := Aside0.mk (below_step (by repeat (first | (with_reducible first | exact HB.out | apply below_alloc | apply pw_below_drewN | apply below_drew1 | refine below_set ?_ GE119.out) | exact HB.out)) hb); clear HO_2; clear BK119; clear HB; have HO_2 := n0_; have BK119 := n1_; have HB := n2_; clear n0_ n1_ n2_; (try clear hb); (try clear hb2); (try clear hk); (try clear hi); have hcz23_0 : w22.cell? ⟨gb119, 0, none⟩ = some (.string ((rd_T33 l0 x7_1).f0)) := (blk_cell BK119.out 0).trans rfl; have hcz23_1 : w22.cell? ⟨gb119, 1, none⟩ = some (.string ((rd_T33 l0 x7_1).f1)) := (blk_cell BK119.out 1).trans rfl; have hfz23_0 := blk_frozen BK119.out 0; have hfz23_1 := blk_frozen BK119.out 1) | ((with_reducible refine gate_builtin (b := .append) (xs := #[.tmp 21, .tmp 23]) rfl ?_); at_builtin; refine Kd.R_append k33 (w0 := w) w.heap.size rfl (.tmp 21) (.tmp 23) 23 33 (.agg #[(.string ⟨#[]⟩), (.string ⟨#[]⟩)]) 32 rfl Tryd.underlying23 info33 rfl (by decide) (by omega) u2 x2_1 (⟨(rd_T33 l0 x7_1).f0, (rd_T33 l0 x7_1).f1⟩ : S33) [.string ((rd_T33 l0 x7_1).f0), .string ((rd_T33 l0 x7_1).f1)] (fun k_ => k_ ≠ gb119) (fun _ => False) rfl rfl ?aP (fun _ hk => hk.elim) ?aF ?aO ?aB ?aS ?aL ?_; (case aP => exact k33_mkM _ _ _ (⟨(rd_T33 l0 x7_1).f0, (rd_T33 l0 x7_1).f1⟩ : S33)); (case aB => exact (by repeat (first | (with_reducible first | exact HB.out | apply below_alloc | apply pw_below_drewN | apply below_drew1 | refine below_set ?_ GE119.out) | exact HB.out))); (case aF => exact (fun k_ hk => Kd.freshB (g := gb119) (o := .cells #[.string ((rd_T33 l0 x7_1).f0), .string ((rd_T33 l0 x7_1).f1)] 33 (0, 0)) (by (with_reducible repeat (first | refine blk_drewN ?_ _ | refine blk_drew ?_ | refine blk_alloc ?_ _)); exact BK119.out) k_ hk)); (case aO => exact (by (with_reducible repeat (first | apply Kd.R_alloc | apply Kd.R_drewN | apply Kd.R_drew)); exact Kd.R_mono HO_2.out (fun _ hk => hk.2))); (case aS => exact (below_size (by repeat (first | (with_reducible first | exact HB.out | apply below_alloc | apply pw_below_drewN | apply below_drew1 | refine below_set ?_ GE119.out) | exact HB.out)))); (case aL => have := LMc17.out; omega); intro v123 w24 ho hb hg hat; rw [← Ny122.out] at ho; have n0_ := Aside0.mk (blk_grown (g := gb119) (o := .cells #[.string ((rd_T33 l0 x7_1).f0), .string ((rd_T33 l0 x7_1).f1)] 33 (0, 0)) (by (with_reducible repeat (first | refine blk_drewN ?_ _ | refine blk_drew ?_ | refine blk_alloc ?_ _)); exact BK119.out) hg (Kd.R_away HO_2.out (fun _ hk => hk.2))); have n1_ := Aside0.mk (hb); have n2_ := Aside0.mk (ho); clear BK119; clear HB; clear HO_2; have BK119 := n0_; have HB := n1_; have HO124 := n2_; clear n0_ n1_ n2_; clear ho hb hg hat))
                  go_roundg k1
                  case measure => have := HK1.out; omega
                  case rel => exact ⟨(y122), (wrap64 (x7_1 + 1)), (by first | rfl | (simp; done) | (simp [*]; done) | (simp [q_ne_nil]; done)), H', ⟨by have := HK1.out; omega⟩, ⟨by (with_reducible repeat (first | apply Kd.R_alloc | apply Kd.R_drewN | apply Kd.R_drew)); exact Kd.R_mono HO124.out (fun _ hk => trivial)⟩, ⟨by repeat (first | (with_reducible first | exact HB.out | apply below_alloc | apply pw_below_drewN | apply below_drew1 | refine below_set ?_ GE119.out) | exact HB.out)⟩⟩
                · rw [if_neg c17] at H
                  exact absurd H (by simp)
          · rw [if_neg c4] at H
            exact absurd H (by simp)
        · rw [if_neg c3] at H
          exact absurd H (by simp)
      · rw [if_neg c2] at H
        have c2b0 : decide (x7_1 < (l0.length : Int)) = false := decide_eq_false c2
        clear c2
        obtain rfl := Option.some.inj H
        go_wp2
        go_ret
        exact ⟨_, by first | rfl | (simp [errW_none, errW_some] <;> rfl) | (simp [*, errW_none, errW_some] <;> rfl) | (simp [q_ne_nil]; done), by (with_reducible repeat (first | apply Kd.R_alloc | apply Kd.R_drewN | apply Kd.R_drew)); exact HO_2.out, by repeat (first | (with_reducible first | exact HB.out | apply below_alloc | apply pw_below_drewN | apply below_drew1) | exact HB.out)⟩

end Go.Proofs.YtciigmlibnpeeaaDoor.Q
