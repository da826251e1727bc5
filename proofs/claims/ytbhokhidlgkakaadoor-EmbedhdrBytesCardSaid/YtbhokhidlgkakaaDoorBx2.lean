-- Laid by this seat's own driver (wip/tools/drive.py) out of the translation.
import Derived.Test.YtbhokhidlgkakaaDoorBx0
import Derived.Test.YtbhokhidlgkakaaDoorBx1
namespace Go.Proofs.YtbhokhidlgkakaaDoor.B
open Go.RowKit Go.Proofs.YtbhokhidlgkakaaDoorW.PrintWords Go.Proofs.YtbhokhidlgkakaaDoorW.PrintLast Go.Proofs.YtbhokhidlgkakaaDoorW.PrintMore
attribute [local go_sem] max2_int min2_int max_two min_two max_three min_three max_four min_four   -- for this text's walks alone
set_option linter.unusedVariables false
set_option linter.unusedSimpArgs false

/-! ### headers_Parts: function 19 -/
theorem comF_range (s : ByteArray) : ∀ (d i : Nat) (o : Bool), -1 ≤ comF s d i o ∧ (comF s d i o < s.size ∨ comF s d i o = -1) := by
  intro d
  induction d with
  | zero => intro i o; exact ⟨by simp [comF], .inr rfl⟩
  | succ d ih =>
    intro i o
    unfold comF
    split
    · split
      · exact ih _ _
      split
      · exact ih _ _
      split
      · exact ⟨by omega, .inl (by omega)⟩
      · exact ih _ _
    · exact ⟨by omega, .inr rfl⟩
theorem comma_some (s : ByteArray) (h : s.size ≤ 281474976710656) : headers_comma.f s = some (commaOf s) := if_pos h
/-- One value's parts. -/
def cpF : Nat → ByteArray → List ByteArray
  | 0, _ => []
  | d + 1, v => if 0 ≤ commaOf v then trimBA (v.extract 0 (commaOf v).toNat) :: cpF d (v.extract ((commaOf v).toNat + 1) v.size) else [trimBA v]
def cparts (v : ByteArray) : List ByteArray := cpF (v.size + 1) v
theorem cpF_mono : ∀ (d e : Nat) (v : ByteArray), v.size < d → d ≤ e → cpF e v = cpF d v := by
  intro d
  induction d with
  | zero => intro e v h; omega
  | succ d ih =>
    intro e v h he
    obtain ⟨e, rfl⟩ : ∃ k, e = k + 1 := ⟨e - 1, by omega⟩
    obtain ⟨h1, h2⟩ := comF_range v (v.size + 2) 0 false
    simp only [cpF]
    split
    · rename_i hc
      have hc' : 0 ≤ comF v (v.size + 2) 0 false := hc
      congr 1
      exact ih e _ (by simp [ByteArray.size_extract]; unfold commaOf; omega) (by omega)
    · rfl
theorem cparts_eq (v : ByteArray) : cparts v = if 0 ≤ commaOf v then trimBA (v.extract 0 (commaOf v).toNat) :: cparts (v.extract ((commaOf v).toNat + 1) v.size) else [trimBA v] := by
  obtain ⟨h1, h2⟩ := comF_range v (v.size + 2) 0 false
  unfold cparts
  rw [cpF]
  split
  · rename_i hc
    have hc' : 0 ≤ comF v (v.size + 2) 0 false := hc
    rw [cpF_mono ((v.extract ((commaOf v).toNat + 1) v.size).size + 1) v.size _ (by omega) (by simp [ByteArray.size_extract]; unfold commaOf; omega)]
  · rfl
theorem cparts_len (v : ByteArray) : (cparts v).length ≤ v.size + 1 := by
  suffices h : ∀ d v, v.size < d → (cpF d v).length ≤ v.size + 1 from h _ _ (by omega)
  intro d
  induction d with
  | zero => intro v h; omega
  | succ d ih =>
    intro v h
    obtain ⟨h1, h2⟩ := comF_range v (v.size + 2) 0 false
    simp only [cpF]
    split
    · rename_i hc
      have hc' : 0 ≤ comF v (v.size + 2) 0 false := hc
      have := ih (v.extract ((commaOf v).toNat + 1) v.size) (by simp [ByteArray.size_extract]; unfold commaOf; omega)
      simp only [ByteArray.size_extract] at this
      simp only [List.length_cons]
      unfold commaOf at *
      omega
    · simp
def partsOf (l : List S28) (name : ByteArray) : List ByteArray := (valsOf l name).flatMap cparts
def hdrsC (l : List S28) : Bool := l.all (fun h => decide ((h.f1.size + 1) * l.length ≤ 4398046511000))
theorem hdrsM {l : List S28} (h : hdrsC l = true) : ∀ h ∈ l, (h.f1.size + 1) * l.length ≤ 4398046511000 := by
  unfold hdrsC at h
  simpa [List.all_eq_true] using h
def headers_Parts.f (l0 : List S28) (a1 : ByteArray) : Option (List ByteArray) := if hdrsB l0 a1 = true ∧ hdrsC l0 = true then some (partsOf l0 a1) else none
theorem cparts_sum (M : Nat) (l : List ByteArray) (h : ∀ x ∈ l, x.size + 1 ≤ M) : (l.flatMap cparts).length ≤ l.length * M := by
  induction l with
  | nil => simp
  | cons a l ih =>
    have h1 := ih (fun x hx => h x (List.mem_cons_of_mem _ hx))
    have h2 := h a List.mem_cons_self
    have h3 := cparts_len a
    rw [List.flatMap_cons, List.length_append, List.length_cons, Nat.succ_mul]
    omega
def szOf : Value → Nat
  | .string s => s.size
  | _ => 0
theorem trim_len (s : ByteArray) : (trimBA s).size ≤ s.size := by
  show (Lib.trimS s.data.toList [9, 10, 12, 13, 32]).toArray.size ≤ s.data.size
  unfold Lib.trimS Lib.trimLeftS Lib.trimRightS
  rw [List.size_toArray, ← Array.length_toList]
  refine Nat.le_trans (List.dropWhile_sublist _).length_le ?_
  rw [List.length_reverse]
  refine Nat.le_trans (List.dropWhile_sublist _).length_le ?_
  rw [List.length_reverse]
  exact Nat.le_refl _
theorem vals_size {l : List S28} {name x : ByteArray} {C : Nat} (h : ∀ h ∈ l, (h.f1.size + 1) * l.length ≤ C) (hx : x ∈ valsOf l name) : 0 < l.length ∧ (x.size + 1) * l.length ≤ C := by
  unfold valsOf at hx
  obtain ⟨y, hy, rfl⟩ := List.mem_map.1 hx
  have hm := (List.mem_filter.1 hy).1
  have h1 := h y hm
  have h2 := trim_len y.f1
  exact ⟨List.length_pos_of_mem hm, Nat.le_trans (Nat.mul_le_mul_right _ (by omega)) h1⟩
theorem cparts_pos (v : ByteArray) : 0 < (cparts v).length := by
  rw [cparts_eq]
  split <;> simp
theorem parts_total {l : List S28} {name : ByteArray} {C : Nat} (h : ∀ h ∈ l, (h.f1.size + 1) * l.length ≤ C) (ys : List { x : ByteArray // x ∈ valsOf l name }) (hlt : ys.length ≤ l.length) (hpos : 0 < l.length) :
    ((ys.map (fun x => x.1)).flatMap cparts).length ≤ C := by
  refine Nat.le_trans (cparts_sum (C / l.length) _ ?_) ?_
  · intro x hx
    obtain ⟨y, _, rfl⟩ := List.mem_map.1 hx
    exact (Nat.le_div_iff_mul_le hpos).2 (vals_size h y.2).2
  · rw [List.length_map]
    exact Nat.le_trans (Nat.mul_le_mul_right _ hlt) (Nat.mul_div_le C l.length)
theorem keeps_below {A B : World} (h : Below A.heap.size A B) : KeepsOthers A B :=
  ⟨h.size, fun k o hk _ => (h.block k (by have := Array.getElem?_eq_some_iff.1 hk; exact this.1)).trans hk⟩
theorem below_drewN (w : World) (m : Nat) : Below w.heap.size w (w.drewN m) := ⟨rfl, rfl, rfl, Nat.le_refl _, fun _ _ => rfl⟩
theorem opIn_inRound {F : Fence} {n : Nat} {P : Program} {o : Oper} {a : Act} {w : World} {K : Act → World → Prop} {Q : Exit → Act → World → Prop} (l : Nat) (hnd : ∀ c, o.op ≠ .defer c)
    (h : o.wpIn F n P a w K Q) : o.wpIn (F.inRound l) n P a w K Q := by
  unfold Oper.wpIn at *
  refine ⟨h.1, ?_⟩
  have h2 := h.2
  rw [Oper.semAt_plain _ _ _ hnd] at h2 ⊢
  generalize (execOp a.eval o).run P w = r at *
  cases r with
  | ok x w' => cases x <;> exact h2
  | halt x w' => exact h2
theorem opsIn_inRound {F : Fence} {n : Nat} {P : Program} {ops : Array Oper} {Q : Exit → Act → World → Prop} (l : Nat) (hnd : ∀ o ∈ ops, ∀ c, o.op ≠ .defer c) :
    ∀ (order : List Nat) (a : Act) (w : World), wpOpsIn F n P ops Q order a w → wpOpsIn (F.inRound l) n P ops Q order a w := by
  intro order
  induction order with
  | nil => exact fun a w h => h
  | cons i rest ih =>
    intro a w h
    simp only [wpOpsIn] at h ⊢
    cases ho : ops[i]? with
    | none =>
      simp only [ho] at h
      exact ih _ _ h
    | some o =>
      simp only [ho] at h
      have hm : o ∈ ops := Array.mem_of_getElem? ho
      simp only []
      split
      · rename_i hw
        rw [if_pos hw] at h
        exact Oper.wpIn_mono (fun a w => ih a w) (opIn_inRound l (hnd o hm) h)
      · rename_i hw
        rw [if_neg hw] at h
        exact ⟨h.1, ih _ _ h.2⟩
/-- A region that draws its order, within a round: it is walked as outside of one. -/
theorem region_inRound {F : Fence} {n : Nat} {P : Program} {ops : Array Oper} {Q : Exit → Act → World → Prop} {l id : Nat} {a : Act} {w : World} (_ : F.round = none) (hm : P.follows .mixedOrders = true)
    (hnd : ∀ o ∈ ops, ∀ c, o.op ≠ .defer c) (h : wpAnyIn F n P .any ops Q ops.size (Array.replicate ops.size false) a w.drew) : (Code.region id ops true).wpIn (F.inRound l) n P Q a w :=
  wpIn_region_draw fun t => by
    simp only [Region.schedule, hm, Bool.true_or, if_true]
    exact opsIn_inRound l hnd _ _ _ (wpAnyIn_sound ops.size t _ a _ h)
theorem wpIn_append_own {F : Fence} {n : Nat} {P : Program} (w : World) {o : Oper} {a : Act} {K : Act → World → Prop} {Q : Exit → Act → World → Prop}
    (_ : o.guard = none) (s x : Operand) (t : TypeId) (hop : o.op = Op.call { callee := Callee.builtin Builtin.append, args := #[s, x], argTypes := #[t, t] })
    (base : Nat) (e : TypeId) (i : TypeInfo) (z : Value) (size bytes : Nat) (h1 : P.underlying t = some (.slice e)) (h2 : P.info? e = some i) (h3 : i.zero = some z) (h4 : i.size = size) (h5 : i.bytes = bytes) (h6 : z.cells.size = size) (h7 : 0 < size)
    (v : Value) (k : Nat) (xs : List Value) (hs : a.eval s = v) (hown : w.ownsRow base e size v k xs) (ad : Addr) (m c : Nat) (news : List Value) (hx : a.eval x = .slice (some ad) m c) (hn : news.length = m * size)
    (hc : ∀ j u, news[j]? = some u → w.cell? (ad.add j) = some u) (h1c : ∀ u ∈ news, u.oneCell' = true) (b1 : k + m ≤ maxLen) (b2 : (k + m) * bytes ≤ 140737488355328) (b3 : base ≤ w.heap.size)
    (hK : ∀ v' w', w'.ownsRow base e size v' (k + m) (xs ++ news) → w.grownBy w' v.ownBlock → (v' = .slice none 0 0 ↔ v = .slice none 0 0 ∧ m = 0) → K (a.put o.dst v') w') :
    o.wpIn F n P a w K Q := by
  obtain ⟨v', w', hrun, r1, r2, r3⟩ := run_append_own (P := P) w base t o.type e i z size bytes h1 h2 h3 h4 h5 h6 h7 v k xs hown ad m c news hn hc h1c b1 b2 b3
  unfold Oper.wpIn
  refine ⟨?_, ?_⟩
  · simp [Oper.about, hop, resolve, Target.leads, Sem.run_pure]
  · rw [Oper.semAt_plain F _ _ (by rw [hop]; intro c hc'; cases hc')]
    simp [execOp, hop, resolve, invoke, builtin, hs, hx, hrun, Result.andThen]
    exact hK v' w' r1 r2 r3
/-- A box and its row, behind what leaves them alone. -/
theorem drawn_kept {W w3 : World} {B m : Nat} {t e : TypeId} {vb : Value} {k : Nat} {xs : List Value} (hb : Boxed W B t vb) (hr : W.ownsRow m e 1 vb k xs) (h : Below W.drew.heap.size W.drew w3) :
    Boxed w3 B t vb ∧ w3.ownsRow m e 1 vb k xs ∧ w3.cell? ⟨B, 0, none⟩ = some vb ∧ ∀ o, (w3.alloc o).cell? ⟨B, 0, none⟩ = some vb := by
  have hb' : Boxed w3 B t vb := Boxed.kept (W := W.drew) hb (grown_of_below h none) (by simp)
  refine ⟨hb', World.ownsRow.kept (w := W.drew) hr (grown_of_below h (some w3.heap.size)) ?_, hb'.cell, fun o => (hb'.alloc o).cell⟩
  by_cases hn : vb.ownBlock = none
  · exact .inl hn
  · right
    intro e
    have := (hr.lt _ e).2
    have h2 := h.size
    simp at h2
    omega
/-- Between two rounds of the inner loop. -/
def PIn (w : World) (m bo : Nat) (fin : List ByteArray) (W : World) (v5 v6 : Value) (wr : World) : Prop :=
  ∃ acc v, v5 = .string v ∧ v6 = .int .i64 (commaOf v) ∧ v.size ≤ 281474976710656 ∧ fin = acc ++ cparts v ∧ GatherAt w m bo acc wr ∧ KeepsOthers W wr ∧ KpBut m bo W wr
attribute [local go_sem] Oper.semAt_some in
set_option maxRecDepth 100000 in
set_option maxHeartbeats 4000000 in
theorem Parts_ok (A0 : Option Addr) (c0 : Nat) (l0 : List S28) (a1 : ByteArray) (w : World) (hr0 : Kd.C k28 w A0 l0.length l0) (hc0 : l0.length ≤ c0) (hok : hdrsB l0 a1 = true) (hM : ∀ h ∈ l0, (h.f1.size + 1) * l0.length ≤ 4398046511000) :
    Calls Tryd.prog 19 #[.slice A0 l0.length c0, .string a1] w fun e w' => ∃ v0_ : Value, e = .returned v0_ ∧ Kd.R Kd.string 9 w' w.heap.size (fun _ => True) v0_ (partsOf l0 a1) ∧ Below w.heap.size w w' := by
  obtain ⟨hz, hlen, hsz⟩ := hdrsB_at hok
  clear hz hsz
  obtain ⟨i0, hi, hz0, hz1, hz2⟩ := info_parts info9
  have hmx : Tryd.prog.follows .mixedOrders = true := by kernel_rfl
  refine (callsIn_wide (n := 5)).1 ?_
  refine callsIn_of_wp_marks Tryd.func19 rfl trivial ?_ rfl
  simp only [Tryd.ntmps19, List.size_toArray, List.length_cons, List.length_nil, Nat.reduceAdd, Nat.reduceSub, Array.replicate_succ, Array.replicate_zero, List.push_toArray, List.append_toArray, List.nil_append, List.cons_append]
  have fw1 : Fence.wide.fn 26 := trivial
  have fw2 : Fence.wide.fn 27 := trivial
  have fw3 : Fence.wide.fn 17 := trivial
  have hv := fun W => values_any A0 l0.length c0 a1 W
  have HV := Aside0.mk hv
  have HR := Aside0.mk hr0
  have HOK := Aside0.mk hok
  have HM := Aside0.mk hM
  clear hv hr0 hok hM
  gi_wp2_with (gi_at_call 26; refine (callsIn_wide.2 (HV.out _)).mono ?_; rintro e w' ⟨rfl, rfl⟩)
  have bO := Boxed.new w 26 (.slice none 0 0)
  have bL := Boxed.new (w.alloc (.cells #[.slice none 0 0] 26)) 23 (.slice A0 l0.length c0)
  have bN := Boxed.new ((w.alloc (.cells #[.slice none 0 0] 26)).alloc (.cells #[.slice A0 l0.length c0] 23)) 9 (.string a1)
  rw [World.size_alloc] at bL
  rw [World.size_alloc, World.size_alloc] at bN
  have hB0 : Below w.heap.size w (((w.alloc (.cells #[.slice none 0 0] 26)).alloc (.cells #[.slice A0 l0.length c0] 23)).alloc (.cells #[.string a1] 9)) := (((Below.refl _ w).alloc (Nat.le_refl _) _).alloc (by simp) _).alloc (by simp; omega) _
  refine wpIn_rangeFunc_ownG rfl (by omega) (gf := 39) (lb := #[.pointer (some ⟨w.heap.size + 1, 0, none⟩), .pointer (some ⟨w.heap.size + 1 + 1, 0, none⟩)]) rfl trivial (enters_of Tryd.func39 (by kernel_rfl) rfl)
    (values_stopsM 4 (by omega) w _ A0 c0 l0 a1 HOK.out HR.out w.heap.size (w.heap.size + 1) (w.heap.size + 1 + 1) hB0 (Nat.le_refl _) (bL.alloc _) bN (by omega)) KpBut.trans (KpBut.putObj (Nat.le_refl _)) (Below.refl _ _) (fun _ => rfl)
    (fun pre W => GatherAt w (w.heap.size + 3) w.heap.size ((pre.map (fun x => x.1)).flatMap cparts) W) (fun _ _ _ => False)
    (fun s W W' row hs hg hr => GatherAt.own w (w.heap.size + 3) w.heap.size _ (by simp; omega) _ W W' row hs hg hr)
    (fun _ _ _ _ _ hs _ _ => hs)
    ⟨⟨_, (bO.alloc _).alloc _, World.ownsRow_nil _ _ _ _, trivial⟩, hB0, by simp⟩
    (fun x => { tmps := #[.slice A0 l0.length c0, .string a1, undef, undef, .pointer (some ⟨w.heap.size, 0, none⟩), .string x.1, undef, .slice A0 l0.length c0, .string a1, .func (.func 39) #[] #[.pointer (some ⟨w.heap.size + 1, 0, none⟩), .pointer (some ⟨w.heap.size + 1 + 1, 0, none⟩)], .string x.1, undef, undef, undef, undef, undef, undef, undef, undef, undef, undef, undef, undef, undef, undef, undef, undef, undef, undef, undef, undef, undef, undef, undef], defers := [] }) ?assign ?body ?done ?stop
  case assign =>
    intro l x W K hK
    gi_wp2
    exact hK
  case body =>
    rintro l pre x W hG hlt
    have hx := vals_size (HM.out) x.2
    obtain ⟨hx1, hx2⟩ := hx
    have hx3 : x.1.size ≤ 281474976710656 := by have := Nat.le_mul_of_pos_right (x.1.size + 1) hx1; omega
    have fr2 : (Fence.wide.inRound l).fn 27 := trivial
    have fr3 : (Fence.wide.inRound l).fn 17 := trivial
    have htot := parts_total HM.out (pre ++ [x]) (by simp; omega) hx1
    have HG := Aside0.mk hG
    clear hG
    have hCm := Aside0.mk (fun v (hv : v.size ≤ 281474976710656) W2 => headers_comma.calls v (commaOf v) W2 (comma_some v hv))
    have hTr := Aside0.mk (fun v (hv : v.size ≤ 281474976710656) W2 => octet_Trim.calls v (trimBA v) W2 (trim_some v hv))
    gi_wp2_with (first | (gi_at_call 27; refine (CallsIn.inRound l (callsIn_wide.2 (hCm.out x.1 hx3 _))).mono ?_; rintro e w2 ⟨rfl, ⟨m1, rfl⟩⟩))
    gi_loopw [5, 6] (fun v5 v6 wr => PIn w (w.heap.size + 3) w.heap.size (((pre ++ [x]).map (fun x => x.1)).flatMap cparts) W v5 v6 wr) (fun v5 v6 wr => szOf v5)
    case atStart =>
      exact ⟨_, _, rfl, rfl, hx3, by simp [List.flatMap_append], GatherAt.own w (w.heap.size + 3) w.heap.size _ (Nat.le_refl _) _ _ _ none HG.out (grown_of_below (below_drewN _ _) none) (by simp), keeps_below (below_drewN _ _), KpBut.below (below_drewN _ _) HG.out.2.2⟩
    case round =>
      obtain ⟨acc, v, rfl, rfl, hsz, hfin, hG, hKO, hKp⟩ := hrel
      obtain ⟨⟨vb, hb, hrow, _⟩, hB, hWs⟩ := hG
      have hc := hb.cell
      have hce := cparts_eq v
      have hac : acc.length + 1 ≤ 4398046511000 := by
        have h1 := cparts_pos v
        rw [hfin, List.length_append] at htot
        omega
      by_cases hco : 0 ≤ commaOf v
      · rw [if_pos hco] at hce
        obtain ⟨_, hc2⟩ := comF_range v (v.size + 2) 0 false
        replace hc2 : commaOf v < v.size := by unfold commaOf at *; omega
        generalize hcv : commaOf v = cv at *
        have hex : (v.extract 0 cv.toNat).size ≤ 281474976710656 := by simp [ByteArray.size_extract]; omega
        have hex2 : ∀ k, (v.extract k v.size).size ≤ 281474976710656 := by intro k; simp [ByteArray.size_extract]; omega
        gi_wp2
        -- BEGIN R6
        refine region_inRound rfl hmx (by intro o ho c; simp only [List.mem_toArray, List.mem_cons, List.not_mem_nil, or_false] at ho; rcases ho with rfl | rfl | rfl | rfl | rfl | rfl | rfl | rfl <;> simp) ?_
        refine wpAnyIn_take (i := 1) (v := .string v) rfl rfl (by kernel_rfl) (by kernel_rfl) (by kernel_rfl) (fun _ _ _ h => h) ⟨Or.inl ⟨by rfl, by intro w; go_simp⟩, fun _ => rfl⟩ ?_
        refine wpAnyIn_take (i := 2) (v := .int .i64 cv) rfl rfl (by kernel_rfl) (by kernel_rfl) (by kernel_rfl) (fun _ _ _ h => h) ⟨Or.inl ⟨by rfl, by intro w; go_simp⟩, fun _ => rfl⟩ ?_
        refine wpAnyIn_take (i := 3) (v := .string (v.extract 0 cv.toNat)) rfl rfl (by kernel_rfl) (by kernel_rfl) (by kernel_rfl) (fun _ _ _ h => h) ⟨Or.inl ⟨by rfl, by intro w; go_simp; intro hbad; exact absurd hbad (by omega)⟩, fun _ => rfl⟩ ?_
        refine wpAnyIn_ready (rs := [0, 4]) (by kernel_rfl) (by simp) (BigFrame.allReadyIn_want rfl (by rfl) (fun K hK => ?_) (BigFrame.allReadyIn_want rfl (by rfl) (fun K hK => ?_) (AllReadyIn.nil)))
        · go_simp
          refine hK _ _ ?_
          clear hK
          refine wpAnyIn_ready (rs := [4]) (by kernel_rfl) (by simp) (BigFrame.allReadyIn_want rfl (by rfl) (fun K hK => ?_) (AllReadyIn.nil))
          go_simp
          refine (CallsIn.mono (callsIn_wide.2 (hTr.out (v.extract 0 cv.toNat) hex _)) ?_)
          rintro e w3 ⟨rfl, hb3⟩
          have hq := drawn_kept hb hrow hb3
          obtain ⟨hb', hrow', hcw, hca⟩ := hq
          refine hK _ _ ?_
          clear hK
          refine wpAnyIn_ready (rs := [5]) (by kernel_rfl) (by simp) (BigFrame.allReadyIn_want rfl (by rfl) (fun K hK => ?_) (AllReadyIn.nil))
          go_simp
          refine hK _ _ ?_
          clear hK
          refine wpAnyIn_ready (rs := [6]) (by kernel_rfl) (by simp) (BigFrame.allReadyIn_want rfl (by rfl) (fun K hK => ?_) (AllReadyIn.nil))
          refine wpIn_append_own _ rfl _ _ 26 rfl (w.heap.size + 3) 9 i0 (.string ⟨#[]⟩) 1 16 Tryd.underlying26 hi hz0 hz1 hz2 rfl (by decide) _ _ _ rfl (hrow'.alloc _) ⟨w3.heap.size, 0, none⟩ 1 1 [.string (trimBA (v.extract 0 cv.toNat))] rfl rfl (cell_one_new _ _ _) (by simp [Value.oneCell']) (by simp only [maxLen]; omega) (by omega) (by simp; have := hb3.size; simp at this; omega) ?_
          intro v' w1 hown' hgrow _
          obtain ⟨g', cap', rfl⟩ := ownsRow_succ hown'
          obtain ⟨hv1, hv2, hr2, hk2, hb2, hkp⟩ := gathered hb' (by decide) hrow' (Nat.le_trans hWs hb3.size) (by omega) hown' hgrow
          have hc1 := hv1.cell
          have hf1 := hv1.frozen
          refine hK _ _ ?_
          clear hK
          refine wpAnyIn_ready (rs := [7]) (by kernel_rfl) (by simp) (BigFrame.allReadyIn_want rfl (by rfl) (fun K hK => ?_) (AllReadyIn.nil))
          go_simp
          refine hK _ _ ?_
          clear hK
          refine wpAnyIn_done (by kernel_rfl) ?_ _
          have hB3 : Below w.heap.size w w3 := hB.drew.trans (hb3.mono hB.size)
          have hKO2 := hKO.trans ((KeepsOthers.drew wr).trans ((keeps_below hb3).trans hk2))
          have hKp2 := hKp.trans (KpBut.trans (KpBut.below (A := wr.drew) hb3 hWs : KpBut _ _ wr w3) hkp)
          have hG2 : GatherAt w (w.heap.size + 3) w.heap.size (acc ++ [trimBA (v.extract 0 cv.toNat)]) (w1.setCell ⟨w.heap.size, 0, none⟩ (.slice (some ⟨g', 0, none⟩) (acc.length + 1) cap')) := ⟨⟨_, hv2, by simpa using hr2, trivial⟩, hB3.trans hb2, Nat.le_trans (Nat.le_trans hWs hb3.size) hb2.size⟩
          generalize w1.setCell ⟨w.heap.size, 0, none⟩ (.slice (some ⟨g', 0, none⟩) (acc.length + 1) cap') = W2 at *
          clear hv1 hv2 hr2 hk2 hb2 hkp hc1 hf1 hown' hgrow hb' hrow' hcw hca hB3
          gi_wp2_with (gi_at_call 27; refine (CallsIn.inRound l (callsIn_wide.2 (hCm.out _ (hex2 _) _))).mono ?_; rintro e w5 ⟨rfl, ⟨m5, rfl⟩⟩)
          go_roundw
          case rel => exact ⟨acc ++ [trimBA (v.extract 0 cv.toNat)], _, rfl, rfl, hex2 _, by rw [hfin, hce, show (cv + 1).toNat = cv.toNat + 1 by omega]; simp, GatherAt.own w (w.heap.size + 3) w.heap.size _ (Nat.le_refl _) _ _ _ none hG2 (grown_of_below (below_drewN _ _) none) (by simp), hKO2.trans (keeps_below (below_drewN _ _)), hKp2.trans (KpBut.below (below_drewN _ _) hG2.2.2)⟩
          case measure => simp [szOf, ByteArray.size_extract]; omega
        · go_simp
          refine (CallsIn.mono (callsIn_wide.2 (hTr.out (v.extract 0 cv.toNat) hex _)) ?_)
          rintro e w3 ⟨rfl, hb3⟩
          have hq := drawn_kept hb hrow hb3
          obtain ⟨hb', hrow', hcw, hca⟩ := hq
          refine hK _ _ ?_
          clear hK
          refine wpAnyIn_ready (rs := [0, 5]) (by kernel_rfl) (by simp) (BigFrame.allReadyIn_want rfl (by rfl) (fun K hK => ?_) (BigFrame.allReadyIn_want rfl (by rfl) (fun K hK => ?_) (AllReadyIn.nil)))
          · go_simp
            refine hK _ _ ?_
            clear hK
            refine wpAnyIn_ready (rs := [5]) (by kernel_rfl) (by simp) (BigFrame.allReadyIn_want rfl (by rfl) (fun K hK => ?_) (AllReadyIn.nil))
            go_simp
            refine hK _ _ ?_
            clear hK
            refine wpAnyIn_ready (rs := [6]) (by kernel_rfl) (by simp) (BigFrame.allReadyIn_want rfl (by rfl) (fun K hK => ?_) (AllReadyIn.nil))
            refine wpIn_append_own _ rfl _ _ 26 rfl (w.heap.size + 3) 9 i0 (.string ⟨#[]⟩) 1 16 Tryd.underlying26 hi hz0 hz1 hz2 rfl (by decide) _ _ _ rfl (hrow'.alloc _) ⟨w3.heap.size, 0, none⟩ 1 1 [.string (trimBA (v.extract 0 cv.toNat))] rfl rfl (cell_one_new _ _ _) (by simp [Value.oneCell']) (by simp only [maxLen]; omega) (by omega) (by simp; have := hb3.size; simp at this; omega) ?_
            intro v' w1 hown' hgrow _
            obtain ⟨g', cap', rfl⟩ := ownsRow_succ hown'
            obtain ⟨hv1, hv2, hr2, hk2, hb2, hkp⟩ := gathered hb' (by decide) hrow' (Nat.le_trans hWs hb3.size) (by omega) hown' hgrow
            have hc1 := hv1.cell
            have hf1 := hv1.frozen
            refine hK _ _ ?_
            clear hK
            refine wpAnyIn_ready (rs := [7]) (by kernel_rfl) (by simp) (BigFrame.allReadyIn_want rfl (by rfl) (fun K hK => ?_) (AllReadyIn.nil))
            go_simp
            refine hK _ _ ?_
            clear hK
            refine wpAnyIn_done (by kernel_rfl) ?_ _
            have hB3 : Below w.heap.size w w3 := hB.drew.trans (hb3.mono hB.size)
            have hKO2 := hKO.trans ((KeepsOthers.drew wr).trans ((keeps_below hb3).trans hk2))
            have hKp2 := hKp.trans (KpBut.trans (KpBut.below (A := wr.drew) hb3 hWs : KpBut _ _ wr w3) hkp)
            have hG2 : GatherAt w (w.heap.size + 3) w.heap.size (acc ++ [trimBA (v.extract 0 cv.toNat)]) (w1.setCell ⟨w.heap.size, 0, none⟩ (.slice (some ⟨g', 0, none⟩) (acc.length + 1) cap')) := ⟨⟨_, hv2, by simpa using hr2, trivial⟩, hB3.trans hb2, Nat.le_trans (Nat.le_trans hWs hb3.size) hb2.size⟩
            generalize w1.setCell ⟨w.heap.size, 0, none⟩ (.slice (some ⟨g', 0, none⟩) (acc.length + 1) cap') = W2 at *
            clear hv1 hv2 hr2 hk2 hb2 hkp hc1 hf1 hown' hgrow hb' hrow' hcw hca hB3
            gi_wp2_with (gi_at_call 27; refine (CallsIn.inRound l (callsIn_wide.2 (hCm.out _ (hex2 _) _))).mono ?_; rintro e w5 ⟨rfl, ⟨m5, rfl⟩⟩)
            go_roundw
            case rel => exact ⟨acc ++ [trimBA (v.extract 0 cv.toNat)], _, rfl, rfl, hex2 _, by rw [hfin, hce, show (cv + 1).toNat = cv.toNat + 1 by omega]; simp, GatherAt.own w (w.heap.size + 3) w.heap.size _ (Nat.le_refl _) _ _ _ none hG2 (grown_of_below (below_drewN _ _) none) (by simp), hKO2.trans (keeps_below (below_drewN _ _)), hKp2.trans (KpBut.below (below_drewN _ _) hG2.2.2)⟩
            case measure => simp [szOf, ByteArray.size_extract]; omega
          · go_simp
            refine hK _ _ ?_
            clear hK
            refine wpAnyIn_ready (rs := [0]) (by kernel_rfl) (by simp) (BigFrame.allReadyIn_want rfl (by rfl) (fun K hK => ?_) (AllReadyIn.nil))
            go_simp
            refine hK _ _ ?_
            clear hK
            refine wpAnyIn_ready (rs := [6]) (by kernel_rfl) (by simp) (BigFrame.allReadyIn_want rfl (by rfl) (fun K hK => ?_) (AllReadyIn.nil))
            refine wpIn_append_own _ rfl _ _ 26 rfl (w.heap.size + 3) 9 i0 (.string ⟨#[]⟩) 1 16 Tryd.underlying26 hi hz0 hz1 hz2 rfl (by decide) _ _ _ rfl (hrow'.alloc _) ⟨w3.heap.size, 0, none⟩ 1 1 [.string (trimBA (v.extract 0 cv.toNat))] rfl rfl (cell_one_new _ _ _) (by simp [Value.oneCell']) (by simp only [maxLen]; omega) (by omega) (by simp; have := hb3.size; simp at this; omega) ?_
            intro v' w1 hown' hgrow _
            obtain ⟨g', cap', rfl⟩ := ownsRow_succ hown'
            obtain ⟨hv1, hv2, hr2, hk2, hb2, hkp⟩ := gathered hb' (by decide) hrow' (Nat.le_trans hWs hb3.size) (by omega) hown' hgrow
            have hc1 := hv1.cell
            have hf1 := hv1.frozen
            refine hK _ _ ?_
            clear hK
            refine wpAnyIn_ready (rs := [7]) (by kernel_rfl) (by simp) (BigFrame.allReadyIn_want rfl (by rfl) (fun K hK => ?_) (AllReadyIn.nil))
            go_simp
            refine hK _ _ ?_
            clear hK
            refine wpAnyIn_done (by kernel_rfl) ?_ _
            have hB3 : Below w.heap.size w w3 := hB.drew.trans (hb3.mono hB.size)
            have hKO2 := hKO.trans ((KeepsOthers.drew wr).trans ((keeps_below hb3).trans hk2))
            have hKp2 := hKp.trans (KpBut.trans (KpBut.below (A := wr.drew) hb3 hWs : KpBut _ _ wr w3) hkp)
            have hG2 : GatherAt w (w.heap.size + 3) w.heap.size (acc ++ [trimBA (v.extract 0 cv.toNat)]) (w1.setCell ⟨w.heap.size, 0, none⟩ (.slice (some ⟨g', 0, none⟩) (acc.length + 1) cap')) := ⟨⟨_, hv2, by simpa using hr2, trivial⟩, hB3.trans hb2, Nat.le_trans (Nat.le_trans hWs hb3.size) hb2.size⟩
            generalize w1.setCell ⟨w.heap.size, 0, none⟩ (.slice (some ⟨g', 0, none⟩) (acc.length + 1) cap') = W2 at *
            clear hv1 hv2 hr2 hk2 hb2 hkp hc1 hf1 hown' hgrow hb' hrow' hcw hca hB3
            gi_wp2_with (gi_at_call 27; refine (CallsIn.inRound l (callsIn_wide.2 (hCm.out _ (hex2 _) _))).mono ?_; rintro e w5 ⟨rfl, ⟨m5, rfl⟩⟩)
            go_roundw
            case rel => exact ⟨acc ++ [trimBA (v.extract 0 cv.toNat)], _, rfl, rfl, hex2 _, by rw [hfin, hce, show (cv + 1).toNat = cv.toNat + 1 by omega]; simp, GatherAt.own w (w.heap.size + 3) w.heap.size _ (Nat.le_refl _) _ _ _ none hG2 (grown_of_below (below_drewN _ _) none) (by simp), hKO2.trans (keeps_below (below_drewN _ _)), hKp2.trans (KpBut.below (below_drewN _ _) hG2.2.2)⟩
            case measure => simp [szOf, ByteArray.size_extract]; omega
        -- END R6
      · rw [if_neg hco] at hce
        generalize hcv : commaOf v = cv at *
        gi_wp2
        -- BEGIN R8
        refine region_inRound rfl hmx (by intro o ho c; simp only [List.mem_toArray, List.mem_cons, List.not_mem_nil, or_false] at ho; rcases ho with rfl | rfl | rfl | rfl | rfl | rfl <;> simp) ?_
        refine wpAnyIn_take (i := 1) (v := .string v) rfl rfl (by kernel_rfl) (by kernel_rfl) (by kernel_rfl) (fun _ _ _ h => h) ⟨Or.inl ⟨by rfl, by intro w; go_simp⟩, fun _ => rfl⟩ ?_
        refine wpAnyIn_ready (rs := [0, 2]) (by kernel_rfl) (by simp) (BigFrame.allReadyIn_want rfl (by rfl) (fun K hK => ?_) (BigFrame.allReadyIn_want rfl (by rfl) (fun K hK => ?_) (AllReadyIn.nil)))
        · go_simp
          refine hK _ _ ?_
          clear hK
          refine wpAnyIn_ready (rs := [2]) (by kernel_rfl) (by simp) (BigFrame.allReadyIn_want rfl (by rfl) (fun K hK => ?_) (AllReadyIn.nil))
          go_simp
          refine (CallsIn.mono (callsIn_wide.2 (hTr.out v hsz _)) ?_)
          rintro e w3 ⟨rfl, hb3⟩
          have hq := drawn_kept hb hrow hb3
          obtain ⟨hb', hrow', hcw, hca⟩ := hq
          refine hK _ _ ?_
          clear hK
          refine wpAnyIn_ready (rs := [3]) (by kernel_rfl) (by simp) (BigFrame.allReadyIn_want rfl (by rfl) (fun K hK => ?_) (AllReadyIn.nil))
          go_simp
          refine hK _ _ ?_
          clear hK
          refine wpAnyIn_ready (rs := [4]) (by kernel_rfl) (by simp) (BigFrame.allReadyIn_want rfl (by rfl) (fun K hK => ?_) (AllReadyIn.nil))
          refine wpIn_append_own _ rfl _ _ 26 rfl (w.heap.size + 3) 9 i0 (.string ⟨#[]⟩) 1 16 Tryd.underlying26 hi hz0 hz1 hz2 rfl (by decide) _ _ _ rfl (hrow'.alloc _) ⟨w3.heap.size, 0, none⟩ 1 1 [.string (trimBA v)] rfl rfl (cell_one_new _ _ _) (by simp [Value.oneCell']) (by simp only [maxLen]; omega) (by omega) (by simp; have := hb3.size; simp at this; omega) ?_
          intro v' w1 hown' hgrow _
          obtain ⟨g', cap', rfl⟩ := ownsRow_succ hown'
          obtain ⟨hv1, hv2, hr2, hk2, hb2, hkp⟩ := gathered hb' (by decide) hrow' (Nat.le_trans hWs hb3.size) (by omega) hown' hgrow
          have hc1 := hv1.cell
          have hf1 := hv1.frozen
          refine hK _ _ ?_
          clear hK
          refine wpAnyIn_ready (rs := [5]) (by kernel_rfl) (by simp) (BigFrame.allReadyIn_want rfl (by rfl) (fun K hK => ?_) (AllReadyIn.nil))
          go_simp
          refine hK _ _ ?_
          clear hK
          refine wpAnyIn_done (by kernel_rfl) ?_ _
          have hB3 : Below w.heap.size w w3 := hB.drew.trans (hb3.mono hB.size)
          have hKO2 := hKO.trans ((KeepsOthers.drew wr).trans ((keeps_below hb3).trans hk2))
          have hKp2 := hKp.trans (KpBut.trans (KpBut.below (A := wr.drew) hb3 hWs : KpBut _ _ wr w3) hkp)
          have hG2 : GatherAt w (w.heap.size + 3) w.heap.size (acc ++ [trimBA v]) (w1.setCell ⟨w.heap.size, 0, none⟩ (.slice (some ⟨g', 0, none⟩) (acc.length + 1) cap')) := ⟨⟨_, hv2, by simpa using hr2, trivial⟩, hB3.trans hb2, Nat.le_trans (Nat.le_trans hWs hb3.size) hb2.size⟩
          generalize w1.setCell ⟨w.heap.size, 0, none⟩ (.slice (some ⟨g', 0, none⟩) (acc.length + 1) cap') = W2 at *
          clear hv1 hv2 hr2 hk2 hb2 hkp hc1 hf1 hown' hgrow hb' hrow' hcw hca hB3
          exact ⟨hKO2.from _, by simpa using hKp2, by show GatherAt w (w.heap.size + 3) w.heap.size (((pre ++ [x]).map (fun x => x.1)).flatMap cparts) W2; rw [hfin, hce]; exact hG2⟩
        · go_simp
          refine (CallsIn.mono (callsIn_wide.2 (hTr.out v hsz _)) ?_)
          rintro e w3 ⟨rfl, hb3⟩
          have hq := drawn_kept hb hrow hb3
          obtain ⟨hb', hrow', hcw, hca⟩ := hq
          refine hK _ _ ?_
          clear hK
          refine wpAnyIn_ready (rs := [0, 3]) (by kernel_rfl) (by simp) (BigFrame.allReadyIn_want rfl (by rfl) (fun K hK => ?_) (BigFrame.allReadyIn_want rfl (by rfl) (fun K hK => ?_) (AllReadyIn.nil)))
          · go_simp
            refine hK _ _ ?_
            clear hK
            refine wpAnyIn_ready (rs := [3]) (by kernel_rfl) (by simp) (BigFrame.allReadyIn_want rfl (by rfl) (fun K hK => ?_) (AllReadyIn.nil))
            go_simp
            refine hK _ _ ?_
            clear hK
            refine wpAnyIn_ready (rs := [4]) (by kernel_rfl) (by simp) (BigFrame.allReadyIn_want rfl (by rfl) (fun K hK => ?_) (AllReadyIn.nil))
            refine wpIn_append_own _ rfl _ _ 26 rfl (w.heap.size + 3) 9 i0 (.string ⟨#[]⟩) 1 16 Tryd.underlying26 hi hz0 hz1 hz2 rfl (by decide) _ _ _ rfl (hrow'.alloc _) ⟨w3.heap.size, 0, none⟩ 1 1 [.string (trimBA v)] rfl rfl (cell_one_new _ _ _) (by simp [Value.oneCell']) (by simp only [maxLen]; omega) (by omega) (by simp; have := hb3.size; simp at this; omega) ?_
            intro v' w1 hown' hgrow _
            obtain ⟨g', cap', rfl⟩ := ownsRow_succ hown'
            obtain ⟨hv1, hv2, hr2, hk2, hb2, hkp⟩ := gathered hb' (by decide) hrow' (Nat.le_trans hWs hb3.size) (by omega) hown' hgrow
            have hc1 := hv1.cell
            have hf1 := hv1.frozen
            refine hK _ _ ?_
            clear hK
            refine wpAnyIn_ready (rs := [5]) (by kernel_rfl) (by simp) (BigFrame.allReadyIn_want rfl (by rfl) (fun K hK => ?_) (AllReadyIn.nil))
            go_simp
            refine hK _ _ ?_
            clear hK
            refine wpAnyIn_done (by kernel_rfl) ?_ _
            have hB3 : Below w.heap.size w w3 := hB.drew.trans (hb3.mono hB.size)
            have hKO2 := hKO.trans ((KeepsOthers.drew wr).trans ((keeps_below hb3).trans hk2))
            have hKp2 := hKp.trans (KpBut.trans (KpBut.below (A := wr.drew) hb3 hWs : KpBut _ _ wr w3) hkp)
            have hG2 : GatherAt w (w.heap.size + 3) w.heap.size (acc ++ [trimBA v]) (w1.setCell ⟨w.heap.size, 0, none⟩ (.slice (some ⟨g', 0, none⟩) (acc.length + 1) cap')) := ⟨⟨_, hv2, by simpa using hr2, trivial⟩, hB3.trans hb2, Nat.le_trans (Nat.le_trans hWs hb3.size) hb2.size⟩
            generalize w1.setCell ⟨w.heap.size, 0, none⟩ (.slice (some ⟨g', 0, none⟩) (acc.length + 1) cap') = W2 at *
            clear hv1 hv2 hr2 hk2 hb2 hkp hc1 hf1 hown' hgrow hb' hrow' hcw hca hB3
            exact ⟨hKO2.from _, by simpa using hKp2, by show GatherAt w (w.heap.size + 3) w.heap.size (((pre ++ [x]).map (fun x => x.1)).flatMap cparts) W2; rw [hfin, hce]; exact hG2⟩
          · go_simp
            refine hK _ _ ?_
            clear hK
            refine wpAnyIn_ready (rs := [0]) (by kernel_rfl) (by simp) (BigFrame.allReadyIn_want rfl (by rfl) (fun K hK => ?_) (AllReadyIn.nil))
            go_simp
            refine hK _ _ ?_
            clear hK
            refine wpAnyIn_ready (rs := [4]) (by kernel_rfl) (by simp) (BigFrame.allReadyIn_want rfl (by rfl) (fun K hK => ?_) (AllReadyIn.nil))
            refine wpIn_append_own _ rfl _ _ 26 rfl (w.heap.size + 3) 9 i0 (.string ⟨#[]⟩) 1 16 Tryd.underlying26 hi hz0 hz1 hz2 rfl (by decide) _ _ _ rfl (hrow'.alloc _) ⟨w3.heap.size, 0, none⟩ 1 1 [.string (trimBA v)] rfl rfl (cell_one_new _ _ _) (by simp [Value.oneCell']) (by simp only [maxLen]; omega) (by omega) (by simp; have := hb3.size; simp at this; omega) ?_
            intro v' w1 hown' hgrow _
            obtain ⟨g', cap', rfl⟩ := ownsRow_succ hown'
            obtain ⟨hv1, hv2, hr2, hk2, hb2, hkp⟩ := gathered hb' (by decide) hrow' (Nat.le_trans hWs hb3.size) (by omega) hown' hgrow
            have hc1 := hv1.cell
            have hf1 := hv1.frozen
            refine hK _ _ ?_
            clear hK
            refine wpAnyIn_ready (rs := [5]) (by kernel_rfl) (by simp) (BigFrame.allReadyIn_want rfl (by rfl) (fun K hK => ?_) (AllReadyIn.nil))
            go_simp
            refine hK _ _ ?_
            clear hK
            refine wpAnyIn_done (by kernel_rfl) ?_ _
            have hB3 : Below w.heap.size w w3 := hB.drew.trans (hb3.mono hB.size)
            have hKO2 := hKO.trans ((KeepsOthers.drew wr).trans ((keeps_below hb3).trans hk2))
            have hKp2 := hKp.trans (KpBut.trans (KpBut.below (A := wr.drew) hb3 hWs : KpBut _ _ wr w3) hkp)
            have hG2 : GatherAt w (w.heap.size + 3) w.heap.size (acc ++ [trimBA v]) (w1.setCell ⟨w.heap.size, 0, none⟩ (.slice (some ⟨g', 0, none⟩) (acc.length + 1) cap')) := ⟨⟨_, hv2, by simpa using hr2, trivial⟩, hB3.trans hb2, Nat.le_trans (Nat.le_trans hWs hb3.size) hb2.size⟩
            generalize w1.setCell ⟨w.heap.size, 0, none⟩ (.slice (some ⟨g', 0, none⟩) (acc.length + 1) cap') = W2 at *
            clear hv1 hv2 hr2 hk2 hb2 hkp hc1 hf1 hown' hgrow hb' hrow' hcw hca hB3
            exact ⟨hKO2.from _, by simpa using hKp2, by show GatherAt w (w.heap.size + 3) w.heap.size (((pre ++ [x]).map (fun x => x.1)).flatMap cparts) W2; rw [hfin, hce]; exact hG2⟩
        -- END R8
  case done =>
    rintro D ys W hD hS hG hK
    rw [hS] at hG
    obtain ⟨v, hbx, hRR, hBB⟩ := hG.done (by omega)
    change Kd.R Kd.string 9 W w.heap.size (fun _ => True) v (partsOf l0 a1) at hRR
    obtain ⟨A1, c1, hv1⟩ := Kd.R_slice hRR
    generalize (partsOf l0 a1).length = n1 at hv1
    subst hv1
    have hc1 := hbx.cell
    have hf1 := hbx.frozen
    have HRR := Aside0.mk hRR
    have HBB := Aside0.mk hBB
    have HBX := Aside0.mk hbx
    clear hRR hBB hbx hG
    gi_wp2
    have hK2 := (KeepsOthers.setCell W ⟨w.heap.size, 0, none⟩ (.slice A1 n1 c1)).same D _ hK rfl
    have hD2 : D ≠ w.heap.size := by simp at hD; omega
    refine ⟨by simp, .inl ⟨_, _, rfl, run_takeDeferred hK2, ?_⟩⟩
    have hb3 : Boxed ((W.setCell ⟨w.heap.size, 0, none⟩ (.slice A1 n1 c1)).putObj D (.deferred none)) w.heap.size 26 (.slice A1 n1 c1) := (World.putObj_heap_other (Ne.symm hD2)).trans (HBX.out.set _)
    have hc3 := hb3.cell
    refine ⟨.slice A1 n1 c1, by simp [results, Tryd.results19, go_sem, hc3], ?_⟩
    exact ⟨_, rfl, R_putObj (Kd.R_set HRR.out HBX.out (by decide) 0 _) hK2 rfl _, (HBB.out.setCell (p := ⟨w.heap.size, 0, none⟩) (Nat.le_refl _) _).trans (belowK_b (w := w) (Nat.le_refl _) _ D _ _ (by simp at hD; omega) hK2 rfl rfl)⟩
  case stop =>
    rintro D c pre W _ _ h _
    exact h.elim
theorem headers_Parts.calls (A0 : Option Addr) (c0 : Nat) (l0 : List S28) (a1 : ByteArray) (r : List ByteArray) (w : World) (hr0 : Kd.C k28 w A0 l0.length l0) (hc0 : l0.length ≤ c0) (h : headers_Parts.f l0 a1 = some r) :
    Calls Tryd.prog 19 #[.slice A0 l0.length c0, .string a1] w fun e w' => ∃ v0_ : Value, e = .returned v0_ ∧ Kd.R Kd.string 9 w' w.heap.size (fun _ => True) v0_ r ∧ Below w.heap.size w w' := by
  unfold headers_Parts.f at h
  split at h
  · rename_i hok
    obtain rfl := Option.some.inj h
    exact Parts_ok A0 c0 l0 a1 w hr0 hc0 hok.1 (hdrsM hok.2)
  · cases h


/-! ### embedhdr_Xfo: function 13 -/
def xfoName : ByteArray := ⟨#[120, 45, 102, 114, 97, 109, 101, 45, 111, 112, 116, 105, 111, 110, 115]⟩
def wSame : ByteArray := ⟨#[115, 97, 109, 101, 111, 114, 105, 103, 105, 110]⟩
def wAll : ByteArray := ⟨#[97, 108, 108, 111, 119, 97, 108, 108]⟩
def wDeny : ByteArray := ⟨#[100, 101, 110, 121]⟩
def dedup (ws : List ByteArray) : List ByteArray := ws.foldl (fun acc x => if acc.any (fun y => decide (y = x)) then acc else acc ++ [x]) []
def xfoOf (ws : List ByteArray) : Int :=
  if ws.any (fun y => decide (y = wSame)) = true ∧ (dedup ws).length ≤ 1 then 2 else if ws.any (fun y => decide (y = wAll)) = true ∧ (dedup ws).length ≤ 1 then 3 else if (ws.any (fun y => decide (y = wSame)) || ws.any (fun y => decide (y = wAll)) || ws.any (fun y => decide (y = wDeny))) = true then 1 else 0
def embedhdr_Xfo.f (l0 : List S28) : Option Int := (headers_Parts.f l0 xfoName).bind fun ps => if ps.all (fun p => decide (p.size ≤ 281474976710656)) = true ∧ ps.length ≤ 4398046511000 then some (xfoOf (ps.map lowBA)) else none
def xKeys (ps : List ByteArray) : List Lit := ps.map (fun p => keyLit (lowBA p))
def xMap (ps : List ByteArray) : DataW Unit := Go.Maps.setOf (.lit (.bool true)) (xKeys ps)
theorem xMap_snoc (ps : List ByteArray) (p : ByteArray) : xMap (ps ++ [p]) = (xMap ps).put (keyLit (lowBA p)) (.lit (.bool true)) := by
  unfold xMap xKeys
  rw [List.map_append]
  exact Go.Maps.setOf_snoc _ _ _
theorem xKeys_is (ps : List ByteArray) : ∀ x ∈ xKeys ps, WideAt.IsKeyLit x := by
  intro x hx
  obtain ⟨p, _, rfl⟩ := List.mem_map.1 hx
  exact keyLit_is _
theorem xMap_at (ps : List ByteArray) (s : ByteArray) : (xMap ps).atKey (keyLit s) (.lit (.bool false)) = .lit (.bool ((ps.map lowBA).any (fun y => decide (y = s)))) := by
  suffices h : ∀ qs : List ByteArray, (xMap qs.reverse).atKey (keyLit s) (.lit (.bool false)) = .lit (.bool ((qs.reverse.map lowBA).any (fun y => decide (y = s)))) by
    have := h ps.reverse
    rwa [List.reverse_reverse] at this
  intro qs
  induction qs with
  | nil => rfl
  | cons q qs ih =>
    rw [List.reverse_cons, xMap_snoc, List.map_append, List.any_append]
    by_cases hq : lowBA q = s
    · subst hq
      unfold xMap
      rw [Go.Maps.atKey_put_same (Go.Maps.tidy_setOf _ _ (xKeys_is _)).isMap (keyLit_is _)]
      simp
    · rw [Go.Maps.atKey_put_other (fun e => hq (keyLit_inj e.symm)), ih]
      simp [hq]
theorem sameKey_keyLit (s t : ByteArray) : (keyLit s).sameKey (keyLit t) = decide (s = t) := by
  by_cases h : s = t
  · subst h
    rw [WideAt.sameKey_self (keyLit_is _)]
    simp
  · rw [Go.Maps.sameKey_ne (fun e => h (keyLit_inj e))]
    simp [h]
theorem xMap_size (ps : List ByteArray) : Go.Maps.size (xMap ps) = (dedup (ps.map lowBA)).length := by
  unfold xMap
  rw [Go.Maps.size_setOf _ _ (xKeys_is ps)]
  suffices h : ∀ (qs acc : List ByteArray), ((qs.map (fun p => keyLit (lowBA p))).foldl Go.Maps.addKey (acc.map keyLit)) = ((qs.map lowBA).foldl (fun acc x => if acc.any (fun y => decide (y = x)) then acc else acc ++ [x]) acc).map keyLit by
    have := h ps []
    unfold xKeys dedup
    rw [List.map_nil] at this
    rw [this, List.length_map]
  intro qs
  induction qs with
  | nil => intro acc; rfl
  | cons q qs ih =>
    intro acc
    simp only [List.map_cons, List.foldl_cons]
    rw [← ih]
    congr 1
    unfold Go.Maps.addKey
    rw [List.any_map]
    have e : ((fun y => y.sameKey (keyLit (lowBA q))) ∘ keyLit) = fun y => decide (y = lowBA q) := by
      funext y
      exact sameKey_keyLit _ _
    rw [e]
    split <;> simp
theorem plainElem_bool_inv {H : Type} {P : Program} {e : TypeId} (he : P.underlying e = some .bool) {v : Value} {z : DataW H × List MemPlace} (h : plainElem P e v = some z) : ∃ x, v = .bool x ∧ z = (.lit (.bool x), []) := by
  unfold plainElem at h
  rw [he] at h
  cases v <;> simp at h
  exact ⟨_, rfl, h.symm⟩
theorem lookup_own_bool {H : Type} {P : Program} (w : World) {ops : Array Oper} {rest : List Oper} {o : Oper} {a : Act} {Q : Exit → Act → World → Prop}
    (hg : o.guard = none) (m x : Operand) (t : TypeId) (hop : o.op = Op.lookup t m x false)
    (k e : TypeId) (K : Go.Maps.Keyed P k) (ht : P.underlying t = some (.map k e)) (he : P.underlying e = some .bool) (hz : (zeroValue e).run P w = .ok (.bool false) w) (b n : Nat) (D : DataW H)
    (hm : a.eval m = .map (some b)) (hown : w.ownsMap P k (plainElem P e) b n D) (key : Value) (kl : Lit) (hx : a.eval x = key) (hkey : keyOf P k key = some kl) (r : Bool) (hat : D.atKey kl (.lit (.bool false)) = .lit (.bool r))
    (hK : wpList P ops Q rest (a.put o.dst (.bool r)) w) :
    wpList P ops Q (o :: rest) a w := by
  refine wpList_plain hg fun K' hK' => ?_
  obtain ⟨v, ps, hrun, hv⟩ := hown.lookup K ht hz (plainElem_bool he false) hkey
  obtain ⟨c, rfl, hc⟩ := plainElem_bool_inv he hv
  rw [hat] at hc
  simp only [Prod.mk.injEq, DataW.lit.injEq, Lit.bool.injEq] at hc
  obtain ⟨rfl, _⟩ := hc
  unfold Oper.wp
  simp [execOp, hop, hm, hx, hrun, Result.andThen]
  exact hK' _ _ hK
theorem low_size (s : ByteArray) : (lowBA s).size = s.size := by
  unfold lowBA
  rw [strOfNums_size, List.length_map, bytesOf_length]
/-- Between two rounds. -/
def XRel (w : World) (v : Value) (ps : List ByteArray) (v11 : Value) (wr : World) : Prop :=
  ∃ k : Nat, k ≤ ps.length ∧ v11 = .int .i64 k ∧ wr.ownsMap Tryd.prog 9 (plainElem Tryd.prog 4) w.heap.size k (xMap (ps.take k)) ∧ Below w.heap.size w wr ∧ Kd.R Kd.string 9 wr (w.heap.size + 1) (fun k => k ≠ w.heap.size) v ps
set_option maxHeartbeats 2000000 in
set_option maxRecDepth 100000 in
theorem Xfo_ok (A0 : Option Addr) (c0 : Nat) (l0 : List S28) (ps : List ByteArray) (w : World) (hr0 : Kd.C k28 w A0 l0.length l0) (hc0 : l0.length ≤ c0) (hP : headers_Parts.f l0 xfoName = some ps) (hsz : ∀ p ∈ ps, p.size ≤ 281474976710656) (hlen : ps.length ≤ 4398046511000) :
    Calls Tryd.prog 13 #[.slice A0 l0.length c0] w fun e w' => e = .returned (.int .i64 (xfoOf (ps.map lowBA))) ∧ Below w.heap.size w w' := by
  have hCP := headers_Parts.calls A0 c0 l0 xfoName ps (w.alloc (.map #[] 0)) (Kd.C_below hr0 (below_alloc (Below.refl _ _) _)) hc0 hP
  have HC := Aside0.mk hCP
  clear hr0 hc0 hP hCP
  have hmm := @run_makeMap Tryd.prog
  have kd : ∀ s : ByteArray, s.size ≤ 281474976710656 → keyOf Tryd.prog 9 (.string s) = some (keyLit s) := fun s hs => WideMaps.keyOf_string_mk Tryd.underlying9 (by unfold maxLen; omega)
  have zE : ∀ W, (zeroValue 4).run Tryd.prog W = .ok (.bool false) W := fun W => by kernel_rfl
  have HL := Aside0.mk (fun v (hv : v.size ≤ 281474976710656) W2 => octet_Lower.calls v (lowBA v) W2 (by unfold octet_Lower.f; exact if_pos hv))
  have HS := Aside0.mk hsz
  clear hsz
  obtain ⟨r, hr⟩ : ∃ r, xfoOf (ps.map lowBA) = r := ⟨_, rfl⟩
  rw [hr]
  have HX := Aside0.mk hr
  clear hr
  go_enter Tryd.func13, Tryd.ntmps13
  go_wp2_with (first | (go_at_call 19; refine HC.out.mono ?_; rintro e w1 ⟨v0, rfl, hR1, hb1⟩; obtain ⟨A1, c1, hv1, hc1, _⟩ := Kd.R_reads hR1; subst hv1))
  have hown1 := World.ownsMap.kept (World.ownsMap_made (H := Unit) w Tryd.prog 9 (plainElem Tryd.prog 4)) (grown_of_below hb1 none) (by simp)
  have hbw1 : Below w.heap.size w w1 := (below_alloc (Below.refl _ w) (.map #[] 0)).trans (hb1.mono (by simp))
  have hR2 := Kd.R_mono (Kd.R_bound hR1) (ok' := fun k => k ≠ w.heap.size) (fun k hk => by have := hk.2.1; simp at this; omega)
  have HO1 := Aside0.mk hown1
  have HB1 := Aside0.mk hbw1
  have HR2 := Aside0.mk hR2
  clear hown1 hbw1 hR2 hR1 hb1 HC
  go_loopw [11] (fun v11 wr => XRel w (.slice A1 ps.length c1) ps v11 wr) (fun v11 _ => ps.length - (intOf v11).toNat)
  case atStart => exact ⟨0, Nat.zero_le _, rfl, HO1.out, HB1.out, by simpa using HR2.out⟩
  case round =>
    clear HO1 HB1 HR2
    obtain ⟨k, hk, rfl, hown, hbw, hR⟩ := hrel
    obtain ⟨_, _, hC⟩ := Kd.R_reads' hR
    by_cases hlt : k < ps.length
    · obtain ⟨ad, c, hA, _, hK, hc⟩ := Kd.C_get hC (⟨#[]⟩ : ByteArray) (k : Int) (by omega) (by omega)
      subst hA
      have hgd : ps.getD k (⟨#[]⟩ : ByteArray) = ps[k] := by rw [List.getD_eq_getElem?_getD, List.getElem?_eq_getElem hlt]; rfl
      have hps := HS.out ps[k] (List.getElem_mem hlt)
      have htk : ps.take (k + 1) = ps.take k ++ [ps[k]] := List.take_succ_eq_append_getElem hlt
      simp only [Int.toNat_natCast, hgd] at hK
      generalize ps[k] = p at *
      obtain rfl : c = [.string p] := hK
      have hx := hc 0 _ rfl
      replace hx : wr.cell? (ad.add k) = some (.string p) := by simpa [show (Kd.string).sz = 1 from rfl] using hx
      have hlp : (lowBA p).size ≤ 281474976710656 := by rw [low_size]; exact hps
      have HOW := Aside0.mk hown
      have HBW := Aside0.mk hbw
      have HRR := Aside0.mk hR
      have HTK := Aside0.mk htk
      clear hown hbw hR hC hc htk hgd
      generalize hlo : lowBA p = lp at *
      have HLO := Aside0.mk hlo
      clear hlo
      go_wp2_with (first | (go_at_call 16; refine (HL.out p hps _).mono ?_; rintro e w3 ⟨rfl, hb3⟩; have hown3 := World.ownsMap.kept HOW.out (grown_of_below hb3 none) (by simp)) | (at_mapUpdate; refine wpList_mapUpdate_own _ rfl _ _ _ 39 rfl 9 4 (Go.Maps.string_keyed Tryd.underlying9) Tryd.underlying39 _ _ _ _ rfl hown3 (by unfold maxLen; omega) _ _ _ rfl rfl (kd _ (by rw [HLO.out]; exact hlp)) _ [] (plainElem_bool Tryd.underlying4 true) ?_; intro w4 hown4 hgrow4))
      go_roundw
      case rel => exact ⟨k + 1, by omega, by go_num, by rw [HTK.out, xMap_snoc]; exact hown4, below_grown (HBW.out.trans (hb3.mono HBW.out.size)) hgrow4 (Nat.le_refl _) (Nat.le_trans HBW.out.size hb3.size), Kd.R_grown (Kd.R_below HRR.out hb3) hgrow4 (fun k hk e => hk (by injection e))⟩
      case measure => simp [intOf]; omega
    · obtain rfl : k = ps.length := by omega
      rw [List.take_length] at hown
      have e1 := xMap_at ps wSame
      have e2 := xMap_at ps wAll
      have e3 := xMap_at ps wDeny
      have e4 := xMap_size ps
      have hr := HX.out
      unfold xfoOf at hr
      generalize xMap ps = D at *
      generalize (ps.map lowBA).any (fun y => decide (y = wSame)) = b1 at *
      generalize (ps.map lowBA).any (fun y => decide (y = wAll)) = b2 at *
      generalize (ps.map lowBA).any (fun y => decide (y = wDeny)) = b3 at *
      generalize (dedup (ps.map lowBA)).length = n at *
      have HOW := Aside0.mk hown
      have HBW := Aside0.mk hbw
      have E4 := Aside0.mk e4
      have E1 := Aside0.mk e1
      have E2 := Aside0.mk e2
      have E3 := Aside0.mk e3
      clear hown hbw hR hC e1 e2 e3 e4 HX
      by_cases hn : n ≤ 1
      · have hn2 : ¬ (1 : Int) < (n : Int) := by omega
        have hn3 : decide ((1 : Int) < (n : Int)) = false := by simp; omega
        rcases b1 with _ | _ <;> rcases b2 with _ | _ <;> rcases b3 with _ | _ <;> simp [hn] at hr <;> subst hr
        all_goals go_wp2_with (first | (at_len; refine wpList_len_own _ rfl _ 39 rfl 9 4 Tryd.underlying39 _ _ _ D rfl HOW.out ?_; rw [E4.out]) | (at_lookup; refine lookup_own_bool _ rfl _ _ 39 rfl 9 4 (Go.Maps.string_keyed Tryd.underlying9) Tryd.underlying39 Tryd.underlying4 (zE _) _ _ D rfl HOW.out (.string wSame) (keyLit wSame) rfl (kd _ (by decide)) _ E1.out ?_) | (at_lookup; refine lookup_own_bool _ rfl _ _ 39 rfl 9 4 (Go.Maps.string_keyed Tryd.underlying9) Tryd.underlying39 Tryd.underlying4 (zE _) _ _ D rfl HOW.out (.string wAll) (keyLit wAll) rfl (kd _ (by decide)) _ E2.out ?_) | (at_lookup; refine lookup_own_bool _ rfl _ _ 39 rfl 9 4 (Go.Maps.string_keyed Tryd.underlying9) Tryd.underlying39 Tryd.underlying4 (zE _) _ _ D rfl HOW.out (.string wDeny) (keyLit wDeny) rfl (kd _ (by decide)) _ E3.out ?_))
        all_goals (go_ret; exact ⟨rfl, HBW.out⟩)
      · have hn2 : (1 : Int) < (n : Int) := by omega
        rcases b1 with _ | _ <;> rcases b2 with _ | _ <;> rcases b3 with _ | _ <;> simp [hn] at hr <;> subst hr
        all_goals go_wp2_with (first | (at_len; refine wpList_len_own _ rfl _ 39 rfl 9 4 Tryd.underlying39 _ _ _ D rfl HOW.out ?_; rw [E4.out]) | (at_lookup; refine lookup_own_bool _ rfl _ _ 39 rfl 9 4 (Go.Maps.string_keyed Tryd.underlying9) Tryd.underlying39 Tryd.underlying4 (zE _) _ _ D rfl HOW.out (.string wSame) (keyLit wSame) rfl (kd _ (by decide)) _ E1.out ?_) | (at_lookup; refine lookup_own_bool _ rfl _ _ 39 rfl 9 4 (Go.Maps.string_keyed Tryd.underlying9) Tryd.underlying39 Tryd.underlying4 (zE _) _ _ D rfl HOW.out (.string wAll) (keyLit wAll) rfl (kd _ (by decide)) _ E2.out ?_) | (at_lookup; refine lookup_own_bool _ rfl _ _ 39 rfl 9 4 (Go.Maps.string_keyed Tryd.underlying9) Tryd.underlying39 Tryd.underlying4 (zE _) _ _ D rfl HOW.out (.string wDeny) (keyLit wDeny) rfl (kd _ (by decide)) _ E3.out ?_))
        all_goals (go_ret; exact ⟨rfl, HBW.out⟩)
theorem embedhdr_Xfo.calls (A0 : Option Addr) (c0 : Nat) (l0 : List S28) (r : Int) (w : World) (hr0 : Kd.C k28 w A0 l0.length l0) (hc0 : l0.length ≤ c0) (h : embedhdr_Xfo.f l0 = some r) :
    Calls Tryd.prog 13 #[.slice A0 l0.length c0] w fun e w' => e = .returned (.int .i64 r) ∧ Below w.heap.size w w' := by
  unfold embedhdr_Xfo.f at h
  obtain ⟨ps, hP, h⟩ := Option.bind_eq_some_iff.mp h
  split at h
  · rename_i hs
    obtain rfl := Option.some.inj h
    exact Xfo_ok A0 c0 l0 ps w hr0 hc0 hP (by simpa using hs.1) hs.2
  · cases h


/-! ### glacislaw09_xfo: function 15 -/
def glacislaw09_xfo.f (a0 : ByteArray) : Option (ByteArray × ByteArray) := some ((⟨#[88, 45, 70, 114, 97, 109, 101, 45, 79, 112, 116, 105, 111, 110, 115]⟩ : ByteArray), a0)
set_option maxHeartbeats 8000000 in
set_option maxRecDepth 100000 in
theorem glacislaw09_xfo.calls (a0 : ByteArray) (r1 : ByteArray) (r2 : ByteArray) (w : World) (h : glacislaw09_xfo.f a0 = some (r1, r2)) :
    Calls Tryd.prog 15 #[.string a0] w fun e w' => e = .returned (.agg #[.string r1, .string r2]) ∧ Below w.heap.size w w' := by
  have hu28 := Tryd.underlying28
  have HB := Aside0.mk (Below.refl w.heap.size w)
  have H : (some ((⟨#[88, 45, 70, 114, 97, 109, 101, 45, 79, 112, 116, 105, 111, 110, 115]⟩ : ByteArray), a0)) = some (r1, r2) := h
  clear h
  simp only [Option.some.injEq, Prod.mk.injEq] at H
  obtain ⟨rfl, rfl⟩ := H
  go_enter Tryd.func15, Tryd.ntmps15
  go_wp2_with (first | ((with_reducible refine gate_dst (N := 2) rfl ?_); refine box_event ?hg (N := 2) ?hd (cs := #[.string (⟨#[]⟩ : ByteArray), .string (⟨#[]⟩ : ByteArray)]) (t := 28) ?hr ?_; (case hd => rfl); (case hg => rfl); (case hr => first | (go_simp; done) | (go_simp; rfl)); intro gb107 hg w2 hbox hb; have n0_ := Aside0.mk (below_step (by repeat (first | (with_reducible first | exact HB.out | apply below_alloc | apply pw_below_drewN | apply below_drew1) | exact HB.out)) hb); have n1_ := Aside0.mk (hbox); have n2_ := Aside0.mk ((by rw [hg]; exact (below_size (by repeat (first | (with_reducible first | exact HB.out | apply below_alloc | apply pw_below_drewN | apply below_drew1) | exact HB.out))) : w.heap.size ≤ gb107)); have n3_ := Aside0.mk ((by rw [hg]; exact (below_size (by repeat (first | (with_reducible first | exact HB.out | apply below_alloc | apply pw_below_drewN | apply below_drew1) | exact HB.out))) : w.heap.size ≤ gb107)); clear HB; have HB := n0_; have BK107 := n1_; have GW107 := n2_; have GE107 := n3_; clear n0_ n1_ n2_ n3_; clear hb hbox hg; have hcz3_0 : w2.cell? ⟨gb107, 0, none⟩ = some (.string (⟨#[]⟩ : ByteArray)) := (blk_cell BK107.out 0).trans rfl; have hcz3_1 : w2.cell? ⟨gb107, 1, none⟩ = some (.string (⟨#[]⟩ : ByteArray)) := (blk_cell BK107.out 1).trans rfl; have hfz3_0 := blk_frozen BK107.out 0; have hfz3_1 := blk_frozen BK107.out 1))
  refine bodyPost_ret (results_cell_row rfl _ _ gb107 28 #[.string (⟨#[88, 45, 70, 114, 97, 109, 101, 45, 79, 112, 116, 105, 111, 110, 115]⟩ : ByteArray), .string a0] (0, 0) _ rfl (by (with_reducible repeat (first | refine blk_drewN ?_ _ | refine blk_drew ?_ | refine blk_alloc ?_ _)); refine blk_put (cs := #[.string (⟨#[88, 45, 70, 114, 97, 109, 101, 45, 79, 112, 116, 105, 111, 110, 115]⟩ : ByteArray), .string (⟨#[]⟩ : ByteArray)]) ?_ 1 _ rfl; (with_reducible repeat (first | refine blk_drewN ?_ _ | refine blk_drew ?_ | refine blk_alloc ?_ _)); refine blk_put (cs := #[.string (⟨#[]⟩ : ByteArray), .string (⟨#[]⟩ : ByteArray)]) ?_ 0 _ rfl; (with_reducible repeat (first | refine blk_drewN ?_ _ | refine blk_drew ?_ | refine blk_alloc ?_ _)); exact BK107.out) Tryd.underlying28 rfl (by kernel_rfl)) rfl ?_
  exact ⟨by first | rfl | (simp [errW_none, errW_some] <;> rfl) | (simp [*, errW_none, errW_some] <;> rfl) | (simp [q_ne_nil]; done), by repeat (first | (with_reducible first | exact HB.out | apply below_alloc | apply pw_below_drewN | apply below_drew1 | refine below_set ?_ GE107.out) | exact HB.out)⟩

/-! ### glacislaw09_corp: function 18 -/
def glacislaw09_corp.f (a0 : ByteArray) : Option (ByteArray × ByteArray) := some ((⟨#[99, 114, 111, 115, 115, 45, 111, 114, 105, 103, 105, 110, 45, 114, 101, 115, 111, 117, 114, 99, 101, 45, 112, 111, 108, 105, 99, 121]⟩ : ByteArray), a0)
set_option maxHeartbeats 8000000 in
set_option maxRecDepth 100000 in
theorem glacislaw09_corp.calls (a0 : ByteArray) (r1 : ByteArray) (r2 : ByteArray) (w : World) (h : glacislaw09_corp.f a0 = some (r1, r2)) :
    Calls Tryd.prog 18 #[.string a0] w fun e w' => e = .returned (.agg #[.string r1, .string r2]) ∧ Below w.heap.size w w' := by
  have hu28 := Tryd.underlying28
  have HB := Aside0.mk (Below.refl w.heap.size w)
  have H : (some ((⟨#[99, 114, 111, 115, 115, 45, 111, 114, 105, 103, 105, 110, 45, 114, 101, 115, 111, 117, 114, 99, 101, 45, 112, 111, 108, 105, 99, 121]⟩ : ByteArray), a0)) = some (r1, r2) := h
  clear h
  simp only [Option.some.injEq, Prod.mk.injEq] at H
  obtain ⟨rfl, rfl⟩ := H
  go_enter Tryd.func18, Tryd.ntmps18
  go_wp2_with (first | ((with_reducible refine gate_dst (N := 2) rfl ?_); refine box_event ?hg (N := 2) ?hd (cs := #[.string (⟨#[]⟩ : ByteArray), .string (⟨#[]⟩ : ByteArray)]) (t := 28) ?hr ?_; (case hd => rfl); (case hg => rfl); (case hr => first | (go_simp; done) | (go_simp; rfl)); intro gb108 hg w2 hbox hb; have n0_ := Aside0.mk (below_step (by repeat (first | (with_reducible first | exact HB.out | apply below_alloc | apply pw_below_drewN | apply below_drew1) | exact HB.out)) hb); have n1_ := Aside0.mk (hbox); have n2_ := Aside0.mk ((by rw [hg]; exact (below_size (by repeat (first | (with_reducible first | exact HB.out | apply below_alloc | apply pw_below_drewN | apply below_drew1) | exact HB.out))) : w.heap.size ≤ gb108)); have n3_ := Aside0.mk ((by rw [hg]; exact (below_size (by repeat (first | (with_reducible first | exact HB.out | apply below_alloc | apply pw_below_drewN | apply below_drew1) | exact HB.out))) : w.heap.size ≤ gb108)); clear HB; have HB := n0_; have BK108 := n1_; have GW108 := n2_; have GE108 := n3_; clear n0_ n1_ n2_ n3_; clear hb hbox hg; have hcz3_0 : w2.cell? ⟨gb108, 0, none⟩ = some (.string (⟨#[]⟩ : ByteArray)) := (blk_cell BK108.out 0).trans rfl; have hcz3_1 : w2.cell? ⟨gb108, 1, none⟩ = some (.string (⟨#[]⟩ : ByteArray)) := (blk_cell BK108.out 1).trans rfl; have hfz3_0 := blk_frozen BK108.out 0; have hfz3_1 := blk_frozen BK108.out 1))
  refine bodyPost_ret (results_cell_row rfl _ _ gb108 28 #[.string (⟨#[99, 114, 111, 115, 115, 45, 111, 114, 105, 103, 105, 110, 45, 114, 101, 115, 111, 117, 114, 99, 101, 45, 112, 111, 108, 105, 99, 121]⟩ : ByteArray), .string a0] (0, 0) _ rfl (by (with_reducible repeat (first | refine blk_drewN ?_ _ | refine blk_drew ?_ | refine blk_alloc ?_ _)); refine blk_put (cs := #[.string (⟨#[99, 114, 111, 115, 115, 45, 111, 114, 105, 103, 105, 110, 45, 114, 101, 115, 111, 117, 114, 99, 101, 45, 112, 111, 108, 105, 99, 121]⟩ : ByteArray), .string (⟨#[]⟩ : ByteArray)]) ?_ 1 _ rfl; (with_reducible repeat (first | refine blk_drewN ?_ _ | refine blk_drew ?_ | refine blk_alloc ?_ _)); refine blk_put (cs := #[.string (⟨#[]⟩ : ByteArray), .string (⟨#[]⟩ : ByteArray)]) ?_ 0 _ rfl; (with_reducible repeat (first | refine blk_drewN ?_ _ | refine blk_drew ?_ | refine blk_alloc ?_ _)); exact BK108.out) Tryd.underlying28 rfl (by kernel_rfl)) rfl ?_
  exact ⟨by first | rfl | (simp [errW_none, errW_some] <;> rfl) | (simp [*, errW_none, errW_some] <;> rfl) | (simp [q_ne_nil]; done), by repeat (first | (with_reducible first | exact HB.out | apply below_alloc | apply pw_below_drewN | apply below_drew1 | refine below_set ?_ GE108.out) | exact HB.out)⟩

end Go.Proofs.YtbhokhidlgkakaaDoor.B
