-- Laid by this seat's own driver (wip/tools/drive.py) out of the translation.
import Derived.Test.YtabjpoapnbkljaaDoorQx0
import Derived.Test.YtabjpoapnbkljaaDoorQx3
import Derived.Test.YtabjpoapnbkljaaDoorQx5
namespace Go.Proofs.YtabjpoapnbkljaaDoor.Q
open Go.RowKit Go.Proofs.YtabjpoapnbkljaaDoorW.PrintWords Go.Proofs.YtabjpoapnbkljaaDoorW.PrintLast Go.Proofs.YtabjpoapnbkljaaDoorW.PrintMore
attribute [local go_sem] max2_int min2_int max_two min_two max_three min_three max_four min_four   -- for this text's walks alone
set_option linter.unusedVariables false
set_option linter.unusedSimpArgs false

/-! ### urlp_Net: function 30 -/
def urlp_Net.f (a0_0 : ByteArray) (a0_1 : ByteArray) (a0_2 : Bool) (a0_3 : Int) (a0_4 : Int) (a0_5 : ByteArray) (a0_6 : Bool) (a0_7 : ByteArray) (a0_8 : ByteArray) : Option (Bool) := if a0_0.toList = ([104, 116, 116, 112] : List UInt8) then (some true) else (some (a0_0.toList == ([104, 116, 116, 112, 115] : List UInt8)))
set_option maxHeartbeats 8000000 in
set_option maxRecDepth 100000 in
theorem urlp_Net.calls (a0_0 : ByteArray) (a0_1 : ByteArray) (a0_2 : Bool) (a0_3 : Int) (a0_4 : Int) (a0_5 : ByteArray) (a0_6 : Bool) (a0_7 : ByteArray) (a0_8 : ByteArray) (r : Bool) (w : World) (h : urlp_Net.f a0_0 a0_1 a0_2 a0_3 a0_4 a0_5 a0_6 a0_7 a0_8 = some r) :
    Calls Tryd.prog 30 #[.agg #[.string a0_0, .string a0_1, .bool a0_2, .int .u32 a0_3, .int .i64 a0_4, .string a0_5, .bool a0_6, .string a0_7, .string a0_8]] w fun e w' => e = .returned (.bool r) ∧ Below w.heap.size w w' := by
  have hu42 := Tryd.underlying42
  have HB := Aside0.mk (Below.refl w.heap.size w)
  have H : (if a0_0.toList = ([104, 116, 116, 112] : List UInt8) then (some true) else (some (a0_0.toList == ([104, 116, 116, 112, 115] : List UInt8)))) = some r := h
  clear h
  by_cases c2 : a0_0.toList = ([104, 116, 116, 112] : List UInt8)
  · rw [if_pos c2] at H
    have c2b0 : (a0_0.toList == ([104, 116, 116, 112] : List UInt8)) = true := beq_iff_eq.mpr c2
    have c2b1 : (a0_0.toList != ([104, 116, 116, 112] : List UInt8)) = false := bne_eq_false_iff_eq.mpr c2
    clear c2
    obtain rfl := Option.some.inj H
    go_enter Tryd.func30, Tryd.ntmps30
    go_wp2_with (first | ((with_reducible refine gate_dst (N := 1) rfl ?_); refine box_event ?hg (N := 1) ?hd (cs := #[.string a0_0, .string a0_1, .bool a0_2, .int .u32 a0_3, .int .i64 a0_4, .string a0_5, .bool a0_6, .string a0_7, .string a0_8]) (t := 42) ?hr ?_; (case hd => rfl); (case hg => rfl); (case hr => first | (go_simp; done) | (go_simp; rfl)); intro gb142 hg w3 hbox hb; have n0_ := Aside0.mk (below_step (by repeat (first | (with_reducible first | exact HB.out | apply below_alloc | apply pw_below_drewN | apply below_drew1) | exact HB.out)) hb); have n1_ := Aside0.mk (hbox); have n2_ := Aside0.mk ((by rw [hg]; exact (below_size (by repeat (first | (with_reducible first | exact HB.out | apply below_alloc | apply pw_below_drewN | apply below_drew1) | exact HB.out))) : w.heap.size ≤ gb142)); have n3_ := Aside0.mk ((by rw [hg]; exact (below_size (by repeat (first | (with_reducible first | exact HB.out | apply below_alloc | apply pw_below_drewN | apply below_drew1) | exact HB.out))) : w.heap.size ≤ gb142)); clear HB; have HB := n0_; have BK142 := n1_; have GW142 := n2_; have GE142 := n3_; clear n0_ n1_ n2_ n3_; clear hb hbox hg; have hcz4_0 : w3.cell? ⟨gb142, 0, none⟩ = some (.string a0_0) := (blk_cell BK142.out 0).trans rfl; have hcz4_1 : w3.cell? ⟨gb142, 1, none⟩ = some (.string a0_1) := (blk_cell BK142.out 1).trans rfl; have hcz4_2 : w3.cell? ⟨gb142, 2, none⟩ = some (.bool a0_2) := (blk_cell BK142.out 2).trans rfl; have hcz4_3 : w3.cell? ⟨gb142, 3, none⟩ = some (.int .u32 a0_3) := (blk_cell BK142.out 3).trans rfl; have hcz4_4 : w3.cell? ⟨gb142, 4, none⟩ = some (.int .i64 a0_4) := (blk_cell BK142.out 4).trans rfl; have hcz4_5 : w3.cell? ⟨gb142, 5, none⟩ = some (.string a0_5) := (blk_cell BK142.out 5).trans rfl; have hcz4_6 : w3.cell? ⟨gb142, 6, none⟩ = some (.bool a0_6) := (blk_cell BK142.out 6).trans rfl; have hcz4_7 : w3.cell? ⟨gb142, 7, none⟩ = some (.string a0_7) := (blk_cell BK142.out 7).trans rfl; have hcz4_8 : w3.cell? ⟨gb142, 8, none⟩ = some (.string a0_8) := (blk_cell BK142.out 8).trans rfl; have hfz4_0 := blk_frozen BK142.out 0; have hfz4_1 := blk_frozen BK142.out 1; have hfz4_2 := blk_frozen BK142.out 2; have hfz4_3 := blk_frozen BK142.out 3; have hfz4_4 := blk_frozen BK142.out 4; have hfz4_5 := blk_frozen BK142.out 5; have hfz4_6 := blk_frozen BK142.out 6; have hfz4_7 := blk_frozen BK142.out 7; have hfz4_8 := blk_frozen BK142.out 8))
    go_ret
    exact ⟨by first | rfl | (simp [errW_none, errW_some] <;> rfl) | (simp [*, errW_none, errW_some] <;> rfl) | (simp [q_ne_nil]; done), by repeat (first | (with_reducible first | exact HB.out | apply below_alloc | apply pw_below_drewN | apply below_drew1 | refine below_set ?_ GE142.out) | exact HB.out)⟩
  · rw [if_neg c2] at H
    have c2b0 : (a0_0.toList == ([104, 116, 116, 112] : List UInt8)) = false := beq_eq_false_iff_ne.mpr c2
    have c2b1 : (a0_0.toList != ([104, 116, 116, 112] : List UInt8)) = true := bne_iff_ne.mpr c2
    obtain rfl := Option.some.inj H
    go_enter Tryd.func30, Tryd.ntmps30
    go_wp2_with (first | ((with_reducible refine gate_dst (N := 1) rfl ?_); refine box_event ?hg (N := 1) ?hd (cs := #[.string a0_0, .string a0_1, .bool a0_2, .int .u32 a0_3, .int .i64 a0_4, .string a0_5, .bool a0_6, .string a0_7, .string a0_8]) (t := 42) ?hr ?_; (case hd => rfl); (case hg => rfl); (case hr => first | (go_simp; done) | (go_simp; rfl)); intro gb142 hg w5 hbox hb; have n0_ := Aside0.mk (below_step (by repeat (first | (with_reducible first | exact HB.out | apply below_alloc | apply pw_below_drewN | apply below_drew1) | exact HB.out)) hb); have n1_ := Aside0.mk (hbox); have n2_ := Aside0.mk ((by rw [hg]; exact (below_size (by repeat (first | (with_reducible first | exact HB.out | apply below_alloc | apply pw_below_drewN | apply below_drew1) | exact HB.out))) : w.heap.size ≤ gb142)); have n3_ := Aside0.mk ((by rw [hg]; exact (below_size (by repeat (first | (with_reducible first | exact HB.out | apply below_alloc | apply pw_below_drewN | apply below_drew1) | exact HB.out))) : w.heap.size ≤ gb142)); clear HB; have HB := n0_; have BK142 := n1_; have GW142 := n2_; have GE142 := n3_; clear n0_ n1_ n2_ n3_; clear hb hbox hg; have hcz6_0 : w5.cell? ⟨gb142, 0, none⟩ = some (.string a0_0) := (blk_cell BK142.out 0).trans rfl; have hcz6_1 : w5.cell? ⟨gb142, 1, none⟩ = some (.string a0_1) := (blk_cell BK142.out 1).trans rfl; have hcz6_2 : w5.cell? ⟨gb142, 2, none⟩ = some (.bool a0_2) := (blk_cell BK142.out 2).trans rfl; have hcz6_3 : w5.cell? ⟨gb142, 3, none⟩ = some (.int .u32 a0_3) := (blk_cell BK142.out 3).trans rfl; have hcz6_4 : w5.cell? ⟨gb142, 4, none⟩ = some (.int .i64 a0_4) := (blk_cell BK142.out 4).trans rfl; have hcz6_5 : w5.cell? ⟨gb142, 5, none⟩ = some (.string a0_5) := (blk_cell BK142.out 5).trans rfl; have hcz6_6 : w5.cell? ⟨gb142, 6, none⟩ = some (.bool a0_6) := (blk_cell BK142.out 6).trans rfl; have hcz6_7 : w5.cell? ⟨gb142, 7, none⟩ = some (.string a0_7) := (blk_cell BK142.out 7).trans rfl; have hcz6_8 : w5.cell? ⟨gb142, 8, none⟩ = some (.string a0_8) := (blk_cell BK142.out 8).trans rfl; have hfz6_0 := blk_frozen BK142.out 0; have hfz6_1 := blk_frozen BK142.out 1; have hfz6_2 := blk_frozen BK142.out 2; have hfz6_3 := blk_frozen BK142.out 3; have hfz6_4 := blk_frozen BK142.out 4; have hfz6_5 := blk_frozen BK142.out 5; have hfz6_6 := blk_frozen BK142.out 6; have hfz6_7 := blk_frozen BK142.out 7; have hfz6_8 := blk_frozen BK142.out 8))
    go_ret
    exact ⟨by first | rfl | (simp [errW_none, errW_some] <;> rfl) | (simp [*, errW_none, errW_some] <;> rfl) | (simp [q_ne_nil]; done), by repeat (first | (with_reducible first | exact HB.out | apply below_alloc | apply pw_below_drewN | apply below_drew1 | refine below_set ?_ GE142.out) | exact HB.out)⟩

/-! ### origin_own: function 31 -/
set_option maxHeartbeats 2000000 in
set_option maxRecDepth 100000 in
theorem own_map (w : World) :
    Calls Tryd.prog 31 #[] w fun e w' => e = .returned (.map (some w.heap.size)) ∧ w'.ownsMap Tryd.prog 9 (plainElem Tryd.prog 3) w.heap.size 2 ownD ∧ Below w.heap.size w w' := by
  have hmm := @run_makeMap Tryd.prog
  have kd : ∀ s : ByteArray, s.size ≤ 281474976710656 → keyOf Tryd.prog 9 (.string s) = some (keyP s) := fun s hs => WideMaps.keyOf_string_mk Tryd.underlying9 (by unfold maxLen; omega)
  have hown := World.ownsMap_made (H := Unit) w Tryd.prog 9 (plainElem Tryd.prog 3)
  have hbw := below_alloc (Below.refl w.heap.size w) (.map #[] 0)
  have hsz : w.heap.size < (w.alloc (.map #[] 0)).heap.size := by simp
  go_enter Tryd.func31, Tryd.ntmps31
  go_wp2_with (first | (refine insert_ownP _ rfl _ _ _ 51 rfl 9 3 (Go.Maps.string_keyed Tryd.underlying9) Tryd.underlying51 _ _ _ _ rfl hown (by unfold maxLen; omega) _ _ _ rfl rfl (kd _ (by decide)) _ [] (plainElem_int Tryd.underlying3 (by decide)) ?_; intro w2 hown2 hgrow2; replace hbw := below_grownP hbw hgrow2 (Nat.le_refl _) (by omega); replace hsz := Nat.lt_of_lt_of_le hsz hgrow2.size; replace hown := hown2; clear hown2 hgrow2))
  go_ret
  exact ⟨rfl, hown, hbw⟩


/-! ### origin_Of: function 22 -/
theorem fill7 {W : World} {b : Nat} {t : TypeId} {o0 o1 o2 o3 o4 o5 o6 : Value} (v0 v1 v2 v3 v4 v5 v6 : Value) (h : W.heap[b]? = some (.cells #[o0, o1, o2, o3, o4, o5, o6] t (0, 0))) : (((((((W.setCell ⟨b, 0, none⟩ v0).setCell ⟨b, 1, none⟩ v1).setCell ⟨b, 2, none⟩ v2).setCell ⟨b, 3, none⟩ v3).setCell ⟨b, 4, none⟩ v4).setCell ⟨b, 5, none⟩ v5).setCell ⟨b, 6, none⟩ v6).heap[b]? = some (.cells #[v0, v1, v2, v3, v4, v5, v6] t (0, 0)) := by
  have h0 : (W.setCell ⟨b, 0, none⟩ v0).heap[b]? = some (.cells #[v0, o1, o2, o3, o4, o5, o6] t (0, 0)) := blk_set h 0 v0
  have h1 : ((W.setCell ⟨b, 0, none⟩ v0).setCell ⟨b, 1, none⟩ v1).heap[b]? = some (.cells #[v0, v1, o2, o3, o4, o5, o6] t (0, 0)) := blk_set h0 1 v1
  have h2 : (((W.setCell ⟨b, 0, none⟩ v0).setCell ⟨b, 1, none⟩ v1).setCell ⟨b, 2, none⟩ v2).heap[b]? = some (.cells #[v0, v1, v2, o3, o4, o5, o6] t (0, 0)) := blk_set h1 2 v2
  have h3 : ((((W.setCell ⟨b, 0, none⟩ v0).setCell ⟨b, 1, none⟩ v1).setCell ⟨b, 2, none⟩ v2).setCell ⟨b, 3, none⟩ v3).heap[b]? = some (.cells #[v0, v1, v2, v3, o4, o5, o6] t (0, 0)) := blk_set h2 3 v3
  have h4 : (((((W.setCell ⟨b, 0, none⟩ v0).setCell ⟨b, 1, none⟩ v1).setCell ⟨b, 2, none⟩ v2).setCell ⟨b, 3, none⟩ v3).setCell ⟨b, 4, none⟩ v4).heap[b]? = some (.cells #[v0, v1, v2, v3, v4, o5, o6] t (0, 0)) := blk_set h3 4 v4
  have h5 : ((((((W.setCell ⟨b, 0, none⟩ v0).setCell ⟨b, 1, none⟩ v1).setCell ⟨b, 2, none⟩ v2).setCell ⟨b, 3, none⟩ v3).setCell ⟨b, 4, none⟩ v4).setCell ⟨b, 5, none⟩ v5).heap[b]? = some (.cells #[v0, v1, v2, v3, v4, v5, o6] t (0, 0)) := blk_set h4 5 v5
  have h6 : (((((((W.setCell ⟨b, 0, none⟩ v0).setCell ⟨b, 1, none⟩ v1).setCell ⟨b, 2, none⟩ v2).setCell ⟨b, 3, none⟩ v3).setCell ⟨b, 4, none⟩ v4).setCell ⟨b, 5, none⟩ v5).setCell ⟨b, 6, none⟩ v6).heap[b]? = some (.cells #[v0, v1, v2, v3, v4, v5, v6] t (0, 0)) := blk_set h5 6 v6
  exact h6
set_option maxHeartbeats 4000000 in
set_option maxRecDepth 100000 in
/-- No URL of blob has one within. -/
theorem inner_none (u0 : ByteArray) (u1 : ByteArray) (u2 : Bool) (u3 : Int) (u4 : Int) (u5 : ByteArray) (u6 : Bool) (u7 : ByteArray) (u8 : ByteArray) (w : World) (hb : (u0.toList == ([98, 108, 111, 98] : List UInt8)) = false) :
    Calls Tryd.prog 28 #[.agg #[.string u0, .string u1, .bool u2, .int .u32 u3, .int .i64 u4, .string u5, .bool u6, .string u7, .string u8]] w fun e w' => e = .returned (.tuple #[.agg #[.string ⟨#[]⟩, .string ⟨#[]⟩, .bool false, .int .u32 0, .int .i64 0, .string ⟨#[]⟩, .bool false, .string ⟨#[]⟩, .string ⟨#[]⟩], .bool false]) ∧ Below w.heap.size w w' := by
  have hb2 : (!(u0.toList == ([98, 108, 111, 98] : List UInt8))) = true := by rw [hb]; rfl
  go_enter Tryd.func28, Tryd.ntmps28
  go_wp2
  exact bodyPost_ret (v := .tuple #[.agg #[.string ⟨#[]⟩, .string ⟨#[]⟩, .bool false, .int .u32 0, .int .i64 0, .string ⟨#[]⟩, .bool false, .string ⟨#[]⟩, .string ⟨#[]⟩], .bool false]) (by simp [results, Tryd.results28, go_sem]) rfl ⟨rfl, below_alloc (below_alloc (Below.refl _ w) _) _⟩
set_option maxHeartbeats 4000000 in
set_option maxRecDepth 100000 in
/-- The origin of a URL of https that has no port. -/
theorem of_https (u1 : ByteArray) (u2 : Bool) (u3 : Int) (u5 : ByteArray) (u6 : Bool) (u7 : ByteArray) (u8 : ByteArray) (id : Int) (w : World) :
    Calls Tryd.prog 22 #[.agg #[.string httpsT, .string u1, .bool u2, .int .u32 u3, .int .i64 (-1), .string u5, .bool u6, .string u7, .string u8], .int .i64 id] w fun e w' => e = .returned (.agg #[.bool false, .int .i64 0, .string httpsT, .string u1, .bool u2, .int .u32 u3, .int .i64 443]) ∧ Below w.heap.size w w' := by
  have s1 : (httpsT.toList == ([98, 108, 111, 98] : List UInt8)) = false := by kernel_rfl
  have HI := Aside0.mk (fun W => inner_none httpsT u1 u2 u3 (-1) u5 u6 u7 u8 W s1)
  have HN := Aside0.mk (fun W => urlp_Net.calls httpsT u1 u2 u3 (-1) u5 u6 u7 u8 true W (by kernel_rfl))
  go_enter Tryd.func22, Tryd.ntmps22
  have hsW : ((w.alloc (.cells #[.string httpsT, .string u1, .bool u2, .int .u32 u3, .int .i64 (-1), .string u5, .bool u6, .string u7, .string u8] 42)).alloc (.cells #[.bool false, .int .i64 0, .string ⟨#[]⟩, .string ⟨#[]⟩, .bool false, .int .u32 0, .int .i64 0] 28)).heap.size = w.heap.size + 2 := by simp
  have q1 : ((w.alloc (.cells #[.string httpsT, .string u1, .bool u2, .int .u32 u3, .int .i64 (-1), .string u5, .bool u6, .string u7, .string u8] 42)).alloc (.cells #[.bool false, .int .i64 0, .string ⟨#[]⟩, .string ⟨#[]⟩, .bool false, .int .u32 0, .int .i64 0] 28)).heap[w.heap.size]? = some (.cells #[.string httpsT, .string u1, .bool u2, .int .u32 u3, .int .i64 (-1), .string u5, .bool u6, .string u7, .string u8] 42 (0, 0)) := blk_alloc (blk_new w _) _
  have q2 : ((w.alloc (.cells #[.string httpsT, .string u1, .bool u2, .int .u32 u3, .int .i64 (-1), .string u5, .bool u6, .string u7, .string u8] 42)).alloc (.cells #[.bool false, .int .i64 0, .string ⟨#[]⟩, .string ⟨#[]⟩, .bool false, .int .u32 0, .int .i64 0] 28)).heap[w.heap.size + 1]? = some (.cells #[.bool false, .int .i64 0, .string ⟨#[]⟩, .string ⟨#[]⟩, .bool false, .int .u32 0, .int .i64 0] 28 (0, 0)) := by simpa using blk_new (w.alloc (.cells #[.string httpsT, .string u1, .bool u2, .int .u32 u3, .int .i64 (-1), .string u5, .bool u6, .string u7, .string u8] 42)) (.cells #[.bool false, .int .i64 0, .string ⟨#[]⟩, .string ⟨#[]⟩, .bool false, .int .u32 0, .int .i64 0] 28)
  have hB0 : Below w.heap.size w ((w.alloc (.cells #[.string httpsT, .string u1, .bool u2, .int .u32 u3, .int .i64 (-1), .string u5, .bool u6, .string u7, .string u8] 42)).alloc (.cells #[.bool false, .int .i64 0, .string ⟨#[]⟩, .string ⟨#[]⟩, .bool false, .int .u32 0, .int .i64 0] 28)) := below_alloc (below_alloc (Below.refl _ w) _) _
  go_wp2_with (fail)
  generalize (w.alloc (.cells #[.string httpsT, .string u1, .bool u2, .int .u32 u3, .int .i64 (-1), .string u5, .bool u6, .string u7, .string u8] 42)).alloc (.cells #[.bool false, .int .i64 0, .string ⟨#[]⟩, .string ⟨#[]⟩, .bool false, .int .u32 0, .int .i64 0] 28) = W0 at *
  refine (HI.out _).mono ?_
  rintro e w1 ⟨rfl, hb1⟩
  have hB1 := hB0.trans (hb1.mono (by omega))
  have hs1 : w.heap.size + 1 < w1.heap.size := by have := hb1.size; omega
  replace q1 := blk_alloc (blk_below q1 hb1) (.cells #[.string ⟨#[]⟩, .string ⟨#[]⟩, .bool false, .int .u32 0, .int .i64 0, .string ⟨#[]⟩, .bool false, .string ⟨#[]⟩, .string ⟨#[]⟩] 42)
  replace q2 := blk_alloc (blk_below q2 hb1) (.cells #[.string ⟨#[]⟩, .string ⟨#[]⟩, .bool false, .int .u32 0, .int .i64 0, .string ⟨#[]⟩, .bool false, .string ⟨#[]⟩, .string ⟨#[]⟩] 42)
  replace hB1 := hB1.alloc (by omega) (.cells #[.string ⟨#[]⟩, .string ⟨#[]⟩, .bool false, .int .u32 0, .int .i64 0, .string ⟨#[]⟩, .bool false, .string ⟨#[]⟩, .string ⟨#[]⟩] 42)
  have ku0 : (w1.alloc (.cells #[.string ⟨#[]⟩, .string ⟨#[]⟩, .bool false, .int .u32 0, .int .i64 0, .string ⟨#[]⟩, .bool false, .string ⟨#[]⟩, .string ⟨#[]⟩] 42)).cell? ⟨w.heap.size, 0, none⟩ = some (.string httpsT) := (blk_cell q1 0).trans rfl
  have fu0 := blk_frozen q1 0
  have ku1 : (w1.alloc (.cells #[.string ⟨#[]⟩, .string ⟨#[]⟩, .bool false, .int .u32 0, .int .i64 0, .string ⟨#[]⟩, .bool false, .string ⟨#[]⟩, .string ⟨#[]⟩] 42)).cell? ⟨w.heap.size, 1, none⟩ = some (.string u1) := (blk_cell q1 1).trans rfl
  have fu1 := blk_frozen q1 1
  have ku2 : (w1.alloc (.cells #[.string ⟨#[]⟩, .string ⟨#[]⟩, .bool false, .int .u32 0, .int .i64 0, .string ⟨#[]⟩, .bool false, .string ⟨#[]⟩, .string ⟨#[]⟩] 42)).cell? ⟨w.heap.size, 2, none⟩ = some (.bool u2) := (blk_cell q1 2).trans rfl
  have fu2 := blk_frozen q1 2
  have ku3 : (w1.alloc (.cells #[.string ⟨#[]⟩, .string ⟨#[]⟩, .bool false, .int .u32 0, .int .i64 0, .string ⟨#[]⟩, .bool false, .string ⟨#[]⟩, .string ⟨#[]⟩] 42)).cell? ⟨w.heap.size, 3, none⟩ = some (.int .u32 u3) := (blk_cell q1 3).trans rfl
  have fu3 := blk_frozen q1 3
  have ku4 : (w1.alloc (.cells #[.string ⟨#[]⟩, .string ⟨#[]⟩, .bool false, .int .u32 0, .int .i64 0, .string ⟨#[]⟩, .bool false, .string ⟨#[]⟩, .string ⟨#[]⟩] 42)).cell? ⟨w.heap.size, 4, none⟩ = some (.int .i64 (-1)) := (blk_cell q1 4).trans rfl
  have fu4 := blk_frozen q1 4
  have ku5 : (w1.alloc (.cells #[.string ⟨#[]⟩, .string ⟨#[]⟩, .bool false, .int .u32 0, .int .i64 0, .string ⟨#[]⟩, .bool false, .string ⟨#[]⟩, .string ⟨#[]⟩] 42)).cell? ⟨w.heap.size, 5, none⟩ = some (.string u5) := (blk_cell q1 5).trans rfl
  have fu5 := blk_frozen q1 5
  have ku6 : (w1.alloc (.cells #[.string ⟨#[]⟩, .string ⟨#[]⟩, .bool false, .int .u32 0, .int .i64 0, .string ⟨#[]⟩, .bool false, .string ⟨#[]⟩, .string ⟨#[]⟩] 42)).cell? ⟨w.heap.size, 6, none⟩ = some (.bool u6) := (blk_cell q1 6).trans rfl
  have fu6 := blk_frozen q1 6
  have ku7 : (w1.alloc (.cells #[.string ⟨#[]⟩, .string ⟨#[]⟩, .bool false, .int .u32 0, .int .i64 0, .string ⟨#[]⟩, .bool false, .string ⟨#[]⟩, .string ⟨#[]⟩] 42)).cell? ⟨w.heap.size, 7, none⟩ = some (.string u7) := (blk_cell q1 7).trans rfl
  have fu7 := blk_frozen q1 7
  have ku8 : (w1.alloc (.cells #[.string ⟨#[]⟩, .string ⟨#[]⟩, .bool false, .int .u32 0, .int .i64 0, .string ⟨#[]⟩, .bool false, .string ⟨#[]⟩, .string ⟨#[]⟩] 42)).cell? ⟨w.heap.size, 8, none⟩ = some (.string u8) := (blk_cell q1 8).trans rfl
  have fu8 := blk_frozen q1 8
  have Q1 := Aside0.mk q1
  have Q2 := Aside0.mk q2
  have HB1 := Aside0.mk hB1
  clear hb1 q1 q2 hB0 hB1
  go_wp2_with (fail)
  refine (HN.out _).mono ?_
  rintro e w2 ⟨rfl, hb2⟩
  have hs2 : w.heap.size + 1 < w2.heap.size := by have := hb2.size; simp at this; omega
  have q3 := blk_below Q1.out hb2
  have q4 := blk_below Q2.out hb2
  have hB2 := HB1.out.trans (hb2.mono (by simp; omega))
  clear HI HN ku0 fu0 ku1 fu1 ku2 fu2 ku3 fu3 ku4 fu4 ku5 fu5 ku6 fu6 ku7 fu7 ku8 fu8 hb2 Q1 Q2 HB1
  have ku0 : w2.cell? ⟨w.heap.size, 0, none⟩ = some (.string httpsT) := (blk_cell q3 0).trans rfl
  have fu0 := blk_frozen q3 0
  have ku1 : w2.cell? ⟨w.heap.size, 1, none⟩ = some (.string u1) := (blk_cell q3 1).trans rfl
  have fu1 := blk_frozen q3 1
  have ku2 : w2.cell? ⟨w.heap.size, 2, none⟩ = some (.bool u2) := (blk_cell q3 2).trans rfl
  have fu2 := blk_frozen q3 2
  have ku3 : w2.cell? ⟨w.heap.size, 3, none⟩ = some (.int .u32 u3) := (blk_cell q3 3).trans rfl
  have fu3 := blk_frozen q3 3
  have ku4 : w2.cell? ⟨w.heap.size, 4, none⟩ = some (.int .i64 (-1)) := (blk_cell q3 4).trans rfl
  have fu4 := blk_frozen q3 4
  have ku5 : w2.cell? ⟨w.heap.size, 5, none⟩ = some (.string u5) := (blk_cell q3 5).trans rfl
  have fu5 := blk_frozen q3 5
  have ku6 : w2.cell? ⟨w.heap.size, 6, none⟩ = some (.bool u6) := (blk_cell q3 6).trans rfl
  have fu6 := blk_frozen q3 6
  have ku7 : w2.cell? ⟨w.heap.size, 7, none⟩ = some (.string u7) := (blk_cell q3 7).trans rfl
  have fu7 := blk_frozen q3 7
  have ku8 : w2.cell? ⟨w.heap.size, 8, none⟩ = some (.string u8) := (blk_cell q3 8).trans rfl
  have fu8 := blk_frozen q3 8
  have Q4 := Aside0.mk q4
  have HB2 := Aside0.mk hB2
  clear q3 q4 hB2
  go_wp2_with (fail)
  have hq7 : (w2.alloc (.cells #[.bool false, .int .i64 0, .string httpsT, .string u1, .bool u2, .int .u32 u3, .int .i64 (-1)] 28)).heap[w2.heap.size]? = some (.cells #[.bool false, .int .i64 0, .string httpsT, .string u1, .bool u2, .int .u32 u3, .int .i64 (-1)] 28 (0, 0)) := blk_new _ _
  have hq4 := blk_alloc Q4.out (.cells #[.bool false, .int .i64 0, .string httpsT, .string u1, .bool u2, .int .u32 u3, .int .i64 (-1)] 28)
  have hB3 := HB2.out.alloc (by omega) (.cells #[.bool false, .int .i64 0, .string httpsT, .string u1, .bool u2, .int .u32 u3, .int .i64 (-1)] 28)
  have hs3 : w2.heap.size < (w2.alloc (.cells #[.bool false, .int .i64 0, .string httpsT, .string u1, .bool u2, .int .u32 u3, .int .i64 (-1)] 28)).heap.size := by simp
  clear ku0 fu0 ku1 fu1 ku2 fu2 ku3 fu3 ku4 fu4 ku5 fu5 ku6 fu6 ku7 fu7 ku8 fu8 Q4 HB2
  generalize w2.alloc (.cells #[.bool false, .int .i64 0, .string httpsT, .string u1, .bool u2, .int .u32 u3, .int .i64 (-1)] 28) = W2 at *
  generalize w2.heap.size = bo at *
  have kq : W2.cell? ⟨bo, 2, none⟩ = some (.string httpsT) := (blk_cell hq7 2).trans rfl
  have K := Aside0.mk (fun W (hb : Below W2.heap.size W2 W) => pw_cell_below hb kq)
  have e443 : valAt ownD httpsT = 443 := by kernel_rfl
  have HQ4 := Aside0.mk hq4
  have HQ7 := Aside0.mk hq7
  have HB3 := Aside0.mk hB3
  have E1 := Aside0.mk e443
  clear hq4 hq7 hB3 e443
  go_region_held3 (fun w' => w'.cell? ⟨bo, 2, none⟩ = some (.string httpsT)) (first | exact K.out _ (below_drew (Below.refl _ _)) | exact K.out _ (Below.refl _ _) | exact K.out _ (by assumption) | assumption) (first | (go_at_call 31; ((with_reducible refine (own_map _).mono ?_); rintro e w3 ⟨rfl, hown, hb3⟩; have hrun : (Instr.lookup 51 (.map (some W2.heap.size)) (.string httpsT) false).run Tryd.prog w3 = .ok (.int .i64 443) w3 := (by have z := (valAt_is hown httpsT (by decide)).2; rw [E1.out] at z; exact z); have hb4 := below_then (below_drew (Below.refl W2.heap.size W2)) (Nat.le_refl _) hb3; have k6 : w3.cell? ⟨bo, 6, none⟩ = some (.int .i64 (-1)) := (blk_cell (blk_below HQ7.out hb4) 6).trans rfl; have f6 := blk_frozen (blk_below HQ7.out hb4) 6; have kS : (w3.setCell ⟨bo, 6, none⟩ (.int .i64 443)).cell? ⟨bo, 2, none⟩ = some (.string httpsT) := (blk_cell (blk_set (blk_below HQ7.out hb4) 6 (.int .i64 443)) 2).trans rfl; clear hown hb3)))
  have q7 : (w3.setCell ⟨bo, 6, none⟩ (.int .i64 443)).heap[bo]? = some (.cells #[.bool false, .int .i64 0, .string httpsT, .string u1, .bool u2, .int .u32 u3, .int .i64 443] 28 (0, 0)) := blk_set (blk_below HQ7.out hb4) 6 (.int .i64 443)
  have q4 : (w3.setCell ⟨bo, 6, none⟩ (.int .i64 443)).heap[w.heap.size + 1]? = some (.cells #[.bool false, .int .i64 0, .string ⟨#[]⟩, .string ⟨#[]⟩, .bool false, .int .u32 0, .int .i64 0] 28 (0, 0)) := blk_far (blk_below HQ4.out hb4) (by show w.heap.size + 1 ≠ bo; omega) _
  have hB5 := (HB3.out.trans (hb4.mono (by omega))).setCell (p := ⟨bo, 6, none⟩) (by show w.heap.size ≤ bo; omega) (.int .i64 443)
  clear hrun k6 f6 kS hb4 K kq HQ4 HQ7 HB3 E1
  generalize w3.setCell ⟨bo, 6, none⟩ (.int .i64 443) = W5 at *
  have ko0 : W5.cell? ⟨bo, 0, none⟩ = some (.bool false) := (blk_cell q7 0).trans rfl
  have fo0 := blk_frozen q7 0
  have ko1 : W5.cell? ⟨bo, 1, none⟩ = some (.int .i64 0) := (blk_cell q7 1).trans rfl
  have fo1 := blk_frozen q7 1
  have ko2 : W5.cell? ⟨bo, 2, none⟩ = some (.string httpsT) := (blk_cell q7 2).trans rfl
  have fo2 := blk_frozen q7 2
  have ko3 : W5.cell? ⟨bo, 3, none⟩ = some (.string u1) := (blk_cell q7 3).trans rfl
  have fo3 := blk_frozen q7 3
  have ko4 : W5.cell? ⟨bo, 4, none⟩ = some (.bool u2) := (blk_cell q7 4).trans rfl
  have fo4 := blk_frozen q7 4
  have ko5 : W5.cell? ⟨bo, 5, none⟩ = some (.int .u32 u3) := (blk_cell q7 5).trans rfl
  have fo5 := blk_frozen q7 5
  have ko6 : W5.cell? ⟨bo, 6, none⟩ = some (.int .i64 443) := (blk_cell q7 6).trans rfl
  have fo6 := blk_frozen q7 6
  have kr0 : W5.cell? ⟨w.heap.size + 1, 0, none⟩ = some (.bool false) := (blk_cell q4 0).trans rfl
  have fr0 := blk_frozen q4 0
  have kr1 : W5.cell? ⟨w.heap.size + 1, 1, none⟩ = some (.int .i64 0) := (blk_cell q4 1).trans rfl
  have fr1 := blk_frozen q4 1
  have kr2 : W5.cell? ⟨w.heap.size + 1, 2, none⟩ = some (.string ⟨#[]⟩) := (blk_cell q4 2).trans rfl
  have fr2 := blk_frozen q4 2
  have kr3 : W5.cell? ⟨w.heap.size + 1, 3, none⟩ = some (.string ⟨#[]⟩) := (blk_cell q4 3).trans rfl
  have fr3 := blk_frozen q4 3
  have kr4 : W5.cell? ⟨w.heap.size + 1, 4, none⟩ = some (.bool false) := (blk_cell q4 4).trans rfl
  have fr4 := blk_frozen q4 4
  have kr5 : W5.cell? ⟨w.heap.size + 1, 5, none⟩ = some (.int .u32 0) := (blk_cell q4 5).trans rfl
  have fr5 := blk_frozen q4 5
  have kr6 : W5.cell? ⟨w.heap.size + 1, 6, none⟩ = some (.int .i64 0) := (blk_cell q4 6).trans rfl
  have fr6 := blk_frozen q4 6
  have Q4 := Aside0.mk q4
  have HB5 := Aside0.mk hB5
  clear q7 q4 hB5
  go_wp2
  have q6 : (((((((W5.setCell ⟨w.heap.size + 1, 0, none⟩ (.bool false)).setCell ⟨w.heap.size + 1, 1, none⟩ (.int .i64 0)).setCell ⟨w.heap.size + 1, 2, none⟩ (.string httpsT)).setCell ⟨w.heap.size + 1, 3, none⟩ (.string u1)).setCell ⟨w.heap.size + 1, 4, none⟩ (.bool u2)).setCell ⟨w.heap.size + 1, 5, none⟩ (.int .u32 u3)).setCell ⟨w.heap.size + 1, 6, none⟩ (.int .i64 443)).heap[w.heap.size + 1]? = some (.cells #[.bool false, .int .i64 0, .string httpsT, .string u1, .bool u2, .int .u32 u3, .int .i64 443] 28 (0, 0)) := fill7 (.bool false) (.int .i64 0) (.string httpsT) (.string u1) (.bool u2) (.int .u32 u3) (.int .i64 443) Q4.out
  have hb7 : Below w.heap.size w (((((((W5.setCell ⟨w.heap.size + 1, 0, none⟩ (.bool false)).setCell ⟨w.heap.size + 1, 1, none⟩ (.int .i64 0)).setCell ⟨w.heap.size + 1, 2, none⟩ (.string httpsT)).setCell ⟨w.heap.size + 1, 3, none⟩ (.string u1)).setCell ⟨w.heap.size + 1, 4, none⟩ (.bool u2)).setCell ⟨w.heap.size + 1, 5, none⟩ (.int .u32 u3)).setCell ⟨w.heap.size + 1, 6, none⟩ (.int .i64 443)) := (((((((HB5.out.setCell (p := ⟨w.heap.size + 1, 0, none⟩) (by show w.heap.size ≤ w.heap.size + 1; omega) (.bool false)).setCell (p := ⟨w.heap.size + 1, 1, none⟩) (by show w.heap.size ≤ w.heap.size + 1; omega) (.int .i64 0)).setCell (p := ⟨w.heap.size + 1, 2, none⟩) (by show w.heap.size ≤ w.heap.size + 1; omega) (.string httpsT)).setCell (p := ⟨w.heap.size + 1, 3, none⟩) (by show w.heap.size ≤ w.heap.size + 1; omega) (.string u1)).setCell (p := ⟨w.heap.size + 1, 4, none⟩) (by show w.heap.size ≤ w.heap.size + 1; omega) (.bool u2)).setCell (p := ⟨w.heap.size + 1, 5, none⟩) (by show w.heap.size ≤ w.heap.size + 1; omega) (.int .u32 u3)).setCell (p := ⟨w.heap.size + 1, 6, none⟩) (by show w.heap.size ≤ w.heap.size + 1; omega) (.int .i64 443))
  clear kr0 fr0 ko0 fo0 kr1 fr1 ko1 fo1 kr2 fr2 ko2 fo2 kr3 fr3 ko3 fo3 kr4 fr4 ko4 fo4 kr5 fr5 ko5 fo5 kr6 fr6 ko6 fo6
  generalize (((((((W5.setCell ⟨w.heap.size + 1, 0, none⟩ (.bool false)).setCell ⟨w.heap.size + 1, 1, none⟩ (.int .i64 0)).setCell ⟨w.heap.size + 1, 2, none⟩ (.string httpsT)).setCell ⟨w.heap.size + 1, 3, none⟩ (.string u1)).setCell ⟨w.heap.size + 1, 4, none⟩ (.bool u2)).setCell ⟨w.heap.size + 1, 5, none⟩ (.int .u32 u3)).setCell ⟨w.heap.size + 1, 6, none⟩ (.int .i64 443)) = W6 at *
  have kk0 : W6.cell? ⟨w.heap.size + 1, 0, none⟩ = some (.bool false) := (blk_cell q6 0).trans rfl
  have kk1 : W6.cell? ⟨w.heap.size + 1, 1, none⟩ = some (.int .i64 0) := (blk_cell q6 1).trans rfl
  have kk2 : W6.cell? ⟨w.heap.size + 1, 2, none⟩ = some (.string httpsT) := (blk_cell q6 2).trans rfl
  have kk3 : W6.cell? ⟨w.heap.size + 1, 3, none⟩ = some (.string u1) := (blk_cell q6 3).trans rfl
  have kk4 : W6.cell? ⟨w.heap.size + 1, 4, none⟩ = some (.bool u2) := (blk_cell q6 4).trans rfl
  have kk5 : W6.cell? ⟨w.heap.size + 1, 5, none⟩ = some (.int .u32 u3) := (blk_cell q6 5).trans rfl
  have kk6 : W6.cell? ⟨w.heap.size + 1, 6, none⟩ = some (.int .i64 443) := (blk_cell q6 6).trans rfl
  exact bodyPost_ret (v := .agg #[.bool false, .int .i64 0, .string httpsT, .string u1, .bool u2, .int .u32 u3, .int .i64 443]) (by simp [results, Tryd.results22, go_sem, kk0, kk1, kk2, kk3, kk4, kk5, kk6]) rfl ⟨rfl, hb7⟩


/-! ### glacislaw19_of: function 17 -/
theorem parse_a (w : World) : Calls Tryd.prog 21 #[.string ⟨#[104, 116, 116, 112, 115, 58, 47, 47, 97, 47]⟩] w fun e w' => e = .returned (.tuple #[.agg #[.string httpsT, .string ⟨#[97]⟩, .bool false, .int .u32 0, .int .i64 (-1), .string ⟨#[47]⟩, .bool false, .string ⟨#[]⟩, .string ⟨#[]⟩], .int .i64 0]) ∧ Below w.heap.size w w' := by
  have hw := fun W => web_ok httpsT ⟨#[]⟩ false 0 (-1) ⟨#[]⟩ false ⟨#[]⟩ ⟨#[]⟩ ⟨#[47, 47, 97, 47]⟩ 443 W ⟨#[97, 47]⟩ 1 ⟨#[97]⟩ false ⟨#[97]⟩ false 0 ⟨#[47]⟩ ⟨#[]⟩ false ⟨#[47]⟩ (-1)
    (by kernel_rfl) (by decide) (by decide) (fun i hi => by
      obtain rfl : i = 0 := by omega
      exact ⟨by kernel_rfl, by kernel_rfl⟩) (by kernel_rfl) (by kernel_rfl) (by decide) (by kernel_rfl) (by kernel_rfl) (by kernel_rfl) (by kernel_rfl)
  exact parse_https ⟨#[104, 116, 116, 112, 115, 58, 47, 47, 97, 47]⟩ ⟨#[104, 116, 116, 112, 115]⟩ ⟨#[47, 47, 97, 47]⟩ ⟨#[47, 47, 97, 47]⟩ ⟨#[]⟩ false 20 httpsT ⟨#[97]⟩ false 0 (-1) ⟨#[47]⟩ false ⟨#[]⟩ ⟨#[]⟩ w (by decide) (by decide) (by kernel_rfl) (by kernel_rfl) (by kernel_rfl) (by kernel_rfl) (by kernel_rfl) (by kernel_rfl) (by decide)
    (by
      intro i hi
      have hi2 : i < 4 := hi
      rcases (by omega : i = 0 ∨ i = 1 ∨ i = 2 ∨ i = 3) with rfl | rfl | rfl | rfl <;> exact ⟨by kernel_rfl, by kernel_rfl⟩) hw
theorem parse_b (w : World) : Calls Tryd.prog 21 #[.string ⟨#[104, 116, 116, 112, 115, 58, 47, 47, 98, 47]⟩] w fun e w' => e = .returned (.tuple #[.agg #[.string httpsT, .string ⟨#[98]⟩, .bool false, .int .u32 0, .int .i64 (-1), .string ⟨#[47]⟩, .bool false, .string ⟨#[]⟩, .string ⟨#[]⟩], .int .i64 0]) ∧ Below w.heap.size w w' := by
  have hw := fun W => web_ok httpsT ⟨#[]⟩ false 0 (-1) ⟨#[]⟩ false ⟨#[]⟩ ⟨#[]⟩ ⟨#[47, 47, 98, 47]⟩ 443 W ⟨#[98, 47]⟩ 1 ⟨#[98]⟩ false ⟨#[98]⟩ false 0 ⟨#[47]⟩ ⟨#[]⟩ false ⟨#[47]⟩ (-1)
    (by kernel_rfl) (by decide) (by decide) (fun i hi => by
      obtain rfl : i = 0 := by omega
      exact ⟨by kernel_rfl, by kernel_rfl⟩) (by kernel_rfl) (by kernel_rfl) (by decide) (by kernel_rfl) (by kernel_rfl) (by kernel_rfl) (by kernel_rfl)
  exact parse_https ⟨#[104, 116, 116, 112, 115, 58, 47, 47, 98, 47]⟩ ⟨#[104, 116, 116, 112, 115]⟩ ⟨#[47, 47, 98, 47]⟩ ⟨#[47, 47, 98, 47]⟩ ⟨#[]⟩ false 20 httpsT ⟨#[98]⟩ false 0 (-1) ⟨#[47]⟩ false ⟨#[]⟩ ⟨#[]⟩ w (by decide) (by decide) (by kernel_rfl) (by kernel_rfl) (by kernel_rfl) (by kernel_rfl) (by kernel_rfl) (by kernel_rfl) (by decide)
    (by
      intro i hi
      have hi2 : i < 4 := hi
      rcases (by omega : i = 0 ∨ i = 1 ∨ i = 2 ∨ i = 3) with rfl | rfl | rfl | rfl <;> exact ⟨by kernel_rfl, by kernel_rfl⟩) hw
def glacislaw19_of.f (a0 : ByteArray) : Option (Bool × Int × ByteArray × ByteArray × Bool × Int × Int) := if a0 = ⟨#[104, 116, 116, 112, 115, 58, 47, 47, 97, 47]⟩ then some (false, 0, httpsT, ⟨#[97]⟩, false, 0, 443) else if a0 = ⟨#[104, 116, 116, 112, 115, 58, 47, 47, 98, 47]⟩ then some (false, 0, httpsT, ⟨#[98]⟩, false, 0, 443) else none
set_option maxHeartbeats 4000000 in
set_option maxRecDepth 100000 in
theorem of_one (s h : ByteArray) (w : World) (hp : ∀ W, Calls Tryd.prog 21 #[.string s] W fun e w' => e = .returned (.tuple #[.agg #[.string httpsT, .string h, .bool false, .int .u32 0, .int .i64 (-1), .string ⟨#[47]⟩, .bool false, .string ⟨#[]⟩, .string ⟨#[]⟩], .int .i64 0]) ∧ Below W.heap.size W w') :
    Calls Tryd.prog 17 #[.string s] w fun e w' => e = .returned (.agg #[.bool false, .int .i64 0, .string httpsT, .string h, .bool false, .int .u32 0, .int .i64 443]) ∧ Below w.heap.size w w' := by
  have HP := Aside0.mk hp
  have HO := Aside0.mk (fun W => of_https h false 0 ⟨#[47]⟩ false ⟨#[]⟩ ⟨#[]⟩ 0 W)
  clear hp
  have q1 : (w.alloc (.cells #[.bool false, .int .i64 0, .string ⟨#[]⟩, .string ⟨#[]⟩, .bool false, .int .u32 0, .int .i64 0] 28)).heap[w.heap.size]? = some (.cells #[.bool false, .int .i64 0, .string ⟨#[]⟩, .string ⟨#[]⟩, .bool false, .int .u32 0, .int .i64 0] 28 (0, 0)) := blk_new w _
  have hB0 : Below w.heap.size w (w.alloc (.cells #[.bool false, .int .i64 0, .string ⟨#[]⟩, .string ⟨#[]⟩, .bool false, .int .u32 0, .int .i64 0] 28)) := below_alloc (Below.refl _ w) _
  have hsW : (w.alloc (.cells #[.bool false, .int .i64 0, .string ⟨#[]⟩, .string ⟨#[]⟩, .bool false, .int .u32 0, .int .i64 0] 28)).heap.size = w.heap.size + 1 := by simp
  go_enter Tryd.func17, Tryd.ntmps17
  go_wp2_with (fail)
  generalize w.alloc (.cells #[.bool false, .int .i64 0, .string ⟨#[]⟩, .string ⟨#[]⟩, .bool false, .int .u32 0, .int .i64 0] 28) = W0 at *
  refine (HP.out _).mono ?_
  rintro e w1 ⟨rfl, hb1⟩
  have q2 := blk_below q1 hb1
  have hB1 := hB0.trans (hb1.mono (by omega))
  have hs1 : w.heap.size < w1.heap.size := by have := hb1.size; omega
  have Q2 := Aside0.mk q2
  have HB1 := Aside0.mk hB1
  clear q1 q2 hb1 hB0 hB1 HP
  go_wp2_with (fail)
  refine (HO.out _).mono ?_
  rintro e w2 ⟨rfl, hb2⟩
  have q3 := blk_below (blk_alloc Q2.out _) hb2
  have hB2 := (HB1.out.alloc (Nat.le_of_lt hs1) _).trans (hb2.mono (by simp; omega))
  have kr0 : w2.cell? ⟨w.heap.size, 0, none⟩ = some (.bool false) := (blk_cell q3 0).trans rfl
  have fr0 := blk_frozen q3 0
  have kr1 : w2.cell? ⟨w.heap.size, 1, none⟩ = some (.int .i64 0) := (blk_cell q3 1).trans rfl
  have fr1 := blk_frozen q3 1
  have kr2 : w2.cell? ⟨w.heap.size, 2, none⟩ = some (.string ⟨#[]⟩) := (blk_cell q3 2).trans rfl
  have fr2 := blk_frozen q3 2
  have kr3 : w2.cell? ⟨w.heap.size, 3, none⟩ = some (.string ⟨#[]⟩) := (blk_cell q3 3).trans rfl
  have fr3 := blk_frozen q3 3
  have kr4 : w2.cell? ⟨w.heap.size, 4, none⟩ = some (.bool false) := (blk_cell q3 4).trans rfl
  have fr4 := blk_frozen q3 4
  have kr5 : w2.cell? ⟨w.heap.size, 5, none⟩ = some (.int .u32 0) := (blk_cell q3 5).trans rfl
  have fr5 := blk_frozen q3 5
  have kr6 : w2.cell? ⟨w.heap.size, 6, none⟩ = some (.int .i64 0) := (blk_cell q3 6).trans rfl
  have fr6 := blk_frozen q3 6
  have Q3 := Aside0.mk q3
  have HB2 := Aside0.mk hB2
  clear q3 hb2 hB2 Q2 HB1
  go_wp2
  have q6 : (((((((w2.setCell ⟨w.heap.size, 0, none⟩ (.bool false)).setCell ⟨w.heap.size, 1, none⟩ (.int .i64 0)).setCell ⟨w.heap.size, 2, none⟩ (.string httpsT)).setCell ⟨w.heap.size, 3, none⟩ (.string h)).setCell ⟨w.heap.size, 4, none⟩ (.bool false)).setCell ⟨w.heap.size, 5, none⟩ (.int .u32 0)).setCell ⟨w.heap.size, 6, none⟩ (.int .i64 443)).heap[w.heap.size]? = some (.cells #[.bool false, .int .i64 0, .string httpsT, .string h, .bool false, .int .u32 0, .int .i64 443] 28 (0, 0)) := fill7 (.bool false) (.int .i64 0) (.string httpsT) (.string h) (.bool false) (.int .u32 0) (.int .i64 443) Q3.out
  have hb7 : Below w.heap.size w (((((((w2.setCell ⟨w.heap.size, 0, none⟩ (.bool false)).setCell ⟨w.heap.size, 1, none⟩ (.int .i64 0)).setCell ⟨w.heap.size, 2, none⟩ (.string httpsT)).setCell ⟨w.heap.size, 3, none⟩ (.string h)).setCell ⟨w.heap.size, 4, none⟩ (.bool false)).setCell ⟨w.heap.size, 5, none⟩ (.int .u32 0)).setCell ⟨w.heap.size, 6, none⟩ (.int .i64 443)) := (((((((HB2.out.setCell (p := ⟨w.heap.size, 0, none⟩) (Nat.le_refl _) (.bool false)).setCell (p := ⟨w.heap.size, 1, none⟩) (Nat.le_refl _) (.int .i64 0)).setCell (p := ⟨w.heap.size, 2, none⟩) (Nat.le_refl _) (.string httpsT)).setCell (p := ⟨w.heap.size, 3, none⟩) (Nat.le_refl _) (.string h)).setCell (p := ⟨w.heap.size, 4, none⟩) (Nat.le_refl _) (.bool false)).setCell (p := ⟨w.heap.size, 5, none⟩) (Nat.le_refl _) (.int .u32 0)).setCell (p := ⟨w.heap.size, 6, none⟩) (Nat.le_refl _) (.int .i64 443))
  clear kr0 fr0 kr1 fr1 kr2 fr2 kr3 fr3 kr4 fr4 kr5 fr5 kr6 fr6
  generalize (((((((w2.setCell ⟨w.heap.size, 0, none⟩ (.bool false)).setCell ⟨w.heap.size, 1, none⟩ (.int .i64 0)).setCell ⟨w.heap.size, 2, none⟩ (.string httpsT)).setCell ⟨w.heap.size, 3, none⟩ (.string h)).setCell ⟨w.heap.size, 4, none⟩ (.bool false)).setCell ⟨w.heap.size, 5, none⟩ (.int .u32 0)).setCell ⟨w.heap.size, 6, none⟩ (.int .i64 443)) = W6 at *
  have kk0 : W6.cell? ⟨w.heap.size, 0, none⟩ = some (.bool false) := (blk_cell q6 0).trans rfl
  have kk1 : W6.cell? ⟨w.heap.size, 1, none⟩ = some (.int .i64 0) := (blk_cell q6 1).trans rfl
  have kk2 : W6.cell? ⟨w.heap.size, 2, none⟩ = some (.string httpsT) := (blk_cell q6 2).trans rfl
  have kk3 : W6.cell? ⟨w.heap.size, 3, none⟩ = some (.string h) := (blk_cell q6 3).trans rfl
  have kk4 : W6.cell? ⟨w.heap.size, 4, none⟩ = some (.bool false) := (blk_cell q6 4).trans rfl
  have kk5 : W6.cell? ⟨w.heap.size, 5, none⟩ = some (.int .u32 0) := (blk_cell q6 5).trans rfl
  have kk6 : W6.cell? ⟨w.heap.size, 6, none⟩ = some (.int .i64 443) := (blk_cell q6 6).trans rfl
  exact bodyPost_ret (v := .agg #[.bool false, .int .i64 0, .string httpsT, .string h, .bool false, .int .u32 0, .int .i64 443]) (by simp [results, Tryd.results17, go_sem, kk0, kk1, kk2, kk3, kk4, kk5, kk6]) rfl ⟨rfl, hb7⟩
theorem glacislaw19_of.calls (a0 : ByteArray) (r1 : Bool) (r2 : Int) (r3 r4 : ByteArray) (r5 : Bool) (r6 r7 : Int) (w : World) (h : glacislaw19_of.f a0 = some (r1, r2, r3, r4, r5, r6, r7)) :
    Calls Tryd.prog 17 #[.string a0] w fun e w' => e = .returned (.agg #[.bool r1, .int .i64 r2, .string r3, .string r4, .bool r5, .int .u32 r6, .int .i64 r7]) ∧ Below w.heap.size w w' := by
  unfold glacislaw19_of.f at h
  split at h
  · rename_i e
    subst e
    obtain ⟨rfl, rfl, rfl, rfl, rfl, rfl, rfl⟩ : false = r1 ∧ 0 = r2 ∧ httpsT = r3 ∧ ⟨#[97]⟩ = r4 ∧ false = r5 ∧ 0 = r6 ∧ 443 = r7 := by simpa using h
    exact of_one _ _ w parse_a
  · split at h
    · rename_i e
      subst e
      obtain ⟨rfl, rfl, rfl, rfl, rfl, rfl, rfl⟩ : false = r1 ∧ 0 = r2 ∧ httpsT = r3 ∧ ⟨#[98]⟩ = r4 ∧ false = r5 ∧ 0 = r6 ∧ 443 = r7 := by simpa using h
      exact of_one _ _ w parse_b
    · cases h


end Go.Proofs.YtabjpoapnbkljaaDoor.Q
