/- The law SfieldItems: contracts, words and plain lemmas that its proof reaches, part 3. Its conditions: the row's own. -/
import Derived.Test.YtjdbiicjfpgjkaaGreatDoorZi2
namespace Go.Proofs.YtjdbiicjfpgjkaaGreatDoor.Q
open Go.RowKit Go.Proofs.YtjdbiicjfpgjkaaGreatDoorW.PrintWords Go.Proofs.YtjdbiicjfpgjkaaGreatDoorW.PrintLast Go.Proofs.YtjdbiicjfpgjkaaGreatDoorW.PrintMore
set_option linter.unusedVariables false
set_option linter.unusedSimpArgs false
open Go.Proofs.YtjdbiicjfpgjkaaGreatDoor.Sf
/-- A text as a map's key. -/
def keyT (s : ByteArray) : Lit := .string s.data.toList
theorem keyT_inj {s t : ByteArray} (h : keyT s = keyT t) : s = t := by
  unfold keyT at h
  injection h with h
  exact ByteArray.ext (Array.toList_inj.1 h)
theorem keyT_is (s : ByteArray) : WideAt.IsKeyLit (keyT s) := trivial
def heldT (v : Value) : Option (DataW Value × List MemPlace) := some (.held v, [])
def falseD : DataW Value := .held (.bool false)
def inL (s : ByteArray) (seen : List ByteArray) : Bool := seen.any (fun y => decide (y = s))
/-- The keys that were seen. -/
def SeenAt (D : DataW Value) (seen : List ByteArray) : Prop := Go.Maps.IsMap D ∧ ∀ s : ByteArray, D.atKey (keyT s) falseD = .held (.bool (inL s seen))
theorem SeenAt.start : SeenAt (.map []) [] := ⟨⟨[], rfl⟩, fun s => rfl⟩
theorem SeenAt.put {D : DataW Value} {seen : List ByteArray} (h : SeenAt D seen) (x : ByteArray) : SeenAt (D.put (keyT x) (.held (.bool true))) (x :: seen) := by
  refine ⟨h.1.put _ _, fun s => ?_⟩
  by_cases e : s = x
  · subst e
    rw [Go.Maps.atKey_put_same h.1 (keyT_is _)]
    simp [inL]
  · rw [Go.Maps.atKey_put_other (fun e' => e (keyT_inj e')), h.2 s]
    have e2 : ¬ x = s := fun h => e h.symm
    simp [inL, e2]
theorem seen_look {W : World} {b n : Nat} {D : DataW Value} {seen : List ByteArray} (hown : W.ownsMap Tryz.prog 9 heldT b n D) (hS : SeenAt D seen) (s : ByteArray) (hs : s.size ≤ 281474976710656) :
    (Instr.lookup 66 (.map (some b)) (.string s) false).run Tryz.prog W = .ok (.bool (inL s seen)) W := by
  have kd : keyOf Tryz.prog 9 (.string s) = some (keyT s) := WideMaps.keyOf_string_mk Tryz.underlying9 (by unfold maxLen; omega)
  have zE : (zeroValue 4).run Tryz.prog W = .ok (.bool false) W := by kernel_rfl
  obtain ⟨v, ps, hrun, hv⟩ := hown.lookup (Go.Maps.string_keyed Tryz.underlying9) Tryz.underlying66 zE (zd := falseD) (zp := []) rfl kd
  rw [hS.2 s] at hv
  have e : v = .bool (inL s seen) := by
    unfold heldT at hv
    simp only [Option.some.injEq, Prod.mk.injEq, DataW.held.injEq] at hv
    exact hv.1
  rw [e] at hrun
  exact hrun
/-- The text of parameters, from the first that is left. -/
def partT (p : S60) (o v : ByteArray) : ByteArray := if p.f1 ≠ 6 ∨ p.f2 = 0 then (o ++ ((⟨#[59]⟩ : ByteArray) ++ p.f0)) ++ ((⟨#[61]⟩ : ByteArray) ++ v) else o ++ ((⟨#[59]⟩ : ByteArray) ++ p.f0)
def badP (p : S60) (b : Bool) (seen : List ByteArray) : Bool := (keyF p.f0).2.2 != 0 || ((keyF p.f0).2.1.toList != ([] : List UInt8) || (!b || inL p.f0 seen))
def tailF : List S60 → List ByteArray → ByteArray → Option (ByteArray × Int)
  | [], _, o => some (o, 0)
  | p :: ps, seen, o => (sfitem_value.f p.f0 p.f1 p.f2 p.f3).bind fun v =>
    if ¬ (p.f0.size ≤ 2199023255552 ∧ o.size ≤ 1152921504606846976 ∧ v.1.size ≤ 1152921504606846976) then none
    else if badP p v.2 seen = true then some (⟨#[]⟩, 50)
    else tailF ps (p.f0 :: seen) (partT p o v.1)
set_option maxHeartbeats 8000000 in
set_option maxRecDepth 100000 in
theorem Tail_calls (A : Option Addr) (c : Nat) (l : List S60) (r1 : ByteArray) (r2 : Int) (w : World) (hT_ : Aside0 (TabW w)) (hC : Kd.C k60 w A l.length l) (hl : l.length ≤ 140737488355327) (h : tailF l [] ⟨#[]⟩ = some (r1, r2)) :
    Calls Tryz.prog 22 #[.slice A l.length c] w fun e w' => e = .returned (.tuple #[.string r1, .int .i64 r2]) ∧ Below w.heap.size w w' := by
  have hu60 := Tryz.underlying60
  have hmm := @run_makeMap Tryz.prog
  have kd : ∀ s : ByteArray, s.size ≤ 281474976710656 → keyOf Tryz.prog 9 (.string s) = some (keyT s) := fun s hs => WideMaps.keyOf_string_mk Tryz.underlying9 (by unfold maxLen; omega)
  have HC := Aside0.mk hC
  have HH := Aside0.mk h
  have HO := Aside0.mk (World.ownsMap_made (H := Value) w Tryz.prog 9 heldT)
  have HB := Aside0.mk (below_alloc (Below.refl w.heap.size w) (.map #[] 0))
  clear hC h
  go_enter Tryz.func22, Tryz.ntmps22
  go_wp2
  generalize w.alloc (.map #[] 0) = w1 at *
  go_loopw [4, 7, 8, 9, 10, 11, 12, 16] (fun v4 v7 v8 v9 v10 v11 v12 v16 wr => ∃ (n : Nat) (o : ByteArray) (seen : List ByteArray) (D : DataW Value), n ≤ l.length ∧ v16 = .int .i64 n ∧ v4 = .string o ∧ Aside0 (tailF (l.drop n) seen o = some (r1, r2)) ∧ Aside0 (wr.ownsMap Tryz.prog 9 heldT w.heap.size n D) ∧ Aside0 (SeenAt D seen) ∧ Aside0 (Below w.heap.size w wr)) (fun _ _ _ _ _ _ _ v16 _ => l.length - (intOf v16).toNat)
  case atStart => exact ⟨0, _, [], _, Nat.zero_le _, rfl, rfl, HH, HO, ⟨SeenAt.start⟩, HB⟩
  case round =>
    clear HH HO HB
    obtain ⟨n, o, seen, D, hn, rfl, rfl, HH, HO, HS, HB⟩ := hrel
    by_cases hlt : n < l.length
    · have hltd : decide ((n : Int) < (l.length : Int)) = true := decide_eq_true (by omega)
      obtain ⟨ad, hA, h0, h1, h2, h3⟩ := at_T60 (Kd.C_below HC.out HB.out) (n : Int) (by omega) (by omega)
      subst hA
      simp only [Int.toNat_natCast] at h0 h1 h2 h3
      have p1 : (0 ≤ (n : Int)) = True := eq_true (by omega)
      have p2 : ((n : Int) < (l.length : Int)) = True := eq_true (by omega)
      have hH := HH.out
      rw [List.drop_eq_getElem_cons hlt, tailF] at hH
      rw [← rd_get l n hlt] at hH
      obtain ⟨v, hv, hH⟩ := Option.bind_eq_some_iff.1 hH
      obtain ⟨v1, v2⟩ := v
      generalize rd_T60 l n = p at *
      by_cases hz : p.f0.size ≤ 2199023255552 ∧ o.size ≤ 1152921504606846976 ∧ v1.size ≤ 1152921504606846976
      · rw [if_neg (fun h => h hz)] at hH
        obtain ⟨hz1, hz2, hz3⟩ := hz
        have hPn := PB_new4 wr p.f0 p.f1 p.f2 p.f3
        have hmb : w.heap.size < wr.heap.size := HO.out.lt
        have HO2 := Aside0.mk (HO.out.alloc (.cells #[.string p.f0, .int .i64 p.f1, .int .i64 p.f2, .string p.f3] 60))
        have HB2 := Aside0.mk (below_alloc HB.out (.cells #[.string p.f0, .int .i64 p.f1, .int .i64 p.f2, .string p.f3] 60))
        have hKy := Aside0.mk (fun W => Key_calls p.f0 W hz1)
        have hVa := Aside0.mk (fun W (hb : Below w.heap.size w W) => sfitem_value.calls p.f0 p.f1 p.f2 p.f3 v1 v2 W (tab_ hT_ hb) hv)
        have HH := Aside0.mk hH
        clear hH hv
        go_upto_region 6 with (fail)
        clear h0 h1 h2 h3
        generalize wr.alloc (.cells #[.string p.f0, .int .i64 p.f1, .int .i64 p.f2, .string p.f3] 60) = w2 at *
        generalize wr.heap.size = pb at *
        have k0 := hPn.c0
        go_upto_region 7 with (first | (go_at_call 35; refine (hKy.out _).mono ?_; rintro e w3 ⟨rfl, hb3⟩; have hP3 : PB w3 pb p.f0 p.f1 p.f2 p.f3 := blk_below hPn hb3; have HB3 := Aside0.mk (below_then HB2.out HB2.out.size hb3); have HO3 := Aside0.mk (HO2.out.kept (grown_of_below hb3 none) (by simp)); clear hb3))
        have j0 := hP3.c0
        have j1 := hP3.c1
        have j2 := hP3.c2
        have j3 := hP3.c3
        clear k0 hPn HO2 HB2 HO HB
        go_upto_region 8 with (first | (go_at_call 38; refine (hVa.out _ HB3.out).mono ?_; rintro e w4 ⟨rfl, hb4⟩; have hP4 : PB w4 pb p.f0 p.f1 p.f2 p.f3 := blk_below hP3 hb4; have HB4 := Aside0.mk (below_then HB3.out HB3.out.size hb4); have HO4 := Aside0.mk (HO3.out.kept (grown_of_below hb4 none) (by simp)); clear hb4))
        clear j0 j1 j2 j3 hP3 HB3 HO3 hKy hVa
        have j0 := hP4.c0
        have j1 := hP4.c1
        have j2 := hP4.c2
        have hlook := seen_look HO4.out HS.out p.f0 (by omega)
        have hBD : badP p v2 seen = ((keyF p.f0).2.2 != 0 || ((keyF p.f0).2.1.toList != ([] : List UInt8) || (!v2 || inL p.f0 seen))) := rfl
        generalize badP p v2 seen = bd at *
        generalize (keyF p.f0).2.2 = k3 at *
        generalize (keyF p.f0).2.1 = k2 at *
        generalize (keyF p.f0).1 = k1 at *
        have HBD := Aside0.mk hBD
        clear hBD hH
        go_cut [47] (fun v47 wc => v47 = .bool bd ∧ wc = w4)
        case first =>
          cases e1 : (k3 != 0) with
          | true =>
            have e1b : (k3 == 0) = false := by simpa [bne] using e1
            have e1c : decide (k3 = 0) = false := by simpa using e1b
            go_wp2
            go_meet
            case rel => exact ⟨by rw [HBD.out, e1] <;> rfl, rfl⟩
          | false =>
            have e1b : (k3 == 0) = true := by simpa [bne] using e1
            have e1c : decide (k3 = 0) = true := by simpa using e1b
            cases e2 : (k2.toList != ([] : List UInt8)) with
            | true =>
              have e2b : (k2.toList == ([] : List UInt8)) = false := by simpa [bne] using e2
              have e2c : k2.toList.isEmpty = false := by simpa using e2b
              go_wp2
              go_meet
              case rel => exact ⟨by rw [HBD.out, e1, e2] <;> rfl, rfl⟩
            | false =>
              have e2b : (k2.toList == ([] : List UInt8)) = true := by simpa [bne] using e2
              have e2c : k2.toList.isEmpty = true := by simpa using e2b
              cases v2 with
              | false =>
                go_wp2
                go_meet
                case rel => exact ⟨by rw [HBD.out, e1, e2] <;> rfl, rfl⟩
              | true =>
                go_wp2
                go_meet
                case rel => exact ⟨by rw [HBD.out, e1, e2] <;> rfl, rfl⟩
        case rest =>
          obtain ⟨rfl, rfl⟩ := hcut
          clear hlook
          cases bd with
          | true =>
            have hH := HH.out
            rw [if_pos rfl] at hH
            obtain ⟨rfl, rfl⟩ := Prod.mk.inj (Option.some.inj hH)
            clear hH HH
            go_wp2
            go_ret2
            exact ⟨rfl, HB4.out⟩
          | false =>
            have hH := HH.out
            rw [if_neg (by decide)] at hH
            have HH0 := Aside0.mk hH
            clear hH HH
            have z1 : (9223372036854775807 < 1 + p.f0.size) = False := eq_false (by omega)
            have z1b : (1 + p.f0.size ≤ 9223372036854775807) = True := eq_true (by omega)
            have z2 : (9223372036854775807 < o.size + (1 + p.f0.size)) = False := eq_false (by omega)
            have z2b : (o.size + (1 + p.f0.size) ≤ 9223372036854775807) = True := eq_true (by omega)
            have z3 : (9223372036854775807 < 1 + v1.size) = False := eq_false (by omega)
            have z3b : (1 + v1.size ≤ 9223372036854775807) = True := eq_true (by omega)
            have z4 : (9223372036854775807 < o.size + (1 + p.f0.size) + (1 + v1.size)) = False := eq_false (by omega)
            have z4b : (o.size + (1 + p.f0.size) + (1 + v1.size) ≤ 9223372036854775807) = True := eq_true (by omega)
            by_cases e6 : p.f1 = 6
            · have b6 : (p.f1 != 6) = false := by simp [e6]
              by_cases e0 : p.f2 = 0
              · have b0 : (p.f2 == 0) = true := by simp [e0]
                have HH1 := Aside0.mk (HH0.out.symm ▸ (show tailF (l.drop (n + 1)) (p.f0 :: seen) ((o ++ ((⟨#[59]⟩ : ByteArray) ++ p.f0)) ++ ((⟨#[61]⟩ : ByteArray) ++ v1)) = tailF (l.drop (n + 1)) (p.f0 :: seen) (partT p o v1) from by unfold partT; rw [if_pos (Or.inr e0)]))
                clear e6 e0
                clear HH0
                go_wp2_with (first | ((with_reducible refine gate_ (.mapUpdate 66 (.tmp 48) (.tmp 50) (.const (.bool true))) rfl ?_); refine wpList_mapUpdate_own _ rfl _ _ _ 66 rfl 9 4 (Go.Maps.string_keyed Tryz.underlying9) Tryz.underlying66 heldT _ _ _ rfl HO4.out (by unfold maxLen; omega) _ _ _ rfl rfl (kd _ (by omega)) _ [] rfl ?_; intro w7 hown7 hgrow7; have hP7 : PB w7 pb p.f0 p.f1 p.f2 p.f3 := blk_grown hP4 hgrow7 (by simp only [ne_eq, Option.some.injEq]; omega); have j0 := hP7.c0; have j1 := hP7.c1; have j2 := hP7.c2; have HO7 := Aside0.mk hown7; have HB7 := Aside0.mk (HB4.out.grown hgrow7 HB4.out.size (fun b e => by cases e; exact Nat.le_refl _)); clear hown7 hgrow7))
                go_roundw
                case rel => exact ⟨n + 1, _, p.f0 :: seen, _, by omega, by go_num, rfl, HH1, HO7, ⟨HS.out.put p.f0⟩, HB7⟩
                case measure => simp [intOf]; omega
              · have b0 : (p.f2 == 0) = false := by simp [e0]
                have HH1 := Aside0.mk (HH0.out.symm ▸ (show tailF (l.drop (n + 1)) (p.f0 :: seen) (o ++ ((⟨#[59]⟩ : ByteArray) ++ p.f0)) = tailF (l.drop (n + 1)) (p.f0 :: seen) (partT p o v1) from by unfold partT; rw [if_neg (fun h => h.elim (fun h => h e6) e0)]))
                clear e6 e0
                clear HH0
                go_wp2_with (first | ((with_reducible refine gate_ (.mapUpdate 66 (.tmp 48) (.tmp 50) (.const (.bool true))) rfl ?_); refine wpList_mapUpdate_own _ rfl _ _ _ 66 rfl 9 4 (Go.Maps.string_keyed Tryz.underlying9) Tryz.underlying66 heldT _ _ _ rfl HO4.out (by unfold maxLen; omega) _ _ _ rfl rfl (kd _ (by omega)) _ [] rfl ?_; intro w7 hown7 hgrow7; have hP7 : PB w7 pb p.f0 p.f1 p.f2 p.f3 := blk_grown hP4 hgrow7 (by simp only [ne_eq, Option.some.injEq]; omega); have j0 := hP7.c0; have j1 := hP7.c1; have j2 := hP7.c2; have HO7 := Aside0.mk hown7; have HB7 := Aside0.mk (HB4.out.grown hgrow7 HB4.out.size (fun b e => by cases e; exact Nat.le_refl _)); clear hown7 hgrow7))
                go_roundw
                case rel => exact ⟨n + 1, _, p.f0 :: seen, _, by omega, by go_num, rfl, HH1, HO7, ⟨HS.out.put p.f0⟩, HB7⟩
                case measure => simp [intOf]; omega
            · have b6 : (p.f1 != 6) = true := by simp [e6]
              have HH1 := Aside0.mk (HH0.out.symm ▸ (show tailF (l.drop (n + 1)) (p.f0 :: seen) ((o ++ ((⟨#[59]⟩ : ByteArray) ++ p.f0)) ++ ((⟨#[61]⟩ : ByteArray) ++ v1)) = tailF (l.drop (n + 1)) (p.f0 :: seen) (partT p o v1) from by unfold partT; rw [if_pos (Or.inl e6)]))
              clear e6
              clear HH0
              go_wp2_with (first | ((with_reducible refine gate_ (.mapUpdate 66 (.tmp 48) (.tmp 50) (.const (.bool true))) rfl ?_); refine wpList_mapUpdate_own _ rfl _ _ _ 66 rfl 9 4 (Go.Maps.string_keyed Tryz.underlying9) Tryz.underlying66 heldT _ _ _ rfl HO4.out (by unfold maxLen; omega) _ _ _ rfl rfl (kd _ (by omega)) _ [] rfl ?_; intro w7 hown7 hgrow7; have hP7 : PB w7 pb p.f0 p.f1 p.f2 p.f3 := blk_grown hP4 hgrow7 (by simp only [ne_eq, Option.some.injEq]; omega); have j0 := hP7.c0; have j1 := hP7.c1; have j2 := hP7.c2; have HO7 := Aside0.mk hown7; have HB7 := Aside0.mk (HB4.out.grown hgrow7 HB4.out.size (fun b e => by cases e; exact Nat.le_refl _)); clear hown7 hgrow7))
              go_roundw
              case rel => exact ⟨n + 1, _, p.f0 :: seen, _, by omega, by go_num, rfl, HH1, HO7, ⟨HS.out.put p.f0⟩, HB7⟩
              case measure => simp [intOf]; omega
      · rw [if_pos hz] at hH; cases hH
    · obtain rfl : n = l.length := by omega
      have hltd : decide ((l.length : Int) < (l.length : Int)) = false := decide_eq_false (by omega)
      have hH := HH.out
      rw [List.drop_length, tailF] at hH
      obtain ⟨rfl, rfl⟩ := Prod.mk.inj (Option.some.inj hH)
      clear hH HH
      go_wp2
      go_ret2
      exact ⟨rfl, HB.out⟩
def sfitem_Tail.f (a0 : List S60) : Option (ByteArray × Int) := if a0.length ≤ 140737488355327 then tailF a0 [] ⟨#[]⟩ else none
theorem sfitem_Tail.calls (A0 : Option Addr) (c0 : Nat) (l0 : List S60) (r1 : ByteArray) (r2 : Int) (w : World) (hT_ : Aside0 (TabW w)) (hr0 : Kd.C k60 w A0 l0.length l0) (hc0 : l0.length ≤ c0) (h : sfitem_Tail.f l0 = some (r1, r2)) :
    Calls Tryz.prog 22 #[.slice A0 l0.length c0] w fun e w' => e = .returned (.tuple #[.string r1, .int .i64 r2]) ∧ Below w.heap.size w w' := by
  unfold sfitem_Tail.f at h
  by_cases hl : l0.length ≤ 140737488355327
  · rw [if_pos hl] at h
    exact Tail_calls A0 c0 l0 r1 r2 w hT_ hr0 hl h
  · rw [if_neg hl] at h; cases h
open Go.Proofs.YtjdbiicjfpgjkaaGreatDoor.Sf
section
variable {F : Fence} {nF : Nat} {P : Program} {ops : Array Oper} {rest : List Oper} {o : Oper} {a : Act} {Q : Exit → Act → World → Prop} {α : Type}
/-- A store of a whole element into an own row, in a fence. -/
theorem R_storeIn (d : Kd α) {W : World} (base : Nat) (hN : o.dst = none) (hgd : o.guard = none) (t : TypeId) (p x : Operand) (ho : o.op = .store t p x) (e : TypeId) {g n cap o' : Nat} (i : Nat) (xs : List α) (x' : α) (u : Value) (seg : List Value) (ok okp : Nat → Prop)
    (haddr : a.eval p = .pointer (some ⟨g, o', none⟩)) (hoff : o' = i * d.sz) (hx : a.eval x = u) (hu : u.cells.toList = seg) (ht : (P.info? t).map (·.size) = some seg.length) (h1 : ∀ q ∈ seg, q.oneCell' = true)
    (HO : d.R e W base ok (.slice (some ⟨g, 0, none⟩) n cap) xs) (hi : i < n) (z : α) (hM : d.M W base okp x' seg) (hokp : ∀ k, okp k → ok k ∧ k ≠ g)
    (h : ∀ w1, d.R e w1 base ok (.slice (some ⟨g, 0, none⟩) n cap) (xs.set i x') → W.grownBy w1 (some g) → wpListIn F nF P ops Q rest a w1) : wpListIn F nF P ops Q (o :: rest) a W := by
  subst hoff
  obtain ⟨c, hcl, _, hcc, _⟩ := Kd.R_elem HO z (i : Int) (by omega) (by omega)
  have hl : seg.length = d.sz := d.K_len (d.K_of_M hM)
  have hM2 : d.M W base okp x' (c.take 0 ++ seg ++ c.drop (0 + seg.length)) := by
    rw [List.take_zero, List.nil_append, Nat.zero_add, hl, ← hcl, List.drop_length, List.append_nil]
    exact hM
  obtain ⟨hrow, hg⟩ := Kd.R_seg (j := 0) HO (i : Int) (by omega) (by omega) hcl hcc (by omega) hM2 hokp
  simp only [Int.toNat_natCast, Nat.add_zero] at hrow hg
  have hnx : n = xs.length := (Kd.R_reads' HO).1
  obtain ⟨_, inner, hown, hr⟩ := HO
  have hrun : (Instr.storeAt t (.pointer (some ⟨g, i * d.sz, none⟩)) u).run P W = .ok () (W.setCells g (i * d.sz) seg) := by
    rcases hown.2 with ⟨hv, _⟩ | ⟨g', cap', cur, hv, hb, hh, hnc, hcm, hcs, _⟩
    · cases hv
    injection hv with ha _ hc
    injection ha with ha
    injection ha with hg'
    subst hg'; subst hc
    refine run_store_run t u seg hh hu ht ?_ h1
    have h2 : i * d.sz + d.sz ≤ n * d.sz := by rw [← Nat.succ_mul]; exact Nat.mul_le_mul_right _ hi
    have h3 : n * d.sz ≤ cap * d.sz := Nat.mul_le_mul_right _ (by omega)
    omega
  refine wpListIn_plain hgd fun K hK => ?_
  unfold Oper.wpIn
  refine ⟨by simp [Oper.about, ho], ?_⟩
  rw [Oper.semAt_plain F _ _ (by rw [ho]; intro c hc'; cases hc')]
  simp only [execOp, ho, haddr, hx, Sem.run_bind, Sem.run_pure, Result.andThen_ok, hrun]
  show K (a.put o.dst undef) _
  rw [hN]
  exact hK a _ (h _ hrow hg)
theorem gate_In {W : World} (op : Op) (_ho : o.op = op) (h : wpListIn F nF P ops Q (o :: rest) a W) : wpListIn F nF P ops Q (o :: rest) a W := h
/-- A look-up whose answer is known. -/
theorem look_okIn {W : World} (hg : o.guard = none) (m x : Operand) (t : TypeId) (hop : o.op = Op.lookup t m x true) (k e : TypeId) (K : Go.Maps.Keyed P k) (ht : P.underlying t = some (.map k e)) {z : Value} (hz : (zeroValue e).run P W = .ok z W)
    (b n : Nat) (D : DataW Value) (hm : a.eval m = .map (some b)) (hown : W.ownsMap P k heldT b n D) (key : Value) (kl : Lit) (hx : a.eval x = key) (hkey : keyOf P k key = some kl) (u : Value) (bb : Bool) (hat : D.atKey kl (.held z) = .held u) (hhas : Go.Maps.has D kl = bb)
    (hK : wpListIn F nF P ops Q rest (a.put o.dst (.tuple #[u, .bool bb])) W) : wpListIn F nF P ops Q (o :: rest) a W :=
  wpListIn_lookup_own_ok W hg m x t hop k e K ht heldT hz (.held z) [] rfl b n D hm hown key kl hx hkey (fun v ps hv => by
    have e1 : v = u := by
      unfold heldT at hv
      rw [hat] at hv
      simp only [Option.some.injEq, Prod.mk.injEq, DataW.held.injEq] at hv
      exact hv.1
    rw [e1, hhas]
    exact hK)
end
theorem Kd.M_mono_ {α : Type} {d : Kd α} {w : World} {base : Nat} {okp okp2 : Nat → Prop} {x : α} {cs : List Value} (h : d.M w base okp x cs) (hm : ∀ k, okp k → okp2 k) : d.M w base okp2 x cs := d.M_mono hm h
/-- Where a key stands. -/
def idxK (l : List S34) (s : ByteArray) : Option Nat := (l.map (fun m => m.f0)).findIdx? (fun x => decide (x = s))
def putM (l : List S34) (m : S34) : List S34 :=
  match idxK l m.f0 with
  | some i => l.set i m
  | none => l ++ [m]
/-- A dictionary's members: one of each key, the last, at the first one's place. -/
def dictOf (l : List S34) : List S34 := l.foldl putM []
theorem dictOf_snoc (l : List S34) (m : S34) : dictOf (l ++ [m]) = putM (dictOf l) m := by simp [dictOf]
theorem putM_len (l : List S34) (m : S34) : (putM l m).length ≤ l.length + 1 := by
  unfold putM
  split <;> simp
theorem dictOf_len (l : List S34) : (dictOf l).length ≤ l.length := by
  have h : ∀ (l k : List S34), (l.foldl putM k).length ≤ k.length + l.length := by
    intro l
    induction l with
    | nil => intro k; simp
    | cons m l ih => intro k; have h1 := ih (putM k m); have h2 := putM_len k m; simp only [List.foldl_cons, List.length_cons]; omega
  have h1 := h l []
  simpa [dictOf] using h1
theorem idxK_some {l : List S34} {s : ByteArray} {i : Nat} (h : idxK l s = some i) : ∃ hi : i < l.length, (l[i]).f0 = s := by
  unfold idxK at h
  obtain ⟨hi, hp, _⟩ := List.findIdx?_eq_some_iff_getElem.1 h
  rw [List.length_map] at hi
  exact ⟨hi, by simpa using hp⟩
theorem idxK_set {l : List S34} {m : S34} {i : Nat} (h : idxK l m.f0 = some i) (s : ByteArray) : idxK (l.set i m) s = idxK l s := by
  obtain ⟨hi, he⟩ := idxK_some h
  unfold idxK
  congr 1
  rw [List.map_set, ← he]
  apply List.ext_getElem
  · simp
  · intro j h1 h2
    rw [List.getElem_set]
    split
    · rename_i h3; subst h3; simp
    · rfl
theorem idxK_snoc (l : List S34) (m : S34) (s : ByteArray) : idxK (l ++ [m]) s = (idxK l s).or (if m.f0 = s then some l.length else none) := by
  unfold idxK
  rw [List.map_append, List.findIdx?_append]
  congr 1
  by_cases h : m.f0 = s <;> simp [h, List.findIdx?_cons]
/-- The map knows the keys' places. -/
def KeysAt (D : DataW Value) (l : List S34) : Prop :=
  Go.Maps.IsMap D ∧ ∀ s : ByteArray, Go.Maps.has D (keyT s) = (idxK l s).isSome ∧ D.atKey (keyT s) (.held (.int .i64 0)) = .held (.int .i64 (((idxK l s).getD 0 : Nat) : Int))
theorem KeysAt.start : KeysAt (.map []) [] := ⟨⟨[], rfl⟩, fun s => ⟨rfl, rfl⟩⟩
theorem KeysAt.set {D : DataW Value} {l : List S34} {m : S34} {i : Nat} (h : KeysAt D l) (hi : idxK l m.f0 = some i) : KeysAt D (l.set i m) :=
  ⟨h.1, fun s => by rw [idxK_set hi]; exact h.2 s⟩
theorem KeysAt.snoc {D : DataW Value} {l : List S34} {m : S34} (h : KeysAt D l) (hi : idxK l m.f0 = none) : KeysAt (D.put (keyT m.f0) (.held (.int .i64 (l.length : Int)))) (l ++ [m]) := by
  refine ⟨h.1.put _ _, fun s => ?_⟩
  rw [idxK_snoc]
  by_cases e : s = m.f0
  · subst e
    rw [Go.Maps.has_put_same h.1 (keyT_is _), Go.Maps.atKey_put_same h.1 (keyT_is _), hi]
    simp
  · have e2 : ¬ m.f0 = s := fun h => e h.symm
    rw [Go.Maps.has_put_other (fun e' => e (keyT_inj e')), Go.Maps.atKey_put_other (fun e' => e (keyT_inj e')), if_neg e2, Option.or_none]
    exact h.2 s
def gatherD (ys : List (S34 × Int)) : (List S34) × Int :=
  match ys.find? (fun y => y.2 != 0) with
  | some y => ([], y.2)
  | none => (dictOf (ys.map Prod.fst), 0)
theorem gatherD_good {xs : List YM} (h : ∀ x ∈ xs, x.e = 0) : gatherD (xs.map YM.pr) = (dictOf (xs.map YM.m), 0) := by
  unfold gatherD
  have e : (xs.map YM.pr).find? (fun y => y.2 != 0) = none := by
    rw [List.find?_eq_none]
    intro y hy
    obtain ⟨x, hx, rfl⟩ := List.mem_map.1 hy
    simp [YM.pr, h x hx]
  rw [e]
  simp [YM.pr, Function.comp_def]
theorem gatherD_bad {xs : List YM} {x : YM} {ys : List (S34 × Int)} (h : ∀ y ∈ xs, y.e = 0) (hx : x.e ≠ 0) (hp : (xs ++ [x]).map YM.pr <+: ys) : gatherD ys = ([], x.e) := by
  obtain ⟨zs, rfl⟩ := hp
  unfold gatherD
  have e : (xs.map YM.pr).find? (fun y => y.2 != 0) = none := by
    rw [List.find?_eq_none]
    intro y hy
    obtain ⟨x, hx, rfl⟩ := List.mem_map.1 hy
    simp [YM.pr, h x hx]
  rw [List.map_append, List.append_assoc, List.find?_append, e]
  simp [YM.pr, hx]
def sfield_Dict.f (k : Nat) (s : ByteArray) : Option ((List S34) × Int) := (membersF (sfield_keyed.f k) k s).bind fun ys => if ys.length ≤ 1000000 ∧ (∀ y ∈ ys, y.1.f0.size ≤ 281474976710656) then some (gatherD ys) else none
theorem sfield_Dict.mono : ∀ a0 k, LeO (sfield_Dict.f k a0) (sfield_Dict.f (k + 1) a0) := by
  intro a0 k r h
  unfold sfield_Dict.f at h ⊢
  obtain ⟨ys, hys, h⟩ := Option.bind_eq_some_iff.1 h
  rw [membersF_mono (fun s => sfield_keyed.mono s k) k a0 ys hys]
  exact h
/-- What is gathered so far. -/
structure DiAt (w : World) (pre : List YM) (W : World) : Prop where
  row : ∃ v, Boxed W (w.heap.size + 1 + 1) 23 v ∧ Kd.R k34 34 W (w.heap.size + 7) (fun _ => True) v (dictOf (pre.map YM.m))
  keys : ∃ (n : Nat) (D : DataW Value), n ≤ pre.length ∧ W.ownsMap Tryz.prog 9 heldT (w.heap.size + 1 + 1 + 1) n D ∧ KeysAt D (dictOf (pre.map YM.m))
  mbox : Boxed W (w.heap.size + 1 + 1 + 1 + 1) 51 (.map (some (w.heap.size + 1 + 1 + 1)))
  r1 : Boxed W w.heap.size 23 (.slice none 0 0)
  r2 : Boxed W (w.heap.size + 1) 24 (.int .i64 0)
  good : ∀ x ∈ pre, YM.e x = 0
  bel : Below w.heap.size w W
  size : w.heap.size + 7 ≤ W.heap.size
theorem DiAt.own (w : World) (B : Nat) (hB : w.heap.size + 7 ≤ B) : OwnFrom B (DiAt w) := by
  intro s W W' row h hg hr
  obtain ⟨v, h1, h2⟩ := h.row
  obtain ⟨n, D, h3, h4, h5⟩ := h.keys
  have bx : ∀ {b : Nat} {t : TypeId} {v : Value}, Boxed W b t v → Boxed W' b t v := fun h => boxed_from (β := Unit) B _ _ _ () W W' row h hg hr
  exact ⟨⟨v, bx h1, R_from h2 hg hr⟩, ⟨n, D, h3, h4.kept hg (fun e => by have := (hr _ e.symm).1; omega), h5⟩, bx h.mbox, bx h.r1, bx h.r2, h.good, h.bel.grown hg h.bel.size (fun k e => by have := (hr k e).1; omega), Nat.le_trans h.size hg.size⟩
theorem DiAt.rowAt {w : World} {pre : List YM} {W0 W : World} (h : DiAt w pre W0) (hb : Below W0.heap.size W0 W) : ∃ v, Boxed W (w.heap.size + 1 + 1) 23 v ∧ Kd.R k34 34 W (w.heap.size + 7) (fun k => k < W0.heap.size) v (dictOf (pre.map YM.m)) := by
  obtain ⟨v, h1, h2⟩ := h.row
  exact ⟨v, h1.kept (grown_of_below hb none) (by simp), Kd.R_below (Kd.R_mono (Kd.R_bound h2) (fun k hk => hk.2.2.1)) hb⟩
theorem DiAt.next {w : World} {pre : List YM} {x : YM} {W W' : World} (h : DiAt w pre W) (hlow : ∀ k, k < w.heap.size + 7 → k ≠ w.heap.size + 1 + 1 → k ≠ w.heap.size + 1 + 1 + 1 → W'.heap[k]? = W.heap[k]?) (hsz : W.heap.size ≤ W'.heap.size)
    (hrow : ∃ v, Boxed W' (w.heap.size + 1 + 1) 23 v ∧ Kd.R k34 34 W' (w.heap.size + 7) (fun _ => True) v (putM (dictOf (pre.map YM.m)) x.m))
    (hkeys : ∃ (n : Nat) (D : DataW Value), n ≤ pre.length + 1 ∧ W'.ownsMap Tryz.prog 9 heldT (w.heap.size + 1 + 1 + 1) n D ∧ KeysAt D (putM (dictOf (pre.map YM.m)) x.m)) (he : x.e = 0) (hbel : Below w.heap.size w W') : DiAt w (pre ++ [x]) W' := by
  have bx : ∀ {b : Nat} {t : TypeId} {v : Value}, b < w.heap.size + 7 → b ≠ w.heap.size + 1 + 1 → b ≠ w.heap.size + 1 + 1 + 1 → Boxed W b t v → Boxed W' b t v := fun h1 h2 h3 hb => (hlow _ h1 h2 h3).trans hb
  have e : (pre ++ [x]).map YM.m = pre.map YM.m ++ [x.m] := by rw [List.map_append]; rfl
  refine ⟨by rw [e, dictOf_snoc]; exact hrow, by rw [e, dictOf_snoc]; simpa using hkeys, bx (by omega) (by omega) (by omega) h.mbox, bx (by omega) (by omega) (by omega) h.r1, bx (by omega) (by omega) (by omega) h.r2, ?_, hbel, Nat.le_trans h.size hsz⟩
  intro y hy
  rcases List.mem_append.1 hy with h' | h'
  · exact h.good y h'
  · rw [List.mem_singleton.1 h']; exact he
theorem M_grownLow {α : Type} {d : Kd α} {W w1 : World} {base j : Nat} {okp : Nat → Prop} {x : α} {cs : List Value} (h : d.M W base okp x cs) (hg : W.grownBy w1 (some j)) (hj : j < base) : d.M w1 base okp x cs :=
  Kd.M_mono_ (Kd.M_grown (d.M_bound h) hg (fun k hk e => by have := hk.2.1; injection e with e; omega)) (fun _ hk => hk.1)
theorem R_grownLow {α : Type} {d : Kd α} {e : Nat} {W w1 : World} {base j : Nat} {ok : Nat → Prop} {v : Value} {xs : List α} (h : d.R e W base ok v xs) (hg : W.grownBy w1 (some j)) (hj : j < base) : d.R e w1 base ok v xs :=
  Kd.R_mono (Kd.R_grown (Kd.R_bound h) hg (fun k hk e => by have := hk.2.1; injection e with e; omega)) (fun _ hk => hk.1)
theorem DiAt.put {w W w1 : World} {pre : List YM} {x : YM} {g i n1 cap : Nat} (h : DiAt w pre W) (hv : Boxed W (w.heap.size + 1 + 1) 23 (.slice (some ⟨g, 0, none⟩) n1 cap)) (hgb : w.heap.size + 7 ≤ g) (hcell : ∃ cells, W.heap[g]? = some (.cells cells 34 (0, 0)))
    (hR1 : Kd.R k34 34 w1 (w.heap.size + 7) (fun _ => True) (.slice (some ⟨g, 0, none⟩) n1 cap) ((dictOf (pre.map YM.m)).set i x.m)) (hg : W.grownBy w1 (some g)) (hix : idxK (dictOf (pre.map YM.m)) x.m.f0 = some i) (he : x.e = 0) :
    KeepsFrom (w.heap.size + 7) W w1 ∧ KpOut (w.heap.size + 7) (fun q => q = w.heap.size + 1 + 1 ∨ q = w.heap.size + 1 + 1 + 1) W w1 ∧ DiAt w (pre ++ [x]) w1 := by
  have hms := h.size
  have hlow : ∀ k, k < w.heap.size + 7 → w1.heap[k]? = W.heap[k]? := fun k hk => hg.block k (by omega) (fun e => by injection e with e; omega)
  have hput : putM (dictOf (pre.map YM.m)) x.m = (dictOf (pre.map YM.m)).set i x.m := by unfold putM; rw [hix]
  obtain ⟨n, D, hn, hown, hK⟩ := h.keys
  refine ⟨⟨hg.size, fun k o hk hko hc => ?_⟩, ⟨hg.size, fun k hk _ => hlow k hk⟩, h.next (fun k hk _ _ => hlow k hk) hg.size ⟨_, (hlow _ (by omega)).trans hv, by rw [hput]; exact hR1⟩ ⟨n, D, by omega, hown.kept hg (fun e => by injection e with e; omega), by rw [hput]; exact hK.set hix⟩ he (h.bel.grown hg h.bel.size (fun k e => by injection e with e; omega))⟩
  refine (hg.block k (Array.getElem?_eq_some_iff.1 hko).1 (fun e => ?_)).trans hko
  injection e with e
  subst e
  obtain ⟨cells, hcell⟩ := hcell
  rw [hcell] at hko
  cases hko
  cases hc
theorem DiAt.snoc {w W w1 w2 : World} {pre : List YM} {x : YM} {v v2 : Value} {tmp : Obj} {n : Nat} {D : DataW Value} {ok : Nat → Prop} (h : DiAt w pre W) (hv : Boxed W (w.heap.size + 1 + 1) 23 v) (hR : Kd.R k34 34 W (w.heap.size + 7) ok v (dictOf (pre.map YM.m)))
    (hg1 : W.grownBy w1 (some (w.heap.size + 1 + 1 + 1))) (hn : n ≤ pre.length) (hK : KeysAt D (dictOf (pre.map YM.m))) (hix : idxK (dictOf (pre.map YM.m)) x.m.f0 = none)
    (hown1 : w1.ownsMap Tryz.prog 9 heldT (w.heap.size + 1 + 1 + 1) (n + 1) (D.put (keyT x.m.f0) (.held (.int .i64 ((dictOf (pre.map YM.m)).length : Int)))))
    (hR2 : Kd.R k34 34 w2 (w.heap.size + 7) (fun _ => True) v2 (dictOf (pre.map YM.m) ++ [x.m])) (hg2 : (w1.alloc tmp).grownBy w2 v.ownBlock) (he : x.e = 0) :
    KeepsFrom (w.heap.size + 7) W (w2.setCell ⟨w.heap.size + 1 + 1, 0, none⟩ v2) ∧ KpOut (w.heap.size + 7) (fun q => q = w.heap.size + 1 + 1 ∨ q = w.heap.size + 1 + 1 + 1) W (w2.setCell ⟨w.heap.size + 1 + 1, 0, none⟩ v2) ∧ DiAt w (pre ++ [x]) (w2.setCell ⟨w.heap.size + 1 + 1, 0, none⟩ v2) := by
  have hms := h.size
  have hbase : ∀ k, v.ownBlock = some k → w.heap.size + 7 ≤ k := Kd.R_base hR
  have hs1 := hg1.size
  have hs2 : w1.heap.size ≤ w2.heap.size := Nat.le_trans (by simp) hg2.size
  have hset : ∀ k, k ≠ w.heap.size + 1 + 1 → (w2.setCell ⟨w.heap.size + 1 + 1, 0, none⟩ v2).heap[k]? = w2.heap[k]? := fun k hk => Below.heap_setCell w2 ⟨_, 0, none⟩ v2 k hk
  have hssz : (w2.setCell ⟨w.heap.size + 1 + 1, 0, none⟩ v2).heap.size = w2.heap.size := by simp
  have h12 : ∀ k, k < w1.heap.size → some k ≠ v.ownBlock → w2.heap[k]? = w1.heap[k]? := fun k hk h => (hg2.block k (by simp; omega) h).trans (Below.heap_alloc w1 tmp k hk)
  have h01 : ∀ k, k < W.heap.size → k ≠ w.heap.size + 1 + 1 + 1 → w1.heap[k]? = W.heap[k]? := fun k hk h => hg1.block k hk (fun e => by injection e with e; omega)
  have hlow : ∀ k, k < w.heap.size + 7 → k ≠ w.heap.size + 1 + 1 + 1 → w2.heap[k]? = W.heap[k]? := fun k hk h => (h12 k (by omega) (fun e => by have := hbase k e.symm; omega)).trans (h01 k (by omega) h)
  have hput : putM (dictOf (pre.map YM.m)) x.m = dictOf (pre.map YM.m) ++ [x.m] := by unfold putM; rw [hix]
  have hgs := grownBy_setCell' w2 (w.heap.size + 1 + 1) v2
  have b1 : Boxed w2 (w.heap.size + 1 + 1) 23 v := (hlow _ (by omega) (by omega)).trans hv
  have hR3 : Kd.R k34 34 (w2.setCell ⟨w.heap.size + 1 + 1, 0, none⟩ v2) (w.heap.size + 7) (fun _ => True) v2 (dictOf (pre.map YM.m) ++ [x.m]) := R_grownLow hR2 hgs (by omega)
  have hown3 := ((hown1.alloc tmp).kept hg2 (fun e => by have := hbase _ e.symm; omega)).kept hgs (fun e => by injection e with e; omega)
  have hbel : Below w.heap.size w (w2.setCell ⟨w.heap.size + 1 + 1, 0, none⟩ v2) := (((h.bel.grown hg1 h.bel.size (fun k e => by injection e with e; omega)).alloc (by omega) tmp).grown hg2 (by simp; omega) (fun k e => by have := hbase k e; omega)).setCell (p := ⟨w.heap.size + 1 + 1, 0, none⟩) (by simp only; omega) v2
  refine ⟨⟨by omega, fun k o hk hko hc => ?_⟩, ⟨by omega, fun k hk hp => ?_⟩, h.next (fun k hk h2 h3 => (hset k h2).trans (hlow k hk h3)) (by omega) ⟨_, b1.set v2, by rw [hput]; exact hR3⟩ ⟨n + 1, _, by omega, hown3, by rw [hput]; exact hK.snoc hix⟩ he hbel⟩
  · rw [hset k (by omega)]
    have hkl := (Array.getElem?_eq_some_iff.1 hko).1
    refine ((h12 k (by omega) (fun e => ?_)).trans (h01 k hkl (by omega))).trans hko
    obtain ⟨cells, hcell⟩ := Kd.R_typed hR k e.symm
    rw [hcell] at hko
    cases hko
    cases hc
  · rw [hset k (fun e => hp (.inl e))]
    exact hlow k hk (fun e => hp (.inr e))
/-- How a dictionary's loop stops. -/
def DiX (w : World) (c : Code) (pre : List YM) (W : World) : Prop :=
  c = .ret ∧ ∃ p0 x, pre = p0 ++ [x] ∧ (∀ y ∈ p0, YM.e y = 0) ∧ YM.e x ≠ 0 ∧ Boxed W w.heap.size 23 (.slice none 0 0) ∧ Boxed W (w.heap.size + 1) 24 (.int .i64 x.e) ∧ Below w.heap.size w W
theorem DiX.own (w : World) (B : Nat) (hB : w.heap.size ≤ B) (c : Code) : OwnFrom B (DiX w c) := by
  rintro s W W' row ⟨hc, p0, x, e, h0, hx, h1, h3, h5⟩ hg hr
  exact ⟨hc, p0, x, e, h0, hx, boxed_from (β := Unit) B _ _ _ () W W' row h1 hg hr, boxed_from (β := Unit) B _ _ _ () W W' row h3 hg hr, h5.grown hg h5.size (fun k e => Nat.le_trans hB (hr k e).1)⟩
/-- A round's start. -/
def DiA (w : World) (ys : List (S34 × Int)) (act : YM → Nat → Act) (pre : List YM) (x : YM) (a' : Act) (W : World) : Prop :=
  ∃ mb b, a' = act x mb ∧ MemAt x mb W ∧ w.heap.size + 7 ≤ mb ∧ (∃ v, Boxed W (w.heap.size + 1 + 1) 23 v ∧ Kd.R k34 34 W (w.heap.size + 7) (fun k => k < b) v (dictOf (pre.map YM.m))) ∧ PxY x b W ∧ w.heap.size + 7 ≤ b ∧ (pre ++ [x]).map YM.pr <+: ys
theorem DiA.own (w : World) (B : Nat) (ys : List (S34 × Int)) (act : YM → Nat → Act) (pre : List YM) (x : YM) (a' : Act) : OwnFrom B (fun (_ : Unit) W => DiA w ys act pre x a' W) := by
  rintro s W W' row ⟨mb, b, h1, h2, h3, ⟨v, h4, h4'⟩, h5, h6⟩ hg hr
  exact ⟨mb, b, h1, h2.from hg hr, h3, ⟨v, boxed_from (β := Unit) B _ _ _ () W W' row h4 hg hr, R_from h4' hg hr⟩, h5.from hg hr, h6⟩
attribute [local go_sem] Oper.semAt_some in
set_option maxRecDepth 100000 in
set_option maxHeartbeats 8000000 in
theorem sfield_Dict.calls (k : Nat) (s : ByteArray) (r1 : List S34) (r2 : Int) (w : World) (h : sfield_Dict.f k s = some (r1, r2)) :
    Calls Tryz.prog 12 #[.string s] w fun e w' => ∃ v0_ : Value, e = .returned (.tuple #[v0_, .int .i64 r2]) ∧ Kd.R k34 34 w' w.heap.size (fun _ => True) v0_ r1 ∧ Below w.heap.size w w' := by
  unfold sfield_Dict.f at h
  obtain ⟨ys, hys, h⟩ := Option.bind_eq_some_iff.1 h
  have hlen : ys.length ≤ 1000000 ∧ (∀ y ∈ ys, y.1.f0.size ≤ 281474976710656) := Classical.byContradiction fun hn => by rw [if_neg hn] at h; cases h
  rw [if_pos hlen] at h
  have HG := Aside0.mk (Option.some.inj h)
  have HY := Aside0.mk hys
  have HL := Aside0.mk hlen
  clear h hys hlen
  have hmm := @run_makeMap Tryz.prog
  have kd : ∀ s : ByteArray, s.size ≤ 281474976710656 → keyOf Tryz.prog 9 (.string s) = some (keyT s) := fun s hs => WideMaps.keyOf_string_mk Tryz.underlying9 (by unfold maxLen; omega)
  obtain ⟨i0, hi, hz0, hz1, hz2⟩ := info_parts info34
  refine (callsIn_wide (n := 5)).1 ?_
  refine callsIn_of_wp_marks Tryz.func12 rfl trivial ?_ rfl
  simp only [Tryz.ntmps12, List.size_toArray, List.length_cons, List.length_nil, Nat.reduceAdd, Nat.reduceSub, Array.replicate_succ, Array.replicate_zero, List.push_toArray, List.append_toArray, List.nil_append, List.cons_append]
  have fw1 : Fence.wide.fn 23 := trivial
  have HV := Aside0.mk (fun W => members_any s (.func 26) W)
  gi_wp2_with (gi_at_call 23; refine (callsIn_wide.2 (HV.out _)).mono ?_; rintro e w' ⟨rfl, rfl⟩)
  have bR := Boxed.new w 23 (.slice none 0 0)
  have bE := Boxed.new (w.alloc (.cells #[.slice none 0 0] 23)) 24 (.int .i64 0)
  have bO := Boxed.new ((w.alloc (.cells #[.slice none 0 0] 23)).alloc (.cells #[.int .i64 0] 24)) 23 (.slice none 0 0)
  have oM := World.ownsMap_made (H := Value) (((w.alloc (.cells #[.slice none 0 0] 23)).alloc (.cells #[.int .i64 0] 24)).alloc (.cells #[.slice none 0 0] 23)) Tryz.prog 9 heldT
  have bM := Boxed.new ((((w.alloc (.cells #[.slice none 0 0] 23)).alloc (.cells #[.int .i64 0] 24)).alloc (.cells #[.slice none 0 0] 23)).alloc (.map #[] 0)) 51 (.map (some (w.heap.size + 1 + 1 + 1)))
  have bL := Boxed.new (((((w.alloc (.cells #[.slice none 0 0] 23)).alloc (.cells #[.int .i64 0] 24)).alloc (.cells #[.slice none 0 0] 23)).alloc (.map #[] 0)).alloc (.cells #[.map (some (w.heap.size + 1 + 1 + 1))] 51)) 9 (.string s)
  have bN := Boxed.new ((((((w.alloc (.cells #[.slice none 0 0] 23)).alloc (.cells #[.int .i64 0] 24)).alloc (.cells #[.slice none 0 0] 23)).alloc (.map #[] 0)).alloc (.cells #[.map (some (w.heap.size + 1 + 1 + 1))] 51)).alloc (.cells #[.string s] 9)) 49 (.func (.func 26) #[] #[])
  simp only [World.size_alloc] at bE bO oM bM bL bN
  have hB0 : Below w.heap.size w (((((((w.alloc (.cells #[.slice none 0 0] 23)).alloc (.cells #[.int .i64 0] 24)).alloc (.cells #[.slice none 0 0] 23)).alloc (.map #[] 0)).alloc (.cells #[.map (some (w.heap.size + 1 + 1 + 1))] 51)).alloc (.cells #[.string s] 9)).alloc (.cells #[.func (.func 26) #[] #[]] 49)) := (((((((Below.refl _ w).alloc (Nat.le_refl _) _).alloc (by simp) _).alloc (by simp; omega) _).alloc (by simp; omega) _).alloc (by simp; omega) _).alloc (by simp; omega) _).alloc (by simp; omega) _
  have hS0 : (((((((w.alloc (.cells #[.slice none 0 0] 23)).alloc (.cells #[.int .i64 0] 24)).alloc (.cells #[.slice none 0 0] 23)).alloc (.map #[] 0)).alloc (.cells #[.map (some (w.heap.size + 1 + 1 + 1))] 51)).alloc (.cells #[.string s] 9)).alloc (.cells #[.func (.func 26) #[] #[]] 49)).heap.size = w.heap.size + 7 := by simp
  have oM2 := (((oM.alloc (.cells #[.map (some (w.heap.size + 1 + 1 + 1))] 51)).alloc (.cells #[.string s] 9)).alloc (.cells #[.func (.func 26) #[] #[]] 49))
  have HO2 := Aside0.mk oM2
  clear oM oM2
  refine range_told rfl (by omega) (gf := 39) (lb := #[.pointer (some ⟨w.heap.size + 1 + 1 + 1 + 1 + 1, 0, none⟩), .pointer (some ⟨w.heap.size + 1 + 1 + 1 + 1 + 1 + 1, 0, none⟩)]) rfl trivial (enters_of Tryz.func39 (by kernel_rfl) rfl)
    (members_k 4 (by omega) (sfield_keyed.f k) (fun s x W h => keyed_ten k s x W h) (w.heap.size + 7) (w.heap.size + 1 + 1 + 1 + 1 + 1) (w.heap.size + 1 + 1 + 1 + 1 + 1 + 1) k (fun q => q = w.heap.size + 1 + 1 ∨ q = w.heap.size + 1 + 1 + 1) s ys HY.out ⟨by omega, by omega⟩ ⟨by omega, by omega⟩ _ (by rw [hS0]; omega) (bL.alloc _).cell bN.cell)
    KpOut.trans (KpOut.putObj (by rw [hS0]; omega)) (fun _ => rfl)
    (DiAt w) (DiX w) (DiAt.own _ _ (by rw [hS0]; omega)) (DiX.own _ _ (by rw [hS0]; omega))
    ⟨⟨_, (((bO.alloc _).alloc _).alloc _).alloc _, Kd.R_nil _ _ _ _ _⟩, ⟨0, _, Nat.le_refl _, HO2.out, KeysAt.start⟩, (bM.alloc _).alloc _, (((((bR.alloc _).alloc _).alloc _).alloc _).alloc _).alloc _, ((((bE.alloc _).alloc _).alloc _).alloc _).alloc _, by simp, hB0, by rw [hS0]; omega⟩
    (DiA w ys (fun x mb => { tmps := #[.string s, undef, .pointer (some ⟨w.heap.size, 0, none⟩), .pointer (some ⟨w.heap.size + 1, 0, none⟩), .pointer (some ⟨w.heap.size + 1 + 1, 0, none⟩), .pointer (some ⟨w.heap.size + 1 + 1 + 1 + 1, 0, none⟩), .pointer (some ⟨mb, 0, none⟩), .int .i64 x.e, undef, undef, .map (some (w.heap.size + 1 + 1 + 1)), .string s, .func (.func 39) #[] #[.pointer (some ⟨w.heap.size + 1 + 1 + 1 + 1 + 1, 0, none⟩), .pointer (some ⟨w.heap.size + 1 + 1 + 1 + 1 + 1 + 1, 0, none⟩)], .agg #[.string x.m.f0, .bool x.m.f1, .int .i64 x.m.f2.f0, .int .i64 x.m.f2.f1, .string x.m.f2.f2, x.v5, x.v6, x.v7], .int .i64 x.e, undef, undef, undef, undef, undef, undef, undef, undef, undef, undef, undef, undef, undef, undef, undef, undef, undef, undef, undef, undef, undef, undef, undef, undef, undef], defers := [] }))
    (fun pre x a' => DiA.own _ _ _ _ pre x a') ?assign ?body ?done ?stop
  case assign =>
    intro l pre x W0 W K hI0 hB hI ⟨hpx, hx⟩ hK
    obtain ⟨xm, xe, v5, v6, v7⟩ := x
    obtain ⟨A5, c5, hv5⟩ := Kd.R_slice hx.1
    obtain ⟨A6, c6, hv6⟩ := Kd.R_slice (Kd.S_R hx.2.1)
    obtain ⟨A7, c7, hv7⟩ := Kd.R_slice hx.2.2
    dsimp only at hv5 hv6 hv7
    subst hv5 hv6 hv7
    have HI0 := Aside0.mk hI0
    have HI := Aside0.mk hI
    have HB := Aside0.mk hB
    have HX := Aside0.mk hx
    have HPX := Aside0.mk hpx
    clear hI0 hI hB hx hpx
    simp only [encY, YM.agg]
    gi_wp2
    have hg0 := fun o : Obj => World.grownBy_alloc W o none
    refine hK _ _ (KeepsFrom.of_grownBy (hg0 _) (fun _ e => by cases e)) (KpOut.below (below_alloc (Below.refl _ _) _) HI.out.size) ((DiAt.own w (w.heap.size + 7) (Nat.le_refl _)).alloc _ HI.out) ?_
    obtain ⟨v, hv1, hv2⟩ := HI0.out.rowAt HB.out
    exact ⟨W.heap.size, W0.heap.size, rfl, blk_new _ _, HI.out.size, ⟨v, hv1.alloc _, Kd.R_alloc hv2 _⟩, HX.out.from (B := 0) (hg0 _) (fun r e => by cases e), HI0.out.size, HPX.out⟩
  case body =>
    rintro l pre x a' W hI ⟨mb, b, rfl, hmb, hmm, ⟨v, hv, hR⟩, hx, hb, hpx⟩
    have hlt := hpx.length_le
    simp only [List.length_map, List.length_append, List.length_cons, List.length_nil] at hlt
    have hl5 := HL.out.1
    have hkz : x.m.f0.size ≤ 281474976710656 := HL.out.2 (x.m, x.e) (hpx.subset (by simp [YM.pr]))
    have kx := kd x.m.f0 hkz
    have hl6 := dictOf_len (pre.map YM.m)
    rw [List.length_map] at hl6
    obtain ⟨n, D, hn, hown, hKy⟩ := hI.keys
    obtain ⟨hhas, hat⟩ := hKy.2 x.m.f0
    have zE : (zeroValue 3).run Tryz.prog W = .ok (.int .i64 0) W := by kernel_rfl
    have HO := Aside0.mk hown
    have HK := Aside0.mk hKy
    have HV := Aside0.mk hv
    have HR := Aside0.mk hR
    have HI := Aside0.mk hI
    have HMB := Aside0.mk hmb
    have HX := Aside0.mk hx
    have c1 := hv.cell
    have f1 := hv.frozen
    have c2 := hI.mbox.cell
    have hmW := hI.size
    have q0 := blk_cell hmb 0
    have q1 := blk_cell hmb 1
    have q2 := blk_cell hmb 2
    have q3 := blk_cell hmb 3
    have q4 := blk_cell hmb 4
    have q5 := blk_cell hmb 5
    have q6 := blk_cell hmb 6
    have q7 := blk_cell hmb 7
    simp only [List.getElem?_toArray, List.getElem?_cons_succ, List.getElem?_cons_zero] at q0 q1 q2 q3 q4 q5 q6 q7
    clear hv hR hx hpx hown hKy hmb
    by_cases he : x.e = 0
    · have b3 : (x.e != 0) = false := by simp [he]
      have hMm := Aside0.mk (HX.out.M (m := w.heap.size + 7) hb v.ownBlock HR.out.1)
      clear hI
      cases hix : idxK (dictOf (pre.map YM.m)) x.m.f0 with
      | some i =>
        rw [hix] at hhas hat
        obtain ⟨hil, _⟩ := idxK_some hix
        have hput : putM (dictOf (pre.map YM.m)) x.m = (dictOf (pre.map YM.m)).set i x.m := by unfold putM; rw [hix]
        have HPUT := Aside0.mk hput
        have HIX := Aside0.mk hix
        clear hput hix
        simp only [Option.getD_some, Option.isSome_some] at hhas hat
        obtain ⟨g, cap, hvg, hgb, hgl, hcl⟩ := Kd.R_form HR.out (by omega)
        have HCL := Aside0.mk hcl
        clear hcl
        have hHR2 := HR.out
        rw [hvg] at c1 hHR2
        have HR2 := Aside0.mk hHR2
        clear hHR2
        have hMm2 := Aside0.mk (Kd.M_mono_ (hMm.out) (okp2 := fun k => True ∧ k ≠ g) (fun k hk => ⟨trivial, fun e => hk (by rw [hvg, e]; rfl)⟩))
        have p1 : (0 ≤ (i : Int)) = True := eq_true (by omega)
        have p2 : ((i : Int) < ((dictOf (pre.map YM.m)).length : Int)) = True := eq_true (by omega)
        gi_wp2_with (first | (gi_at_lookup; refine look_okIn rfl _ _ 51 rfl 9 3 (Go.Maps.string_keyed Tryz.underlying9) Tryz.underlying51 zE _ n D rfl HO.out _ _ rfl kx (.int .i64 i) true hat hhas ?_) | ((with_reducible refine gate_In (.store 34 (.tmp 29) (.tmp 28)) rfl ?_); refine R_storeIn k34 (w.heap.size + 7) rfl rfl 34 _ _ rfl 34 i (dictOf (pre.map YM.m)) x.m _ [.string x.m.f0, .bool x.m.f1, .int .i64 x.m.f2.f0, .int .i64 x.m.f2.f1, .string x.m.f2.f2, x.v5, x.v6, x.v7] (fun _ => True) (fun k => True ∧ k ≠ g) rfl rfl rfl rfl (by kernel_rfl) (k34.K_one (k34.K_of_M hMm.out)) (Kd.R_mono HR2.out (fun _ _ => trivial)) hil z34 hMm2.out (fun k hk => hk) ?_; intro w1 hR1 hg1; have HR1 := Aside0.mk hR1; have HG1 := Aside0.mk hg1; clear hR1 hg1))
        have hput := DiAt.put HI.out (hvg ▸ HV.out) hgb HCL.out HR1.out HG1.out HIX.out he
        exact ⟨by rw [hS0]; exact hput.1, hput.2⟩
      | none =>
        rw [hix] at hhas hat
        have hput : putM (dictOf (pre.map YM.m)) x.m = dictOf (pre.map YM.m) ++ [x.m] := by unfold putM; rw [hix]
        have HPUT := Aside0.mk hput
        have HIX := Aside0.mk hix
        clear hput hix
        simp only [Option.getD_none, Option.isSome_none] at hhas hat
        obtain ⟨A0, c0, hvs⟩ := Kd.R_slice HR.out
        subst hvs
        gi_upto_region 12 with (first | (gi_at_lookup; refine look_okIn rfl _ _ 51 rfl 9 3 (Go.Maps.string_keyed Tryz.underlying9) Tryz.underlying51 zE _ n D rfl HO.out _ _ rfl kx (.int .i64 0) false hat hhas ?_) | (gi_at_mapUpdate; refine wpListIn_mapUpdate_own W rfl _ _ _ 51 rfl 9 3 (Go.Maps.string_keyed Tryz.underlying9) Tryz.underlying51 heldT _ n D rfl HO.out (by unfold maxLen; omega) _ _ _ rfl rfl kx _ [] rfl ?_; intro w1 hown1 hgw1; have HO1 := Aside0.mk hown1; have HGW := Aside0.mk hgw1; clear hown1 hgw1))
        clear q0 q1 q2 q3 q4 q5 q6 q7 c1 f1 c2 hat hhas
        have hsW := HGW.out.size
        have hb1 : Boxed w1 (w.heap.size + 1 + 1) 23 (.slice A0 (dictOf (pre.map YM.m)).length c0) := HV.out.kept HGW.out (fun e => by injection e with e; omega)
        have c1 := hb1.cell
        have hmb1 : MemAt x mb w1 := (HGW.out.block mb (Array.getElem?_eq_some_iff.1 HMB.out).1 (fun e => by injection e with e; omega)).trans HMB.out
        have q0 := blk_cell hmb1 0
        have q1 := blk_cell hmb1 1
        have q2 := blk_cell hmb1 2
        have q3 := blk_cell hmb1 3
        have q4 := blk_cell hmb1 4
        have q5 := blk_cell hmb1 5
        have q6 := blk_cell hmb1 6
        have q7 := blk_cell hmb1 7
        simp only [List.getElem?_toArray, List.getElem?_cons_succ, List.getElem?_cons_zero] at q0 q1 q2 q3 q4 q5 q6 q7
        have HB1 := Aside0.mk hb1
        have HRW := Aside0.mk (R_grownLow HR.out HGW.out (by omega))
        have hMw := Aside0.mk (M_grownLow hMm.out HGW.out (by omega))
        have hne : some (w.heap.size + 1 + 1) ≠ (Value.slice A0 (dictOf (pre.map YM.m)).length c0).ownBlock := fun e => by have := Kd.R_base HR.out _ e.symm; omega
        clear hb1 hmb1
        gi_wp2_with (gi_at_builtin; refine R_appendIn k34 (w.heap.size + 7) rfl _ _ 23 34 i0 _ 128 rfl Tryz.underlying23 hi hz0 hz1 hz2 rfl (by decide) (.slice A0 (dictOf (pre.map YM.m)).length c0) (dictOf (pre.map YM.m)) x.m [.string x.m.f0, .bool x.m.f1, .int .i64 x.m.f2.f0, .int .i64 x.m.f2.f1, .string x.m.f2.f2, x.v5, x.v6, x.v7] (fun _ => True) (fun k => some k ≠ (Value.slice A0 (dictOf (pre.map YM.m)).length c0).ownBlock) rfl ⟨w1.heap.size, 0, none⟩ 1 rfl (cells_new w1 _ _) (Kd.M_below hMw.out (below_alloc (Below.refl _ _) _)) (fun k hk => ⟨trivial, hk⟩) (fun _ _ => trivial) (Kd.R_alloc (Kd.R_mono HRW.out (fun _ _ => trivial)) _) (by simp; omega) (by unfold maxLen; omega) (by omega) ?_; intro v1 w2 hR1 hg1 hat1; obtain ⟨A1, cc, hv1⟩ := Kd.R_slice hR1; generalize (dictOf (pre.map YM.m) ++ [x.m]).length = n1 at hv1; subst hv1; have hbx1 : Boxed w2 (w.heap.size + 1 + 1) 23 (.slice A0 (dictOf (pre.map YM.m)).length c0) := (HB1.out.alloc _).kept hg1 hne; have d1 := hbx1.cell; have e1 := hbx1.frozen; have HR1 := Aside0.mk hR1; have HG1 := Aside0.mk hg1; clear hR1 hg1 hat1 hbx1)
        have hput := DiAt.snoc HI.out HV.out HR.out HGW.out hn HK.out HIX.out HO1.out HR1.out HG1.out he
        exact ⟨by rw [hS0]; exact hput.1, hput.2⟩
    · have b3 : (x.e != 0) = true := by simp [he]
      have d1 := hI.r1.cell
      have e1 := hI.r1.frozen
      have d2 := hI.r2.cell
      have e2 := hI.r2.frozen
      clear hI q0 q1 q2 q3 q4 q5 q6 q7 c1 f1 c2
      gi_wp2
      exact ⟨((KeepsOthers.setCell _ _ _).from _).trans ((KeepsOthers.setCell _ _ _).from _), rfl, pre, x, rfl, HI.out.good, he, (HI.out.r1.set _).other (by omega) _, (HI.out.r2.other (by omega) _).set _, (HI.out.bel.setCell (p := ⟨w.heap.size, 0, none⟩) (Nat.le_refl _) _).setCell (p := ⟨w.heap.size + 1, 0, none⟩) (by simp only; omega) _⟩
  case done =>
    rintro D xs W hD rfl hG hK
    obtain ⟨v, hv, hR⟩ := hG.row
    have hGL := HG.out
    rw [gatherD_good hG.good] at hGL
    injection hGL with hg1 hg2
    subst hg1 hg2
    obtain ⟨A1, c1, hv1⟩ := Kd.R_slice hR
    generalize (dictOf (xs.map YM.m)).length = n1 at hv1
    subst hv1
    have q1 := hv.cell
    have d1 := hG.r1.cell
    have e1 := hG.r1.frozen
    have d2 := hG.r2.cell
    have e2 := hG.r2.frozen
    have HR := Aside0.mk hR
    have HG1 := Aside0.mk hG
    clear hR hv hG
    gi_wp2
    have hb8 : Boxed ((W.setCell ⟨w.heap.size, 0, none⟩ (.slice A1 n1 c1)).setCell ⟨w.heap.size + 1, 0, none⟩ (.int .i64 0)) w.heap.size 23 (.slice A1 n1 c1) := (HG1.out.r1.set _).other (by omega) _
    have hb9 : Boxed ((W.setCell ⟨w.heap.size, 0, none⟩ (.slice A1 n1 c1)).setCell ⟨w.heap.size + 1, 0, none⟩ (.int .i64 0)) (w.heap.size + 1) 24 (.int .i64 0) := (HG1.out.r2.other (by omega) _).set _
    have hK2 := ((KeepsOthers.setCell W ⟨w.heap.size, 0, none⟩ (.slice A1 n1 c1)).trans (KeepsOthers.setCell _ ⟨w.heap.size + 1, 0, none⟩ (.int .i64 0))).same D _ hK rfl
    have hR8 := R_grownLow (R_grownLow HR.out (grownBy_setCell' W w.heap.size (.slice A1 n1 c1)) (by omega)) (grownBy_setCell' _ (w.heap.size + 1) (.int .i64 0)) (by omega)
    have hB8 := (HG1.out.bel.setCell (p := ⟨w.heap.size, 0, none⟩) (Nat.le_refl _) (.slice A1 n1 c1)).setCell (p := ⟨w.heap.size + 1, 0, none⟩) (by simp only; omega) (.int .i64 0)
    have hDs : w.heap.size + 7 ≤ D := by simp at hD; omega
    generalize (W.setCell ⟨w.heap.size, 0, none⟩ (.slice A1 n1 c1)).setCell ⟨w.heap.size + 1, 0, none⟩ (.int .i64 0) = Wz at *
    refine ⟨by simp, .inl ⟨_, _, rfl, run_takeDeferred hK2, ?_⟩⟩
    have g8 : Boxed (Wz.putObj D (.deferred none)) w.heap.size 23 (.slice A1 n1 c1) := (World.putObj_heap_other (by omega)).trans hb8
    have g9 : Boxed (Wz.putObj D (.deferred none)) (w.heap.size + 1) 24 (.int .i64 0) := (World.putObj_heap_other (by omega)).trans hb9
    have k8 := g8.cell
    have k9 := g9.cell
    refine ⟨.tuple #[.slice A1 n1 c1, .int .i64 0], by simp [results, Tryz.results12, go_sem, k8, k9], ?_⟩
    exact ⟨_, rfl, Kd.R_lower (R_putObj hR8 hK2 rfl _) (by omega), hB8.trans (belowK_b (w := w) (Nat.le_refl _) _ D _ _ (by omega) hK2 rfl rfl)⟩
  case stop =>
    rintro D c pre W hD hp ⟨rfl, p0, x, rfl, h0, hx, h1, h2, hB⟩ hK
    have hGL := HG.out
    rw [gatherD_bad h0 hx hp] at hGL
    injection hGL with hg1 hg2
    subst hg1 hg2
    have H1 := Aside0.mk h1
    have H2 := Aside0.mk h2
    have HB := Aside0.mk hB
    clear hB h1 h2 h0 hp
    gi_wp2
    have hDs : w.heap.size + 7 ≤ D := by simp at hD; omega
    refine ⟨by simp, .inl ⟨_, _, rfl, run_takeDeferred hK, ?_⟩⟩
    have g8 : Boxed (W.putObj D (.deferred none)) w.heap.size 23 (.slice none 0 0) := (World.putObj_heap_other (by omega)).trans H1.out
    have g9 : Boxed (W.putObj D (.deferred none)) (w.heap.size + 1) 24 (.int .i64 x.e) := (World.putObj_heap_other (by omega)).trans H2.out
    have k8 := g8.cell
    have k9 := g9.cell
    refine ⟨.tuple #[.slice none 0 0, .int .i64 x.e], by simp [results, Tryz.results12, go_sem, k8, k9], ?_⟩
    exact ⟨_, rfl, Kd.R_nil _ _ _ _ _, HB.out.trans (belowK_b (w := w) (Nat.le_refl _) _ D _ _ (by omega) hK rfl rfl)⟩
def sfitem_Text.f (a0_0 : Int) (a0_1 : Int) (a0_2 : ByteArray) (l0_3 : List (S60)) : Option (ByteArray × Int) := (sfitem_value.f (⟨#[]⟩ : ByteArray) a0_0 a0_1 a0_2).bind fun bt195 => ((sfitem_Tail.f l0_3).bind fun bt197 => (if bt195.2 = true then (if bt197.2 = 0 then (if bt195.1.size + bt197.1.size ≤ 9223372036854775807 then (some (bt195.1 ++ bt197.1, 0)) else (none)) else (some ((⟨#[]⟩ : ByteArray), 50))) else (some ((⟨#[]⟩ : ByteArray), 50))))
set_option maxHeartbeats 8000000 in
set_option maxRecDepth 100000 in
theorem sfitem_Text.calls (a0_0 : Int) (a0_1 : Int) (a0_2 : ByteArray) (A0_3 : Option Addr) (c0_3 : Nat) (l0_3 : List (S60)) (r1 : ByteArray) (r2 : Int) (w : World) (hT_ : Aside0 (TabW w)) (hr0_3 : Kd.C k60 w A0_3 l0_3.length l0_3) (hc0_3 : l0_3.length ≤ c0_3) (h : sfitem_Text.f a0_0 a0_1 a0_2 l0_3 = some (r1, r2)) :
  Calls Tryz.prog 21 #[.agg #[.int .i64 a0_0, .int .i64 a0_1, .string a0_2, .slice A0_3 l0_3.length c0_3]] w fun e w' => e = .returned (.tuple #[.string r1, .int .i64 r2]) ∧ Below w.heap.size w w' := by
 have hu31 := Tryz.underlying31
 have hu60 := Tryz.underlying60
 have HR0_3 := Aside0.mk hr0_3
 have HC0_3 := Aside0.mk hc0_3
 clear hr0_3 hc0_3
 have HB := Aside0.mk (Below.refl w.heap.size w)
 have H : ((sfitem_value.f (⟨#[]⟩ : ByteArray) a0_0 a0_1 a0_2).bind fun bt195 => ((sfitem_Tail.f l0_3).bind fun bt197 => (if bt195.2 = true then (if bt197.2 = 0 then (if bt195.1.size + bt197.1.size ≤ 9223372036854775807 then (some (bt195.1 ++ bt197.1, 0)) else (none)) else (some ((⟨#[]⟩ : ByteArray), 50))) else (some ((⟨#[]⟩ : ByteArray), 50))))) = some (r1, r2) := h
 clear h
 replace H := Option.bind_eq_some_iff.mp H
 obtain ⟨⟨t195, t196⟩, A20, H⟩ := H
 (try dsimp only at H)
 have A2 := Aside0.mk A20
 clear A20
 replace H := Option.bind_eq_some_iff.mp H
 obtain ⟨⟨t197, t198⟩, A30, H⟩ := H
 (try dsimp only at H)
 have A3 := Aside0.mk A30
 clear A30
 by_cases c4 : t196 = true
 ·subst c4
  rw [if_pos rfl] at H
  by_cases c5 : t198 = 0
  ·rw [if_pos c5] at H
   obtain ⟨c5b0, c5b1⟩ := eT_ c5
   clear c5
   by_cases c6 : t195.size + t197.size ≤ 9223372036854775807
   ·rw [if_pos c6] at H
    have c6b0 := eq_true c6
    have c6b1 : decide (t195.size + t197.size ≤ 9223372036854775807) = true := decide_eq_true c6
    try have c6b2 : (9223372036854775807 < t195.size + t197.size) = False := eq_false (Nat.not_lt.2 c6)
    simp only [Option.some.injEq, Prod.mk.injEq] at H
    obtain ⟨rfl, rfl⟩ := H
    go_enter Tryz.func21, Tryz.ntmps21
    go_wp2_with (first | ((with_reducible refine gate_dst (N := 1) rfl ?_); refine box_event ?hg (N := 1) ?hd (cs := #[.int .i64 a0_0, .int .i64 a0_1, .string a0_2, .slice A0_3 l0_3.length c0_3]) (t := 31) ?hr ?_; (case hd => rfl); (case hg => rfl); (case hr => first | (go_simp; done) | (go_simp; rfl)); intro gb194 hg w7 hbox hb; have n0_ := Aside0.mk (below_step (bl_ HB.out) hb); have n1_ := Aside0.mk (hbox); have n2_ := Aside0.mk ((hg_ hg (bl_ HB.out))); have n3_ := Aside0.mk ((hg_ hg (bl_ HB.out))); clear HB; have HB := n0_; have BK194 := n1_; have GW194 := n2_; have GE194 := n3_; clear n0_ n1_ n2_ n3_; clear hb hbox hg; obtain ⟨hcz8_0, hcz8_1, hcz8_2, hcz8_3⟩ := c4_ BK194.out; obtain ⟨hfz8_0, hfz8_1, hfz8_2, hfz8_3⟩ := f4_ BK194.out) | ((with_reducible refine gate_callee (f := 38) rfl ?_); refine goesL_ (some 16) rfl rfl Tryz.func38 (by kernel_rfl) rfl #[.agg #[.string ⟨#[]⟩, .int .i64 a0_0, .int .i64 a0_1, .string a0_2]] rfl (by simp only [List.map_toArray, List.map_cons, List.map_nil] <;> rfl) ?_; (with_reducible refine (sfitem_value.calls (⟨#[]⟩ : ByteArray) a0_0 a0_1 a0_2 t195 true _ (tab_ hT_ ?hTab) A2.out).mono ?_); (case hTab => exact (bl_ HB.out)); rintro e w9 ⟨rfl, hb⟩; refine ⟨_, rfl, ?_⟩; have n0_ := Aside0.mk (blk_below (kl_ BK194.out) hb); have n1_ := Aside0.mk (below_step (bl_ HB.out) hb); clear BK194; clear HB; have BK194 := n0_; have HB := n1_; clear n0_ n1_; (try clear hb); (try clear hb2); (try clear hk); (try clear hi); obtain ⟨hcz10_0, hcz10_1, hcz10_2, hcz10_3⟩ := c4_ BK194.out; obtain ⟨hfz10_0, hfz10_1, hfz10_2, hfz10_3⟩ := f4_ BK194.out) | ((with_reducible refine gate_callee (f := 22) rfl ?_); refine goesL_ (some 22) rfl rfl Tryz.func22 (by kernel_rfl) rfl #[.slice A0_3 l0_3.length c0_3] rfl (by simp only [List.map_toArray, List.map_cons, List.map_nil] <;> rfl) ?_; (with_reducible refine (sfitem_Tail.calls _ _ l0_3 t197 t198 _ (tab_ hT_ ?hTab) ?side1 ?side2 A3.out).mono ?_); (case hTab => exact (bl_ HB.out)); (case side1 => exact cl_ (Kd.C_below HR0_3.out HB.out)); (case side2 => exact HC0_3.out); rintro e w11 ⟨rfl, hb⟩; refine ⟨_, rfl, ?_⟩; have n0_ := Aside0.mk (blk_below (kl_ BK194.out) hb); have n1_ := Aside0.mk (below_step (bl_ HB.out) hb); clear BK194; clear HB; have BK194 := n0_; have HB := n1_; clear n0_ n1_; (try clear hb); (try clear hb2); (try clear hk); (try clear hi)))
    go_ret2
    exact ⟨by first | rfl | (simp [errW_none, errW_some] <;> rfl) | (simp [*, errW_none, errW_some] <;> rfl) | (simp [q_ne_nil]; done), by repeat (first | (with_reducible first | exact HB.out | apply below_alloc | apply pw_below_drewN | apply below_drew1 | refine below_set ?_ GE194.out) | exact HB.out)⟩
   ·rw [if_neg c6] at H
    exact absurd H (by simp)
  ·rw [if_neg c5] at H
   obtain ⟨c5b0, c5b1⟩ := eF_ c5
   simp only [Option.some.injEq, Prod.mk.injEq] at H
   obtain ⟨rfl, rfl⟩ := H
   go_enter Tryz.func21, Tryz.ntmps21
   go_wp2_with (first | ((with_reducible refine gate_dst (N := 1) rfl ?_); refine box_event ?hg (N := 1) ?hd (cs := #[.int .i64 a0_0, .int .i64 a0_1, .string a0_2, .slice A0_3 l0_3.length c0_3]) (t := 31) ?hr ?_; (case hd => rfl); (case hg => rfl); (case hr => first | (go_simp; done) | (go_simp; rfl)); intro gb194 hg w12 hbox hb; have n0_ := Aside0.mk (below_step (bl_ HB.out) hb); have n1_ := Aside0.mk (hbox); have n2_ := Aside0.mk ((hg_ hg (bl_ HB.out))); have n3_ := Aside0.mk ((hg_ hg (bl_ HB.out))); clear HB; have HB := n0_; have BK194 := n1_; have GW194 := n2_; have GE194 := n3_; clear n0_ n1_ n2_ n3_; clear hb hbox hg; obtain ⟨hcz13_0, hcz13_1, hcz13_2, hcz13_3⟩ := c4_ BK194.out; obtain ⟨hfz13_0, hfz13_1, hfz13_2, hfz13_3⟩ := f4_ BK194.out) | ((with_reducible refine gate_callee (f := 38) rfl ?_); refine goesL_ (some 16) rfl rfl Tryz.func38 (by kernel_rfl) rfl #[.agg #[.string ⟨#[]⟩, .int .i64 a0_0, .int .i64 a0_1, .string a0_2]] rfl (by simp only [List.map_toArray, List.map_cons, List.map_nil] <;> rfl) ?_; (with_reducible refine (sfitem_value.calls (⟨#[]⟩ : ByteArray) a0_0 a0_1 a0_2 t195 true _ (tab_ hT_ ?hTab) A2.out).mono ?_); (case hTab => exact (bl_ HB.out)); rintro e w14 ⟨rfl, hb⟩; refine ⟨_, rfl, ?_⟩; have n0_ := Aside0.mk (blk_below (kl_ BK194.out) hb); have n1_ := Aside0.mk (below_step (bl_ HB.out) hb); clear BK194; clear HB; have BK194 := n0_; have HB := n1_; clear n0_ n1_; (try clear hb); (try clear hb2); (try clear hk); (try clear hi); obtain ⟨hcz15_0, hcz15_1, hcz15_2, hcz15_3⟩ := c4_ BK194.out; obtain ⟨hfz15_0, hfz15_1, hfz15_2, hfz15_3⟩ := f4_ BK194.out) | ((with_reducible refine gate_callee (f := 22) rfl ?_); refine goesL_ (some 22) rfl rfl Tryz.func22 (by kernel_rfl) rfl #[.slice A0_3 l0_3.length c0_3] rfl (by simp only [List.map_toArray, List.map_cons, List.map_nil] <;> rfl) ?_; (with_reducible refine (sfitem_Tail.calls _ _ l0_3 t197 t198 _ (tab_ hT_ ?hTab) ?side1 ?side2 A3.out).mono ?_); (case hTab => exact (bl_ HB.out)); (case side1 => exact cl_ (Kd.C_below HR0_3.out HB.out)); (case side2 => exact HC0_3.out); rintro e w16 ⟨rfl, hb⟩; refine ⟨_, rfl, ?_⟩; have n0_ := Aside0.mk (blk_below (kl_ BK194.out) hb); have n1_ := Aside0.mk (below_step (bl_ HB.out) hb); clear BK194; clear HB; have BK194 := n0_; have HB := n1_; clear n0_ n1_; (try clear hb); (try clear hb2); (try clear hk); (try clear hi)))
   go_ret2
   exact ⟨by first | rfl | (simp [errW_none, errW_some] <;> rfl) | (simp [*, errW_none, errW_some] <;> rfl) | (simp [q_ne_nil]; done), by repeat (first | (with_reducible first | exact HB.out | apply below_alloc | apply pw_below_drewN | apply below_drew1 | refine below_set ?_ GE194.out) | exact HB.out)⟩
 ·replace c4 := Bool.eq_false_iff.mpr c4
  subst c4
  rw [if_neg (show ¬ (false = true) by decide)] at H
  simp only [Option.some.injEq, Prod.mk.injEq] at H
  obtain ⟨rfl, rfl⟩ := H
  go_enter Tryz.func21, Tryz.ntmps21
  go_wp2_with (first | ((with_reducible refine gate_dst (N := 1) rfl ?_); refine box_event ?hg (N := 1) ?hd (cs := #[.int .i64 a0_0, .int .i64 a0_1, .string a0_2, .slice A0_3 l0_3.length c0_3]) (t := 31) ?hr ?_; (case hd => rfl); (case hg => rfl); (case hr => first | (go_simp; done) | (go_simp; rfl)); intro gb194 hg w17 hbox hb; have n0_ := Aside0.mk (below_step (bl_ HB.out) hb); have n1_ := Aside0.mk (hbox); have n2_ := Aside0.mk ((hg_ hg (bl_ HB.out))); have n3_ := Aside0.mk ((hg_ hg (bl_ HB.out))); clear HB; have HB := n0_; have BK194 := n1_; have GW194 := n2_; have GE194 := n3_; clear n0_ n1_ n2_ n3_; clear hb hbox hg; obtain ⟨hcz18_0, hcz18_1, hcz18_2, hcz18_3⟩ := c4_ BK194.out; obtain ⟨hfz18_0, hfz18_1, hfz18_2, hfz18_3⟩ := f4_ BK194.out) | ((with_reducible refine gate_callee (f := 38) rfl ?_); refine goesL_ (some 16) rfl rfl Tryz.func38 (by kernel_rfl) rfl #[.agg #[.string ⟨#[]⟩, .int .i64 a0_0, .int .i64 a0_1, .string a0_2]] rfl (by simp only [List.map_toArray, List.map_cons, List.map_nil] <;> rfl) ?_; (with_reducible refine (sfitem_value.calls (⟨#[]⟩ : ByteArray) a0_0 a0_1 a0_2 t195 false _ (tab_ hT_ ?hTab) A2.out).mono ?_); (case hTab => exact (bl_ HB.out)); rintro e w19 ⟨rfl, hb⟩; refine ⟨_, rfl, ?_⟩; have n0_ := Aside0.mk (blk_below (kl_ BK194.out) hb); have n1_ := Aside0.mk (below_step (bl_ HB.out) hb); clear BK194; clear HB; have BK194 := n0_; have HB := n1_; clear n0_ n1_; (try clear hb); (try clear hb2); (try clear hk); (try clear hi); obtain ⟨hcz20_0, hcz20_1, hcz20_2, hcz20_3⟩ := c4_ BK194.out; obtain ⟨hfz20_0, hfz20_1, hfz20_2, hfz20_3⟩ := f4_ BK194.out) | ((with_reducible refine gate_callee (f := 22) rfl ?_); refine goesL_ (some 22) rfl rfl Tryz.func22 (by kernel_rfl) rfl #[.slice A0_3 l0_3.length c0_3] rfl (by simp only [List.map_toArray, List.map_cons, List.map_nil] <;> rfl) ?_; (with_reducible refine (sfitem_Tail.calls _ _ l0_3 t197 t198 _ (tab_ hT_ ?hTab) ?side1 ?side2 A3.out).mono ?_); (case hTab => exact (bl_ HB.out)); (case side1 => exact cl_ (Kd.C_below HR0_3.out HB.out)); (case side2 => exact HC0_3.out); rintro e w21 ⟨rfl, hb⟩; refine ⟨_, rfl, ?_⟩; have n0_ := Aside0.mk (blk_below (kl_ BK194.out) hb); have n1_ := Aside0.mk (below_step (bl_ HB.out) hb); clear BK194; clear HB; have BK194 := n0_; have HB := n1_; clear n0_ n1_; (try clear hb); (try clear hb2); (try clear hk); (try clear hi)))
  go_ret2
  exact ⟨by first | rfl | (simp [errW_none, errW_some] <;> rfl) | (simp [*, errW_none, errW_some] <;> rfl) | (simp [q_ne_nil]; done), by repeat (first | (with_reducible first | exact HB.out | apply below_alloc | apply pw_below_drewN | apply below_drew1 | refine below_set ?_ GE194.out) | exact HB.out)⟩
def joinBA (l : List ByteArray) (sep : ByteArray) : ByteArray := ⟨(Lib.join (l.map (·.data.toList)) sep.data.toList).toArray⟩
def strings_Join.f (l0 : List ByteArray) (a1 : ByteArray) : Option ByteArray := if (joinBA l0 a1).size ≤ 140737488355328 ∧ l0.length ≤ 8796093022208 then some (joinBA l0 a1) else none
theorem cell_spot {w : World} {a : Addr} {v : Value} (h : w.cell? a = some v) : a.spot = none := by
  unfold World.cell? at h
  split at h
  · cases hs : a.spot with
    | none => rfl
    | some x => simp [hs] at h
  · cases h
theorem strings_Join.calls (A0 : Option Addr) (c0 : Nat) (l0 : List ByteArray) (a1 : ByteArray) (r : ByteArray) (w : World) (hr0 : Kd.C Kd.string w A0 l0.length l0) (hc0 : l0.length ≤ c0) (h : strings_Join.f l0 a1 = some r) :
    Calls Tryz.prog 33 #[.slice A0 l0.length c0, .string a1] w fun e w' => e = .returned (.string r) ∧ Below w.heap.size w w' := by
  unfold strings_Join.f at h
  split at h
  · rename_i hs
    obtain rfl := Option.some.inj h
    clear h
    cases l0 with
    | nil => exact (Tryz.strings_Join_none A0 c0 a1 w).mono fun e w' ⟨h1, h2⟩ => ⟨h1, by subst h2; exact Below.refl _ _⟩
    | cons x xs =>
      obtain ⟨ad, c, e, _, hK, hc⟩ := Kd.C_get hr0 (⟨#[]⟩ : ByteArray) 0 (Int.le_refl _) (by simp)
      obtain rfl := e
      have hall : ∀ (j : Nat) y, (x :: xs)[j]? = some y → w.cell? (ad.add j) = some (.string y) := by
        intro j y hj
        have hjl : j < (x :: xs).length := (List.getElem?_eq_some_iff.1 hj).1
        obtain ⟨ad', c', e', _, hK', hc'⟩ := Kd.C_get hr0 (⟨#[]⟩ : ByteArray) (j : Int) (by omega) (by omega)
        injection e' with e'
        subst e'
        have e2 : c' = [.string y] := by
          have : (x :: xs).getD j (⟨#[]⟩ : ByteArray) = y := by rw [List.getD_eq_getElem?_getD, hj]; rfl
          simp only [Int.toNat_natCast, this] at hK'
          exact hK'
        subst e2
        have := hc' 0 _ rfl
        simpa [show (Kd.string).sz = 1 from rfl] using this
      have h0 := hall 0 x rfl
      have hsp : ad.spot = none := by have := cell_spot h0; unfold Addr.add at this; simpa using this
      obtain ⟨bk, o, sp⟩ := ad
      simp only at hsp
      subst hsp
      have hlt := World.block_lt_of_cell? w _ h0
      refine (Tryz.strings_Join bk o c0 (x :: xs) a1 w (fun j y hj => ?_) (by simpa [Addr.add] using hlt) (by omega) hc0 (by have := hs.1; unfold joinBA at this; simpa [ByteArray.size] using this)).mono fun e w' hh => hh
      have := hall j y hj
      unfold Addr.add at this
      by_cases hj0 : j = 0
      · subst hj0; simpa using this
      · simpa [hj0] using this
  · cases h
end Go.Proofs.YtjdbiicjfpgjkaaGreatDoor.Q
namespace Go.Proofs.YtjdbiicjfpgjkaaGreatDoor.Q
open Go.RowKit Go.Proofs.YtjdbiicjfpgjkaaGreatDoorW.PrintWords Go.Proofs.YtjdbiicjfpgjkaaGreatDoorW.PrintLast Go.Proofs.YtjdbiicjfpgjkaaGreatDoorW.PrintMore
set_option linter.unusedVariables false
set_option linter.unusedSimpArgs false
open Go.Proofs.YtjdbiicjfpgjkaaGreatDoor.Sf
/-- Items' texts. -/
def textL : List S31 → List ByteArray → Option (List ByteArray × Int)
  | [], o => some (o, 0)
  | x :: xs, o => (sfitem_Text.f x.f0 x.f1 x.f2 x.f3).bind fun t => if t.2 ≠ 0 then some ([], t.2) else if o.length < 1000000 then textL xs (o ++ [t.1]) else none
def parT (t u : ByteArray) : ByteArray := (((⟨#[40]⟩ : ByteArray) ++ t) ++ (⟨#[41]⟩ : ByteArray)) ++ u
def sfield_text.f (k : Nat) (a0_0 : ByteArray) (a0_1 : Bool) (a0_2 : Int) (a0_3 : Int) (a0_4 : ByteArray) (l0_5 : List S60) (l0_6 : List S31) (l0_7 : List S60) : Option (ByteArray × Int) :=
  if ¬ (l0_6.length ≤ 1000000 ∧ l0_7.length ≤ 1000000) then none
  else if a0_1 = false then (if l0_6.length + l0_7.length > 0 then some (⟨#[]⟩, 50) else sfitem_Text.f a0_2 a0_3 a0_4 l0_5)
  else if a0_2 ≠ 0 ∨ a0_3 ≠ 0 ∨ a0_4.toList ≠ [] ∨ l0_5.length > 0 then some (⟨#[]⟩, 50)
  else (textL l0_6 []).bind fun o => if o.2 ≠ 0 then some (⟨#[]⟩, o.2) else (sfitem_Tail.f l0_7).bind fun u => (strings_Join.f o.1 ⟨#[32]⟩).bind fun t =>
    if t.size ≤ 1152921504606846976 ∧ u.1.size ≤ 1152921504606846976 then some (parT t u.1, u.2) else none
theorem sfield_text.mono : ∀ a0_0 a0_1 a0_2 a0_3 a0_4 l0_5 l0_6 l0_7 k, LeO (sfield_text.f k a0_0 a0_1 a0_2 a0_3 a0_4 l0_5 l0_6 l0_7) (sfield_text.f (k + 1) a0_0 a0_1 a0_2 a0_3 a0_4 l0_5 l0_6 l0_7) := fun _ _ _ _ _ _ _ _ _ _ h => h
/-- A member in a block. -/
def TB (W : World) (b : Nat) (a0 : ByteArray) (a1 : Bool) (a2 a3 : Int) (a4 : ByteArray) (v5 v6 v7 : Value) : Prop := W.heap[b]? = some (.cells #[.string a0, .bool a1, .int .i64 a2, .int .i64 a3, .string a4, v5, v6, v7] 34 (0, 0))
theorem TB.c {W : World} {b : Nat} {a0 : ByteArray} {a1 : Bool} {a2 a3 : Int} {a4 : ByteArray} {v5 v6 v7 : Value} (h : TB W b a0 a1 a2 a3 a4 v5 v6 v7) : W.cell? ⟨b, 0, none⟩ = some (.string a0) ∧ W.cell? ⟨b, 1, none⟩ = some (.bool a1) ∧ W.cell? ⟨b, 2, none⟩ = some (.int .i64 a2) ∧ W.cell? ⟨b, 3, none⟩ = some (.int .i64 a3) ∧ W.cell? ⟨b, 4, none⟩ = some (.string a4) ∧ W.cell? ⟨b, 5, none⟩ = some v5 ∧ W.cell? ⟨b, 6, none⟩ = some v6 ∧ W.cell? ⟨b, 7, none⟩ = some v7 :=
  ⟨(blk_cell h 0).trans rfl, (blk_cell h 1).trans rfl, (blk_cell h 2).trans rfl, (blk_cell h 3).trans rfl, (blk_cell h 4).trans rfl, (blk_cell h 5).trans rfl, (blk_cell h 6).trans rfl, (blk_cell h 7).trans rfl⟩
theorem rd_getI (l : List S31) (n : Nat) (h : n < l.length) : rd_T31 l (n : Int) = l[n] := by simp [rd_T31, List.getD_eq_getElem?_getD, h]
theorem below_baseT {W : World} {b : Nat} (h : b ≤ W.heap.size) : Below b W W := (Below.refl W.heap.size W).mono h
set_option maxHeartbeats 8000000 in
set_option maxRecDepth 100000 in
theorem sfield_text.calls (k : Nat) (a0_0 : ByteArray) (a0_1 : Bool) (a0_2 : Int) (a0_3 : Int) (a0_4 : ByteArray) (A0_5 : Option Addr) (c0_5 : Nat) (l0_5 : List S60) (A0_6 : Option Addr) (c0_6 : Nat) (l0_6 : List S31) (A0_7 : Option Addr) (c0_7 : Nat) (l0_7 : List S60) (r1 : ByteArray) (r2 : Int) (w : World) (hT_ : Aside0 (TabW w)) (hr0_5 : Kd.C k60 w A0_5 l0_5.length l0_5) (hc0_5 : l0_5.length ≤ c0_5) (hr0_6 : Kd.C k31 w A0_6 l0_6.length l0_6) (hc0_6 : l0_6.length ≤ c0_6) (hr0_7 : Kd.C k60 w A0_7 l0_7.length l0_7) (hc0_7 : l0_7.length ≤ c0_7) (h : sfield_text.f k a0_0 a0_1 a0_2 a0_3 a0_4 l0_5 l0_6 l0_7 = some (r1, r2)) :
    Calls Tryz.prog 32 #[.agg #[.string a0_0, .bool a0_1, .int .i64 a0_2, .int .i64 a0_3, .string a0_4, .slice A0_5 l0_5.length c0_5, .slice A0_6 l0_6.length c0_6, .slice A0_7 l0_7.length c0_7]] w fun e w' => e = .returned (.tuple #[.string r1, .int .i64 r2]) ∧ Below w.heap.size w w' := by
  have hu34 := Tryz.underlying34
  have hu31 := Tryz.underlying31
  unfold sfield_text.f at h
  have hl : l0_6.length ≤ 1000000 ∧ l0_7.length ≤ 1000000 := Classical.byContradiction fun hn => by rw [if_pos hn] at h; cases h
  rw [if_neg (fun hn => hn hl)] at h
  obtain ⟨hl6, hl7⟩ := hl
  have HB1 := Aside0.mk (below_alloc (Below.refl w.heap.size w) (.cells #[.string a0_0, .bool a0_1, .int .i64 a0_2, .int .i64 a0_3, .string a0_4, .slice A0_5 l0_5.length c0_5, .slice A0_6 l0_6.length c0_6, .slice A0_7 l0_7.length c0_7] 34))
  have hP : TB (w.alloc (.cells #[.string a0_0, .bool a0_1, .int .i64 a0_2, .int .i64 a0_3, .string a0_4, .slice A0_5 l0_5.length c0_5, .slice A0_6 l0_6.length c0_6, .slice A0_7 l0_7.length c0_7] 34)) w.heap.size a0_0 a0_1 a0_2 a0_3 a0_4 (.slice A0_5 l0_5.length c0_5) (.slice A0_6 l0_6.length c0_6) (.slice A0_7 l0_7.length c0_7) := blk_new w _
  have HP := Aside0.mk hP
  have R5 := Aside0.mk hr0_5
  have R6 := Aside0.mk hr0_6
  have R7 := Aside0.mk hr0_7
  have C5 := Aside0.mk hc0_5
  have C7 := Aside0.mk hc0_7
  have HH := Aside0.mk h
  obtain ⟨k0, k1, k2, k3, k4, k5, k6, k7⟩ := hP.c
  clear hr0_5 hr0_6 hr0_7 h hP hc0_5 hc0_6 hc0_7
  go_enter Tryz.func32, Tryz.ntmps32
  go_upto_region 1 with (fail)
  generalize w.alloc (.cells #[.string a0_0, .bool a0_1, .int .i64 a0_2, .int .i64 a0_3, .string a0_4, .slice A0_5 l0_5.length c0_5, .slice A0_6 l0_6.length c0_6, .slice A0_7 l0_7.length c0_7] 34) = w1 at *
  cases a0_1 with
  | false =>
    have hH := HH.out
    rw [if_pos rfl] at hH
    have w64 : wrap64 ((l0_6.length : Int) + (l0_7.length : Int)) = (l0_6.length : Int) + (l0_7.length : Int) := by unfold wrap64; omega
    by_cases hz : l0_6.length + l0_7.length > 0
    · rw [if_pos hz] at hH
      obtain ⟨rfl, rfl⟩ := Prod.mk.inj (Option.some.inj hH)
      have d1 : decide (0 < (l0_6.length : Int) + (l0_7.length : Int)) = true := decide_eq_true (by omega)
      have d2 : decide (0 < wrap64 ((l0_6.length : Int) + (l0_7.length : Int))) = true := by rw [w64]; exact d1
      clear hH HH
      go_wp2
      go_ret2
      exact ⟨rfl, HB1.out⟩
    · rw [if_neg hz] at hH
      have d1 : decide (0 < (l0_6.length : Int) + (l0_7.length : Int)) = false := decide_eq_false (by omega)
      have d2 : decide (0 < wrap64 ((l0_6.length : Int) + (l0_7.length : Int))) = false := by rw [w64]; exact d1
      have HTx := Aside0.mk (sfitem_Text.calls a0_2 a0_3 a0_4 A0_5 c0_5 l0_5 r1 r2 w1 (tab_ hT_ HB1.out) (Kd.C_below R5.out HB1.out) C5.out hH)
      clear hH HH
      go_wp2_with (first | (go_at_call 21; refine HTx.out.mono ?_; rintro e w2 ⟨rfl, hb⟩; have HB2 := Aside0.mk (below_then HB1.out HB1.out.size hb); clear hb))
      go_ret2
      exact ⟨rfl, HB2.out⟩
  | true =>
    have hH := HH.out
    rw [if_neg (by decide)] at hH
    have HH1 := Aside0.mk hH
    have HP2 : Aside0 (TB (w1.alloc (.cells #[.int .i64 a0_2, .int .i64 a0_3, .string a0_4, .slice A0_5 l0_5.length c0_5] 31)) w.heap.size a0_0 true a0_2 a0_3 a0_4 (.slice A0_5 l0_5.length c0_5) (.slice A0_6 l0_6.length c0_6) (.slice A0_7 l0_7.length c0_7)) := ⟨blk_alloc HP.out _⟩
    have HX := Aside0.mk (blk_new w1 (.cells #[.int .i64 a0_2, .int .i64 a0_3, .string a0_4, .slice A0_5 l0_5.length c0_5] 31))
    have HB2 := Aside0.mk (below_alloc HB1.out (.cells #[.int .i64 a0_2, .int .i64 a0_3, .string a0_4, .slice A0_5 l0_5.length c0_5] 31))
    have hlt1 := blk_lt HP.out
    clear hH HH HP
    go_upto_region 6 with (fail)
    clear k0 k1 k2 k3 k4 k5 k6 k7 HB1
    generalize w1.alloc (.cells #[.int .i64 a0_2, .int .i64 a0_3, .string a0_4, .slice A0_5 l0_5.length c0_5] 31) = w2 at *
    generalize w1.heap.size = xb at *
    have x0 : w2.cell? ⟨xb, 0, none⟩ = some (.int .i64 a0_2) := (blk_cell HX.out 0).trans rfl
    have x1 : w2.cell? ⟨xb, 1, none⟩ = some (.int .i64 a0_3) := (blk_cell HX.out 1).trans rfl
    have x2 : w2.cell? ⟨xb, 2, none⟩ = some (.string a0_4) := (blk_cell HX.out 2).trans rfl
    have x3 : w2.cell? ⟨xb, 3, none⟩ = some (.slice A0_5 l0_5.length c0_5) := (blk_cell HX.out 3).trans rfl
    obtain ⟨bd, hbd⟩ : ∃ bd : Bool, bd = (a0_2 != 0 || (a0_3 != 0 || (a0_4.toList != ([] : List UInt8) || decide (0 < l0_5.length)))) := ⟨_, rfl⟩
    have HBD := Aside0.mk hbd
    clear hbd
    go_cut [48] (fun v48 wc => v48 = .bool bd ∧ wc = w2)
    case first =>
      cases e0 : (a0_2 != 0) with
      | true =>
        have e0b : (a0_2 == 0) = false := by simpa [bne] using e0
        go_wp2
        go_meet
        case rel => exact ⟨by rw [HBD.out, e0] <;> rfl, rfl⟩
      | false =>
        have e0b : (a0_2 == 0) = true := by simpa [bne] using e0
        cases e1 : (a0_3 != 0) with
        | true =>
          have e1b : (a0_3 == 0) = false := by simpa [bne] using e1
          go_wp2
          go_meet
          case rel => exact ⟨by rw [HBD.out, e0, e1] <;> rfl, rfl⟩
        | false =>
          have e1b : (a0_3 == 0) = true := by simpa [bne] using e1
          cases e2 : (a0_4.toList != ([] : List UInt8)) with
          | true =>
            have e2b : (a0_4.toList == ([] : List UInt8)) = false := by simpa [bne] using e2
            have e2c : a0_4.toList.isEmpty = false := by simpa using e2b
            go_wp2
            go_meet
            case rel => exact ⟨by rw [HBD.out, e0, e1, e2] <;> rfl, rfl⟩
          | false =>
            have e2b : (a0_4.toList == ([] : List UInt8)) = true := by simpa [bne] using e2
            have e2c : a0_4.toList.isEmpty = true := by simpa using e2b
            have d5 : decide (0 < (l0_5.length : Int)) = decide (0 < l0_5.length) := by simp
            go_wp2
            go_meet
            case rel => exact ⟨by rw [HBD.out, e0, e1, e2] <;> simp, rfl⟩
    case rest =>
      obtain ⟨rfl, rfl⟩ := hcut
      clear x0 x1 x2 x3 HX
      cases bd with
      | true =>
        have hH := HH1.out
        have hb := HBD.out.symm
        simp only [Bool.or_eq_true, bne_iff_ne, decide_eq_true_eq] at hb
        rw [if_pos hb] at hH
        obtain ⟨rfl, rfl⟩ := Prod.mk.inj (Option.some.inj hH)
        clear hH HH1 hb
        go_wp2
        go_ret2
        exact ⟨rfl, HB2.out⟩
      | false =>
        have hH := HH1.out
        have hb := HBD.out.symm
        have hb2 : ¬ (a0_2 ≠ 0 ∨ a0_3 ≠ 0 ∨ a0_4.toList ≠ [] ∨ l0_5.length > 0) := fun hc => by
          have : (a0_2 != 0 || (a0_3 != 0 || (a0_4.toList != ([] : List UInt8) || decide (0 < l0_5.length)))) = true := by
            simp only [Bool.or_eq_true, bne_iff_ne, decide_eq_true_eq]
            exact hc
          rw [this] at hb
          cases hb
        rw [if_neg hb2] at hH
        obtain ⟨⟨o2, e2⟩, hL, hH⟩ := Option.bind_eq_some_iff.1 hH
        have HL := Aside0.mk hL
        have HF := Aside0.mk hH
        obtain ⟨k0, k1, k2, k3, k4, k5, k6, k7⟩ := HP2.out.c
        clear hH HH1 hb hb2 hL HBD
        go_wp2
        go_loopw [5, 7, 8, 9, 52] (fun v5 v7 v8 v9 v52 wr => ∃ (n : Nat) (o : List ByteArray), n ≤ l0_6.length ∧ v52 = .int .i64 n ∧ Aside0 (textL (l0_6.drop n) o = some (o2, e2)) ∧ Aside0 (Kd.R Kd.string 9 wr (w.heap.size + 1) (fun _ => True) v5 o) ∧ Aside0 (Below w.heap.size w wr) ∧ Aside0 (TB wr w.heap.size a0_0 true a0_2 a0_3 a0_4 (.slice A0_5 l0_5.length c0_5) (.slice A0_6 l0_6.length c0_6) (.slice A0_7 l0_7.length c0_7))) (fun _ _ _ _ v52 _ => l0_6.length - (intOf v52).toNat)
        case atStart => exact ⟨0, [], Nat.zero_le _, rfl, HL, ⟨Kd.R_nil _ _ _ _ _⟩, HB2, HP2⟩
        case round =>
          clear HL HB2 HP2 k0 k1 k2 k3 k4 k5 k6 k7
          obtain ⟨n, o, hn, rfl, HL, HR, HB, HP⟩ := hrel
          have hlp := blk_lt HP.out
          by_cases hlt : n < l0_6.length
          · have hltd : decide ((n : Int) < (l0_6.length : Int)) = true := decide_eq_true (by omega)
            obtain ⟨ad, A5, c5, hA, h0, h1, h2, h3, m5, g5⟩ := at_T31 R6.out (n : Int) (by omega) (by omega)
            subst hA
            simp only [Int.toNat_natCast] at h0 h1 h2 h3
            replace h0 := pw_cell_below HB.out h0
            replace h1 := pw_cell_below HB.out h1
            replace h2 := pw_cell_below HB.out h2
            replace h3 := pw_cell_below HB.out h3
            have p1 : (0 ≤ (n : Int)) = True := eq_true (by omega)
            have p2 : ((n : Int) < (l0_6.length : Int)) = True := eq_true (by omega)
            have hH := HL.out
            rw [List.drop_eq_getElem_cons hlt, textL] at hH
            rw [← rd_getI l0_6 n hlt] at hH
            obtain ⟨⟨t1, t2⟩, hv, hH2⟩ := Option.bind_eq_some_iff.1 hH
            clear hH
            generalize rd_T31 l0_6 n = p at *
            have HB3 := Aside0.mk (below_alloc HB.out (.cells #[.int .i64 p.f0, .int .i64 p.f1, .string p.f2, .slice A5 p.f3.length c5] 31))
            have HR3 := Aside0.mk (Kd.R_alloc HR.out (.cells #[.int .i64 p.f0, .int .i64 p.f1, .string p.f2, .slice A5 p.f3.length c5] 31))
            have HP3 : Aside0 (TB (wr.alloc (.cells #[.int .i64 p.f0, .int .i64 p.f1, .string p.f2, .slice A5 p.f3.length c5] 31)) w.heap.size a0_0 true a0_2 a0_3 a0_4 (.slice A0_5 l0_5.length c0_5) (.slice (some ad) l0_6.length c0_6) (.slice A0_7 l0_7.length c0_7)) := ⟨blk_alloc HP.out _⟩
            have HX3 := Aside0.mk (blk_new wr (.cells #[.int .i64 p.f0, .int .i64 p.f1, .string p.f2, .slice A5 p.f3.length c5] 31))
            have HTx := Aside0.mk (sfitem_Text.calls p.f0 p.f1 p.f2 A5 c5 p.f3 t1 t2 _ (tab_ hT_ HB3.out) (Kd.C_below g5 HB3.out) m5 hv)
            have HN := Aside0.mk hH2
            clear hH2 hv g5 m5
            go_upto_region 12 with (fail)
            clear h0 h1 h2 h3 HB HR HP
            generalize wr.alloc (.cells #[.int .i64 p.f0, .int .i64 p.f1, .string p.f2, .slice A5 p.f3.length c5] 31) = w3 at *
            generalize wr.heap.size = xb at *
            have x0 : w3.cell? ⟨xb, 0, none⟩ = some (.int .i64 p.f0) := (blk_cell HX3.out 0).trans rfl
            have x1 : w3.cell? ⟨xb, 1, none⟩ = some (.int .i64 p.f1) := (blk_cell HX3.out 1).trans rfl
            have x2 : w3.cell? ⟨xb, 2, none⟩ = some (.string p.f2) := (blk_cell HX3.out 2).trans rfl
            have x3 : w3.cell? ⟨xb, 3, none⟩ = some (.slice A5 p.f3.length c5) := (blk_cell HX3.out 3).trans rfl
            go_upto_region 13 with (first | (go_at_call 21; refine HTx.out.mono ?_; rintro e w4 ⟨rfl, hb⟩; have HB4 := Aside0.mk (below_then HB3.out HB3.out.size hb); have HR4 := Aside0.mk (Kd.R_below HR3.out hb); have HP4 : Aside0 (TB w4 w.heap.size a0_0 true a0_2 a0_3 a0_4 (.slice A0_5 l0_5.length c0_5) (.slice (some ad) l0_6.length c0_6) (.slice A0_7 l0_7.length c0_7)) := ⟨blk_below HP3.out hb⟩; clear hb))
            clear x0 x1 x2 x3 HX3 HB3 HR3 HP3 HTx
            by_cases he : t2 = 0
            · have hH := HN.out
              rw [if_neg (fun h => h he)] at hH
              have hol : o.length < 1000000 := Classical.byContradiction fun hn => by rw [if_neg hn] at hH; cases hH
              rw [if_pos hol] at hH
              have HN2 := Aside0.mk hH
              have b1 : (t2 != 0) = false := by simp [he]
              clear hH HN he
              go_wp2_with (first | ((with_reducible refine gate_builtin (b := .append) (xs := #[.tmp 64, .tmp 66]) rfl ?_); at_builtin; refine Kd.R_append Kd.string (w0 := w4) (W := w4) (w.heap.size + 1) rfl (.tmp 64) (.tmp 66) 61 9 (.string ⟨#[]⟩) 16 rfl Tryz.underlying61 info9 rfl (by decide) (by omega) u5 o t1 [.string t1] (fun _ => True) (fun _ => False) rfl rfl rfl (fun _ hk => hk.elim) (fun _ _ => trivial) HR4.out (below_baseT (by have := blk_lt HP4.out; omega)) (by have := blk_lt HP4.out; omega) (by omega) ?_; intro v5 w8 ho hb hg hat; have HB8 := Aside0.mk (HB4.out.grown hg HB4.out.size (fun k e => by have := Kd.R_base HR4.out k e; omega)); have HP8 : Aside0 (TB w8 w.heap.size a0_0 true a0_2 a0_3 a0_4 (.slice A0_5 l0_5.length c0_5) (.slice (some ad) l0_6.length c0_6) (.slice A0_7 l0_7.length c0_7)) := ⟨(hg.block _ (blk_lt HP4.out) (fun e => by have := Kd.R_base HR4.out _ e.symm; omega)).trans HP4.out⟩; have HR8 := Aside0.mk ho; clear ho hb hg hat))
              go_roundw
              case rel => exact ⟨n + 1, _, by omega, by go_num, HN2, HR8, HB8, HP8⟩
              case measure => simp [intOf]; omega
            · have hH := HN.out
              rw [if_pos he] at hH
              obtain ⟨rfl, rfl⟩ := Prod.mk.inj (Option.some.inj hH)
              have hF := HF.out
              rw [if_pos he] at hF
              obtain ⟨rfl, rfl⟩ := Prod.mk.inj (Option.some.inj hF)
              have b1 : (t2 != 0) = true := by simp [he]
              clear hH HN hF HF he
              go_wp2
              go_ret2
              exact ⟨rfl, HB4.out⟩
          · obtain rfl : n = l0_6.length := by omega
            have hltd : decide ((l0_6.length : Int) < (l0_6.length : Int)) = false := decide_eq_false (by omega)
            have hH := HL.out
            rw [List.drop_length, textL] at hH
            obtain ⟨rfl, rfl⟩ := Prod.mk.inj (Option.some.inj hH)
            have hF := HF.out
            rw [if_neg (by decide)] at hF
            obtain ⟨⟨u1, u2⟩, hu, hF⟩ := Option.bind_eq_some_iff.1 hF
            obtain ⟨t, ht, hF⟩ := Option.bind_eq_some_iff.1 hF
            have hz : t.size ≤ 1152921504606846976 ∧ u1.size ≤ 1152921504606846976 := Classical.byContradiction fun hn => by rw [if_neg hn] at hF; cases hF
            rw [if_pos hz] at hF
            obtain ⟨rfl, rfl⟩ := Prod.mk.inj (Option.some.inj hF)
            obtain ⟨hz1, hz2⟩ := hz
            have HTl := Aside0.mk (sfitem_Tail.calls A0_7 c0_7 l0_7 u1 u2 wr (tab_ hT_ HB.out) (Kd.C_below R7.out HB.out) C7.out hu)
            obtain ⟨A9, c9, hv9, hl9, hC9⟩ := Kd.R_reads HR.out
            subst hv9
            have HJ := Aside0.mk (fun W (hb : Below wr.heap.size wr W) => strings_Join.calls A9 c9 o ⟨#[32]⟩ t W (Kd.C_below hC9 hb) hl9 ht)
            obtain ⟨k0, k1, k2, k3, k4, k5, k6, k7⟩ := HP.out.c
            have z1 : (9223372036854775807 < 1 + t.size) = False := eq_false (by omega)
            have z1b : (1 + t.size ≤ 9223372036854775807) = True := eq_true (by omega)
            have z2 : (9223372036854775807 < 1 + t.size + 1) = False := eq_false (by omega)
            have z2b : (1 + t.size + 1 ≤ 9223372036854775807) = True := eq_true (by omega)
            have z3 : (9223372036854775807 < 1 + t.size + 1 + u1.size) = False := eq_false (by omega)
            have z3b : (1 + t.size + 1 + u1.size ≤ 9223372036854775807) = True := eq_true (by omega)
            clear hH hF HF HL hu ht hC9
            go_wp2_with (first | (go_at_call 33; (with_reducible refine (HJ.out _ hb5).mono ?_); rintro e w6 ⟨rfl, hb6⟩) | (go_at_call 22; refine HTl.out.mono ?_; rintro e w5 ⟨rfl, hb5⟩))
            go_ret2
            exact ⟨rfl, below_then (below_then HB.out HB.out.size hb5) (Nat.le_trans HB.out.size hb5.size) hb6⟩
open Go.Proofs.YtjdbiicjfpgjkaaGreatDoor.Sf
def badM (m : S34) (e : Int) (seen : List ByteArray) : Bool := e != 0 || ((keyF m.f0).2.2 != 0 || ((keyF m.f0).2.1.toList != ([] : List UInt8) || inL m.f0 seen))
/-- A dictionary's parts. -/
def dictT (k : Nat) : List S34 → List ByteArray → List ByteArray → Option (ByteArray × Int)
  | [], _, o => (strings_Join.f o ⟨#[44, 32]⟩).bind fun t => some (t, 0)
  | m :: ms, seen, o => (sfield_text.f k m.f0 m.f1 m.f2.f0 m.f2.f1 m.f2.f2 m.f2.f3 m.f3 m.f4).bind fun t =>
    if ¬ (m.f0.size ≤ 2199023255552 ∧ t.1.size ≤ 1152921504606846976 ∧ o.length < 1000000) then none
    else if badM m t.2 seen = true then some (⟨#[]⟩, 50)
    else if m.f2.f0 = 6 ∧ m.f2.f1 = 1 then (sfitem_Tail.f m.f2.f3).bind fun u => if u.1.size ≤ 1152921504606846976 then dictT k ms (m.f0 :: seen) (o ++ [m.f0 ++ u.1]) else none
    else dictT k ms (m.f0 :: seen) (o ++ [m.f0 ++ ((⟨#[61]⟩ : ByteArray) ++ t.1)])
theorem dictT_mono (k : Nat) : ∀ l seen o, LeO (dictT k l seen o) (dictT (k + 1) l seen o)
  | [], _, _ => fun _ h => h
  | m :: ms, seen, o => fun r h => by
    rw [dictT] at h ⊢
    obtain ⟨t, ht, h⟩ := Option.bind_eq_some_iff.1 h
    rw [sfield_text.mono _ _ _ _ _ _ _ _ k t ht]
    show (if _ then _ else _) = _
    split at h
    · cases h
    · rename_i h1
      rw [if_neg h1]
      split at h
      · rename_i h2; rw [if_pos h2]; exact h
      · rename_i h2
        rw [if_neg h2]
        split at h
        · rename_i h3
          rw [if_pos h3]
          obtain ⟨u, hu, h⟩ := Option.bind_eq_some_iff.1 h
          rw [hu]
          show (if _ then _ else _) = _
          split at h
          · rename_i h4; rw [if_pos h4]; exact dictT_mono k _ _ _ r h
          · cases h
        · rename_i h3; rw [if_neg h3]; exact dictT_mono k _ _ _ r h
theorem rd_getM (l : List S34) (n : Nat) (h : n < l.length) : rd_T34 l (n : Int) = l[n] := by simp [rd_T34, List.getD_eq_getElem?_getD, h]
theorem below_base {W : World} {b : Nat} (h : b ≤ W.heap.size) : Below b W W := (Below.refl W.heap.size W).mono h
/-- The copy of a member in a variable. -/
def MB (W : World) (b : Nat) (m : S34) (v5 v6 v7 : Value) : Prop := W.heap[b]? = some (.cells #[.string m.f0, .bool m.f1, .int .i64 m.f2.f0, .int .i64 m.f2.f1, .string m.f2.f2, v5, v6, v7] 34 (0, 0))
theorem MB.c {W : World} {b : Nat} {m : S34} {v5 v6 v7 : Value} (h : MB W b m v5 v6 v7) : W.cell? ⟨b, 0, none⟩ = some (.string m.f0) ∧ W.cell? ⟨b, 1, none⟩ = some (.bool m.f1) ∧ W.cell? ⟨b, 2, none⟩ = some (.int .i64 m.f2.f0) ∧ W.cell? ⟨b, 3, none⟩ = some (.int .i64 m.f2.f1) ∧ W.cell? ⟨b, 4, none⟩ = some (.string m.f2.f2) ∧ W.cell? ⟨b, 5, none⟩ = some v5 ∧ W.cell? ⟨b, 6, none⟩ = some v6 ∧ W.cell? ⟨b, 7, none⟩ = some v7 := by
  refine ⟨(blk_cell h 0).trans rfl, (blk_cell h 1).trans rfl, (blk_cell h 2).trans rfl, (blk_cell h 3).trans rfl, (blk_cell h 4).trans rfl, (blk_cell h 5).trans rfl, (blk_cell h 6).trans rfl, (blk_cell h 7).trans rfl⟩
theorem R_gl {α : Type} {d : Kd α} {e : Nat} {W w1 : World} {base j : Nat} {ok : Nat → Prop} {v : Value} {xs : List α} (h : d.R e W base ok v xs) (hg : W.grownBy w1 (some j)) (hj : j < base) : d.R e w1 base ok v xs :=
  Kd.R_mono (Kd.R_grown (Kd.R_bound h) hg (fun k hk e => by have := hk.2.1; injection e with e; omega)) (fun _ hk => hk.1)
set_option maxHeartbeats 8000000 in
set_option maxRecDepth 100000 in
theorem DictText_calls (k : Nat) (A : Option Addr) (c : Nat) (l : List S34) (r1 : ByteArray) (r2 : Int) (w : World) (hT_ : Aside0 (TabW w)) (hC : Kd.C k34 w A l.length l) (hl : l.length ≤ 1000000) (h : dictT k l [] [] = some (r1, r2)) :
    Calls Tryz.prog 19 #[.slice A l.length c] w fun e w' => e = .returned (.tuple #[.string r1, .int .i64 r2]) ∧ Below w.heap.size w w' := by
  have hu34 := Tryz.underlying34
  have hmm := @run_makeMap Tryz.prog
  have kd : ∀ s : ByteArray, s.size ≤ 281474976710656 → keyOf Tryz.prog 9 (.string s) = some (keyT s) := fun s hs => WideMaps.keyOf_string_mk Tryz.underlying9 (by unfold maxLen; omega)
  have HC := Aside0.mk hC
  have HH := Aside0.mk h
  have HO := Aside0.mk (World.ownsMap_made (H := Value) w Tryz.prog 9 heldT)
  have HB := Aside0.mk (below_alloc (Below.refl w.heap.size w) (.map #[] 0))
  have HR := Aside0.mk (Kd.R_nil Kd.string 9 (w.alloc (.map #[] 0)) (w.heap.size + 1) (fun _ => True))
  clear hC h
  go_enter Tryz.func19, Tryz.ntmps19
  go_wp2
  generalize w.alloc (.map #[] 0) = w1 at *
  go_loopw [4, 7, 8, 9, 10, 11, 12, 13, 17] (fun v4 v7 v8 v9 v10 v11 v12 v13 v17 wr => ∃ (n : Nat) (o : List ByteArray) (seen : List ByteArray) (D : DataW Value), n ≤ l.length ∧ v17 = .int .i64 n ∧ Aside0 (dictT k (l.drop n) seen o = some (r1, r2)) ∧ Aside0 (wr.ownsMap Tryz.prog 9 heldT w.heap.size n D) ∧ Aside0 (SeenAt D seen) ∧ Aside0 (Kd.R Kd.string 9 wr (w.heap.size + 1) (fun _ => True) v4 o) ∧ Aside0 (Below w.heap.size w wr)) (fun _ _ _ _ _ _ _ _ v17 _ => l.length - (intOf v17).toNat)
  case atStart => exact ⟨0, [], [], _, Nat.zero_le _, rfl, HH, HO, ⟨SeenAt.start⟩, HR, HB⟩
  case round =>
    clear HH HO HB HR
    obtain ⟨n, o, seen, D, hn, rfl, HH, HO, HS, HR, HB⟩ := hrel
    by_cases hlt : n < l.length
    · have hltd : decide ((n : Int) < (l.length : Int)) = true := decide_eq_true (by omega)
      obtain ⟨ad, A5, c5, A6, c6, A7, c7, hA, h0, h1, h2, h3, h4, h5, h6, h7, l5, g5, l6, g6, l7, g7⟩ := at_T34 HC.out (n : Int) (by omega) (by omega)
      subst hA
      replace h0 := pw_cell_below HB.out h0
      replace h1 := pw_cell_below HB.out h1
      replace h2 := pw_cell_below HB.out h2
      replace h3 := pw_cell_below HB.out h3
      replace h4 := pw_cell_below HB.out h4
      replace h5 := pw_cell_below HB.out h5
      replace h6 := pw_cell_below HB.out h6
      replace h7 := pw_cell_below HB.out h7
      simp only [Int.toNat_natCast] at h0 h1 h2 h3 h4 h5 h6 h7
      have p1 : (0 ≤ (n : Int)) = True := eq_true (by omega)
      have p2 : ((n : Int) < (l.length : Int)) = True := eq_true (by omega)
      have hH := HH.out
      rw [List.drop_eq_getElem_cons hlt, dictT] at hH
      rw [← rd_getM l n hlt] at hH
      obtain ⟨v, hv, hH⟩ := Option.bind_eq_some_iff.1 hH
      obtain ⟨v1, v2⟩ := v
      generalize rd_T34 l n = p at *
      by_cases hz : p.f0.size ≤ 2199023255552 ∧ v1.size ≤ 1152921504606846976 ∧ o.length < 1000000
      · rw [if_neg (fun h => h hz)] at hH
        obtain ⟨hz1, hz2, hz3⟩ := hz
        have HH := Aside0.mk hH
        have hPn : MB (wr.alloc (.cells #[.string p.f0, .bool p.f1, .int .i64 p.f2.f0, .int .i64 p.f2.f1, .string p.f2.f2, .slice A5 p.f2.f3.length c5, .slice A6 p.f3.length c6, .slice A7 p.f4.length c7] 34)) wr.heap.size p (.slice A5 p.f2.f3.length c5) (.slice A6 p.f3.length c6) (.slice A7 p.f4.length c7) := blk_new wr _
        have hmb : w.heap.size < wr.heap.size := HO.out.lt
        have HO2 := Aside0.mk (HO.out.alloc (.cells #[.string p.f0, .bool p.f1, .int .i64 p.f2.f0, .int .i64 p.f2.f1, .string p.f2.f2, .slice A5 p.f2.f3.length c5, .slice A6 p.f3.length c6, .slice A7 p.f4.length c7] 34))
        have HB2 := Aside0.mk (below_alloc HB.out (.cells #[.string p.f0, .bool p.f1, .int .i64 p.f2.f0, .int .i64 p.f2.f1, .string p.f2.f2, .slice A5 p.f2.f3.length c5, .slice A6 p.f3.length c6, .slice A7 p.f4.length c7] 34))
        have HR2 := Aside0.mk (Kd.R_alloc HR.out (.cells #[.string p.f0, .bool p.f1, .int .i64 p.f2.f0, .int .i64 p.f2.f1, .string p.f2.f2, .slice A5 p.f2.f3.length c5, .slice A6 p.f3.length c6, .slice A7 p.f4.length c7] 34))
        have HTx := Aside0.mk (sfield_text.calls k p.f0 p.f1 p.f2.f0 p.f2.f1 p.f2.f2 A5 c5 p.f2.f3 A6 c6 p.f3 A7 c7 p.f4 v1 v2 _ (tab_ hT_ HB2.out) (Kd.C_below g5 HB2.out) l5 (Kd.C_below g6 HB2.out) l6 (Kd.C_below g7 HB2.out) l7 hv)
        have hKy := Aside0.mk (fun W => Key_calls p.f0 W hz1)
        have G5 := Aside0.mk g5
        have HL5 := Aside0.mk l5
        clear hH hv g5 g6 g7 l5 l6 l7
        go_upto_region 6 with (fail)
        clear h0 h1 h2 h3 h4 h5 h6 h7
        generalize wr.alloc (.cells #[.string p.f0, .bool p.f1, .int .i64 p.f2.f0, .int .i64 p.f2.f1, .string p.f2.f2, .slice A5 p.f2.f3.length c5, .slice A6 p.f3.length c6, .slice A7 p.f4.length c7] 34) = w2 at *
        generalize wr.heap.size = pb at *
        obtain ⟨k0, k1, k2, k3, k4, k5, k6, k7⟩ := hPn.c
        go_upto_region 7 with (first | (go_at_call 32; refine HTx.out.mono ?_; rintro e w3 ⟨rfl, hb3⟩; have hP3 : MB w3 pb p (.slice A5 p.f2.f3.length c5) (.slice A6 p.f3.length c6) (.slice A7 p.f4.length c7) := blk_below hPn hb3; have HB3 := Aside0.mk (below_then HB2.out HB2.out.size hb3); have HO3 := Aside0.mk (HO2.out.kept (grown_of_below hb3 none) (by simp)); have HR3 := Aside0.mk (Kd.R_below HR2.out hb3); clear hb3))
        clear k0 k1 k2 k3 k4 k5 k6 k7 hPn HO2 HB2 HO HB HR HR2 HTx
        have j0 := hP3.c.1
        go_upto_region 8 with (first | (go_at_call 35; refine (hKy.out _).mono ?_; rintro e w4 ⟨rfl, hb4⟩; have hP4 : MB w4 pb p (.slice A5 p.f2.f3.length c5) (.slice A6 p.f3.length c6) (.slice A7 p.f4.length c7) := blk_below hP3 hb4; have HB4 := Aside0.mk (below_then HB3.out HB3.out.size hb4); have HO4 := Aside0.mk (HO3.out.kept (grown_of_below hb4 none) (by simp)); have HR4 := Aside0.mk (Kd.R_below HR3.out hb4); clear hb4))
        clear j0 hP3 HB3 HO3 HR3 hKy
        have j0 := hP4.c.1
        have hlook := seen_look HO4.out HS.out p.f0 (by omega)
        have hBD : badM p v2 seen = (v2 != 0 || ((keyF p.f0).2.2 != 0 || ((keyF p.f0).2.1.toList != ([] : List UInt8) || inL p.f0 seen))) := rfl
        have hH := HH.out
        (try dsimp only at hH)
        have HH := Aside0.mk hH
        clear hH
        generalize badM p v2 seen = bd at *
        generalize (keyF p.f0).2.2 = k3 at *
        generalize (keyF p.f0).2.1 = k2 at *
        generalize (keyF p.f0).1 = k1 at *
        have HBD := Aside0.mk hBD
        clear hBD
        go_cut [48] (fun v48 wc => v48 = .bool bd ∧ wc = w4)
        case first =>
          cases e0 : (v2 != 0) with
          | true =>
            have e0b : (v2 == 0) = false := by simpa [bne] using e0
            have e0c : decide (v2 = 0) = false := by simpa using e0b
            go_wp2
            go_meet
            case rel => exact ⟨by rw [HBD.out, e0] <;> rfl, rfl⟩
          | false =>
            have e0b : (v2 == 0) = true := by simpa [bne] using e0
            have e0c : decide (v2 = 0) = true := by simpa using e0b
            cases e1 : (k3 != 0) with
            | true =>
              have e1b : (k3 == 0) = false := by simpa [bne] using e1
              have e1c : decide (k3 = 0) = false := by simpa using e1b
              go_wp2
              go_meet
              case rel => exact ⟨by rw [HBD.out, e0, e1] <;> rfl, rfl⟩
            | false =>
              have e1b : (k3 == 0) = true := by simpa [bne] using e1
              have e1c : decide (k3 = 0) = true := by simpa using e1b
              cases e2 : (k2.toList != ([] : List UInt8)) with
              | true =>
                have e2b : (k2.toList == ([] : List UInt8)) = false := by simpa [bne] using e2
                have e2c : k2.toList.isEmpty = false := by simpa using e2b
                go_wp2
                go_meet
                case rel => exact ⟨by rw [HBD.out, e0, e1, e2] <;> rfl, rfl⟩
              | false =>
                have e2b : (k2.toList == ([] : List UInt8)) = true := by simpa [bne] using e2
                have e2c : k2.toList.isEmpty = true := by simpa using e2b
                go_wp2
                go_meet
                case rel => exact ⟨by rw [HBD.out, e0, e1, e2] <;> rfl, rfl⟩
        case rest =>
          obtain ⟨rfl, rfl⟩ := hcut
          clear hlook
          cases bd with
          | true =>
            have hH := HH.out
            rw [if_pos rfl] at hH
            obtain ⟨rfl, rfl⟩ := Prod.mk.inj (Option.some.inj hH)
            clear hH HH
            go_wp2
            go_ret2
            exact ⟨rfl, HB4.out⟩
          | false =>
            have hH := HH.out
            rw [if_neg (by decide)] at hH
            have HH0 := Aside0.mk hH
            clear hH HH
            go_upto_region 12 with (first | ((with_reducible refine gate_ (.mapUpdate 66 (.tmp 49) (.tmp 51) (.const (.bool true))) rfl ?_); refine wpList_mapUpdate_own _ rfl _ _ _ 66 rfl 9 4 (Go.Maps.string_keyed Tryz.underlying9) Tryz.underlying66 heldT _ _ _ rfl HO4.out (by unfold maxLen; omega) _ _ _ rfl rfl (kd p.f0 (by omega)) _ [] rfl ?_; intro w5 hown5 hg5; have HO5 := Aside0.mk hown5; have HG5 := Aside0.mk hg5; clear hown5 hg5; have hP5 : MB w5 pb p (.slice A5 p.f2.f3.length c5) (.slice A6 p.f3.length c6) (.slice A7 p.f4.length c7) := (HG5.out.block pb (Array.getElem?_eq_some_iff.1 hP4).1 (fun e => by injection e with e; omega)).trans hP4; obtain ⟨i0, i1, i2, i3, i4, i5, i6, i7⟩ := hP5.c))
            clear i0 i1 i2 i3 i4 i5 i6 i7 j0
            have HB5 := Aside0.mk (HB4.out.grown HG5.out HB4.out.size (fun k e => by injection e with e; omega))
            have HR5 := Aside0.mk (R_gl HR4.out HG5.out (by omega))
            have hPx : MB (w5.alloc (.cells #[.int .i64 p.f2.f0, .int .i64 p.f2.f1, .string p.f2.f2, .slice A5 p.f2.f3.length c5] 31)) pb p (.slice A5 p.f2.f3.length c5) (.slice A6 p.f3.length c6) (.slice A7 p.f4.length c7) := blk_alloc hP5 _
            have hX := blk_new w5 (.cells #[.int .i64 p.f2.f0, .int .i64 p.f2.f1, .string p.f2.f2, .slice A5 p.f2.f3.length c5] 31)
            have HB6 := Aside0.mk (below_alloc HB5.out (.cells #[.int .i64 p.f2.f0, .int .i64 p.f2.f1, .string p.f2.f2, .slice A5 p.f2.f3.length c5] 31))
            have HR6 := Aside0.mk (Kd.R_alloc HR5.out (.cells #[.int .i64 p.f2.f0, .int .i64 p.f2.f1, .string p.f2.f2, .slice A5 p.f2.f3.length c5] 31))
            have HO6 := Aside0.mk (HO5.out.alloc (.cells #[.int .i64 p.f2.f0, .int .i64 p.f2.f1, .string p.f2.f2, .slice A5 p.f2.f3.length c5] 31))
            clear hP5 hP4 HB4 HR4 HO4 HB5 HR5 HO5 HG5
            generalize w5.alloc (.cells #[.int .i64 p.f2.f0, .int .i64 p.f2.f1, .string p.f2.f2, .slice A5 p.f2.f3.length c5] 31) = w6 at *
            generalize w5.heap.size = xb at *
            have x0 : w6.cell? ⟨xb, 0, none⟩ = some (.int .i64 p.f2.f0) := (blk_cell hX 0).trans rfl
            have x1 : w6.cell? ⟨xb, 1, none⟩ = some (.int .i64 p.f2.f1) := (blk_cell hX 1).trans rfl
            have x3 : w6.cell? ⟨xb, 3, none⟩ = some (.slice A5 p.f2.f3.length c5) := (blk_cell hX 3).trans rfl
            have i0 := hPx.c.1
            have y1 : (9223372036854775807 < 1 + v1.size) = False := eq_false (by omega)
            have y1b : (1 + v1.size ≤ 9223372036854775807) = True := eq_true (by omega)
            have y2 : (9223372036854775807 < p.f0.size + (1 + v1.size)) = False := eq_false (by omega)
            have y2b : (p.f0.size + (1 + v1.size) ≤ 9223372036854775807) = True := eq_true (by omega)
            have hHX := Aside0.mk hX
            have hHP := Aside0.mk hPx
            clear hX hPx
            by_cases e6 : p.f2.f0 = 6
            · have b6 : (p.f2.f0 == 6) = true := by simp [e6]
              by_cases e1 : p.f2.f1 = 1
              · have b1 : (p.f2.f1 == 1) = true := by simp [e1]
                have hH := HH0.out
                rw [if_pos ⟨e6, e1⟩] at hH
                obtain ⟨⟨u1, u2⟩, hu, hH⟩ := Option.bind_eq_some_iff.1 hH
                by_cases hzu : u1.size ≤ 1152921504606846976
                · rw [if_pos hzu] at hH
                  have HH1 := Aside0.mk hH
                  have HTl := Aside0.mk (sfitem_Tail.calls A5 c5 p.f2.f3 u1 u2 w6 (tab_ hT_ HB6.out) (Kd.C_below G5.out HB6.out) HL5.out hu)
                  have y3 : (9223372036854775807 < p.f0.size + u1.size) = False := eq_false (by omega)
                  have y3b : (p.f0.size + u1.size ≤ 9223372036854775807) = True := eq_true (by omega)
                  clear hH hu HH0 e6 e1 y1 y1b y2 y2b
                  go_wp2_with (first | ((with_reducible refine gate_builtin (b := .append) (xs := #[.tmp 70, .tmp 75]) rfl ?_); at_builtin; refine Kd.R_append Kd.string (w0 := w7) (W := w7) (w.heap.size + 1) rfl (.tmp 70) (.tmp 75) 61 9 (.string ⟨#[]⟩) 16 rfl Tryz.underlying61 info9 rfl (by decide) (by omega) u4 o (p.f0 ++ u1) [.string (p.f0 ++ u1)] (fun _ => True) (fun _ => False) rfl rfl rfl (fun _ hk => hk.elim) (fun _ _ => trivial) HR7.out (below_base (by have := HO7.out.lt; omega)) (by have := HO7.out.lt; omega) (by omega) ?_; intro v5 w8 ho hb hg hat; have HO8 := Aside0.mk (HO7.out.kept hg (fun e => by have := Kd.R_base HR7.out _ e.symm; omega)); have HB8 := Aside0.mk (HB7.out.grown hg HB7.out.size (fun k e => by have := Kd.R_base HR7.out k e; omega)); have HR8 := Aside0.mk ho; clear ho hb hg hat) | (go_at_call 22; refine HTl.out.mono ?_; rintro e w7 ⟨rfl, hb7⟩; have i7 : w7.cell? ⟨pb, 0, none⟩ = some (.string p.f0) := pw_cell_below hb7 i0; have HB7 := Aside0.mk (below_then HB6.out HB6.out.size hb7); have HO7 := Aside0.mk (HO6.out.kept (grown_of_below hb7 none) (by simp)); have HR7 := Aside0.mk (Kd.R_below HR6.out hb7); clear hb7))
                  go_roundw
                  case rel => exact ⟨n + 1, _, p.f0 :: seen, _, by omega, by go_num, HH1, HO8, ⟨HS.out.put p.f0⟩, HR8, HB8⟩
                  case measure => simp [intOf]; omega
                · rw [if_neg hzu] at hH; cases hH
              · have b1 : (p.f2.f1 == 1) = false := by simp [e1]
                have hH := HH0.out
                rw [if_neg (fun h => e1 h.2)] at hH
                have HH1 := Aside0.mk hH
                clear hH HH0 e6 e1
                go_wp2_with (first | ((with_reducible refine gate_builtin (b := .append) (xs := #[.tmp 70, .tmp 75]) rfl ?_); at_builtin; refine Kd.R_append Kd.string (w0 := w6) (W := w6) (w.heap.size + 1) rfl (.tmp 70) (.tmp 75) 61 9 (.string ⟨#[]⟩) 16 rfl Tryz.underlying61 info9 rfl (by decide) (by omega) u4 o (p.f0 ++ ((⟨#[61]⟩ : ByteArray) ++ v1)) [.string (p.f0 ++ ((⟨#[61]⟩ : ByteArray) ++ v1))] (fun _ => True) (fun _ => False) rfl rfl rfl (fun _ hk => hk.elim) (fun _ _ => trivial) HR6.out (below_base (by have := HO6.out.lt; omega)) (by have := HO6.out.lt; omega) (by omega) ?_; intro v5 w8 ho hb hg hat; have HO8 := Aside0.mk (HO6.out.kept hg (fun e => by have := Kd.R_base HR6.out _ e.symm; omega)); have HB8 := Aside0.mk (HB6.out.grown hg HB6.out.size (fun k e => by have := Kd.R_base HR6.out k e; omega)); have HR8 := Aside0.mk ho; clear ho hb hg hat))
                go_roundw
                case rel => exact ⟨n + 1, _, p.f0 :: seen, _, by omega, by go_num, HH1, HO8, ⟨HS.out.put p.f0⟩, HR8, HB8⟩
                case measure => simp [intOf]; omega
            · have b6 : (p.f2.f0 == 6) = false := by simp [e6]
              have hH := HH0.out
              rw [if_neg (fun h => e6 h.1)] at hH
              have HH1 := Aside0.mk hH
              clear hH HH0 e6
              go_wp2_with (first | ((with_reducible refine gate_builtin (b := .append) (xs := #[.tmp 70, .tmp 75]) rfl ?_); at_builtin; refine Kd.R_append Kd.string (w0 := w6) (W := w6) (w.heap.size + 1) rfl (.tmp 70) (.tmp 75) 61 9 (.string ⟨#[]⟩) 16 rfl Tryz.underlying61 info9 rfl (by decide) (by omega) u4 o (p.f0 ++ ((⟨#[61]⟩ : ByteArray) ++ v1)) [.string (p.f0 ++ ((⟨#[61]⟩ : ByteArray) ++ v1))] (fun _ => True) (fun _ => False) rfl rfl rfl (fun _ hk => hk.elim) (fun _ _ => trivial) HR6.out (below_base (by have := HO6.out.lt; omega)) (by have := HO6.out.lt; omega) (by omega) ?_; intro v5 w8 ho hb hg hat; have HO8 := Aside0.mk (HO6.out.kept hg (fun e => by have := Kd.R_base HR6.out _ e.symm; omega)); have HB8 := Aside0.mk (HB6.out.grown hg HB6.out.size (fun k e => by have := Kd.R_base HR6.out k e; omega)); have HR8 := Aside0.mk ho; clear ho hb hg hat))
              go_roundw
              case rel => exact ⟨n + 1, _, p.f0 :: seen, _, by omega, by go_num, HH1, HO8, ⟨HS.out.put p.f0⟩, HR8, HB8⟩
              case measure => simp [intOf]; omega
      · rw [if_pos hz] at hH; cases hH
    · obtain rfl : n = l.length := by omega
      have hltd : decide ((l.length : Int) < (l.length : Int)) = false := decide_eq_false (by omega)
      have hH := HH.out
      rw [List.drop_length, dictT] at hH
      obtain ⟨t, ht, hH⟩ := Option.bind_eq_some_iff.1 hH
      obtain ⟨rfl, rfl⟩ := Prod.mk.inj (Option.some.inj hH)
      obtain ⟨A4, c4, hv4, hl4, hC4⟩ := Kd.R_reads HR.out
      subst hv4
      have hJ := Aside0.mk (strings_Join.calls A4 c4 o ⟨#[44, 32]⟩ t wr hC4 hl4 ht)
      clear hH HH ht hC4
      go_wp2_with (first | (go_at_call 33; refine hJ.out.mono ?_; rintro e w2 ⟨rfl, hB2⟩; have HB2 := Aside0.mk hB2; clear hB2))
      go_ret2
      exact ⟨rfl, below_then HB.out HB.out.size HB2.out⟩
def sfield_DictText.f (k : Nat) (l0 : List S34) : Option (ByteArray × Int) := if l0.length ≤ 1000000 then dictT k l0 [] [] else none
theorem sfield_DictText.mono : ∀ a0 k, LeO (sfield_DictText.f k a0) (sfield_DictText.f (k + 1) a0) := by
  intro a0 k r h
  unfold sfield_DictText.f at h ⊢
  split at h
  · rename_i hl; rw [if_pos hl]; exact dictT_mono k _ _ _ r h
  · cases h
theorem sfield_DictText.calls (k : Nat) (A0 : Option Addr) (c0 : Nat) (l0 : List S34) (r1 : ByteArray) (r2 : Int) (w : World) (hT_ : Aside0 (TabW w)) (hr0 : Kd.C k34 w A0 l0.length l0) (hc0 : l0.length ≤ c0) (h : sfield_DictText.f k l0 = some (r1, r2)) :
    Calls Tryz.prog 19 #[.slice A0 l0.length c0] w fun e w' => e = .returned (.tuple #[.string r1, .int .i64 r2]) ∧ Below w.heap.size w w' := by
  unfold sfield_DictText.f at h
  split at h
  · rename_i hl; exact DictText_calls k A0 c0 l0 r1 r2 w hT_ hr0 hl h
  · cases h
end Go.Proofs.YtjdbiicjfpgjkaaGreatDoor.Q
namespace Go.Proofs.YtjdbiicjfpgjkaaGreatDoor.Q
open Go.RowKit Go.Proofs.YtjdbiicjfpgjkaaGreatDoorW.PrintWords Go.Proofs.YtjdbiicjfpgjkaaGreatDoorW.PrintLast Go.Proofs.YtjdbiicjfpgjkaaGreatDoorW.PrintMore
set_option linter.unusedVariables false
set_option linter.unusedSimpArgs false
def glacislaw06_awake.f (k : Nat)  : Option (Bool) := (sfield_List.f k (⟨#[97, 44, 32, 40, 98, 32, 99, 41, 59, 100, 32, 44, 32, 34, 101, 34]⟩ : ByteArray)).bind fun bt199 => ((sfield_Dict.f k (⟨#[97, 61, 49, 44, 32, 98, 44, 32, 97, 61, 40, 120, 41]⟩ : ByteArray)).bind fun bt203 => ((sfield_DictText.f k bt203.1).bind fun bt207 => ((sfield_List.f k (⟨#[97, 44]⟩ : ByteArray)).bind fun bt209 => (if (bt199.1.length : Int) = 3 then (if (bt203.1.length : Int) = 2 then (if 1 < (bt199.1.length : Int) then (if (rd_T34 bt199.1 1).f1 = true then (if (((rd_T34 bt199.1 1).f3).length : Int) = 2 then (if (((rd_T34 bt199.1 1).f4).length : Int) = 1 then (if 2 < (bt199.1.length : Int) then (if ((rd_T34 bt199.1 2).f2.f2).toList = ([101] : List UInt8) then (if bt199.2 = 0 then (if 0 < (bt203.1.length : Int) then (if (rd_T34 bt203.1 0).f1 = true then (if bt203.2 = 0 then (if bt207.1.toList = ([97, 61, 40, 120, 41, 44, 32, 98] : List UInt8) then (if bt207.2 = 0 then (some (bt209.2 == 50)) else (none)) else (none)) else (none)) else (none)) else (none)) else (none)) else (none)) else (none)) else (none)) else (none)) else (none)) else (none)) else (none)) else (none)))))
theorem glacislaw06_awake.mono : ∀ k, LeO (glacislaw06_awake.f k ) (glacislaw06_awake.f (k + 1) ) := by
 intro  k
 unfold glacislaw06_awake.f
 repeat' first
   | (with_reducible exact sfield_Dict.mono _ _)
   | (with_reducible exact sfield_DictText.mono _ _)
   | (with_reducible exact sfield_List.mono _ _)
   | (with_reducible exact LeO.refl _)
   | (with_reducible exact LeO.none _)
   | (with_reducible refine LeO.ite ?_ ?_)
   | (with_reducible refine LeO.bind ?_ (fun _ => ?_))
   | exact sfield_Dict.mono _ _
   | exact sfield_DictText.mono _ _
   | exact sfield_List.mono _ _
   | exact LeO.none _
   | refine LeO.ite ?_ ?_
   | refine LeO.bind ?_ (fun _ => ?_)
set_option maxHeartbeats 8000000 in
set_option maxRecDepth 100000 in
theorem glacislaw06_awake.calls (k : Nat)  (r : Bool) (w : World) (hT_ : Aside0 (TabW w)) (h : glacislaw06_awake.f k  = some r) :
  Calls Tryz.prog 9 #[] w fun e w' => e = .returned (.bool r) ∧ Below w.heap.size w w' := by
 have HB := Aside0.mk (Below.refl w.heap.size w)
 have H : ((sfield_List.f k (⟨#[97, 44, 32, 40, 98, 32, 99, 41, 59, 100, 32, 44, 32, 34, 101, 34]⟩ : ByteArray)).bind fun bt199 => ((sfield_Dict.f k (⟨#[97, 61, 49, 44, 32, 98, 44, 32, 97, 61, 40, 120, 41]⟩ : ByteArray)).bind fun bt203 => ((sfield_DictText.f k bt203.1).bind fun bt207 => ((sfield_List.f k (⟨#[97, 44]⟩ : ByteArray)).bind fun bt209 => (if (bt199.1.length : Int) = 3 then (if (bt203.1.length : Int) = 2 then (if 1 < (bt199.1.length : Int) then (if (rd_T34 bt199.1 1).f1 = true then (if (((rd_T34 bt199.1 1).f3).length : Int) = 2 then (if (((rd_T34 bt199.1 1).f4).length : Int) = 1 then (if 2 < (bt199.1.length : Int) then (if ((rd_T34 bt199.1 2).f2.f2).toList = ([101] : List UInt8) then (if bt199.2 = 0 then (if 0 < (bt203.1.length : Int) then (if (rd_T34 bt203.1 0).f1 = true then (if bt203.2 = 0 then (if bt207.1.toList = ([97, 61, 40, 120, 41, 44, 32, 98] : List UInt8) then (if bt207.2 = 0 then (some (bt209.2 == 50)) else (none)) else (none)) else (none)) else (none)) else (none)) else (none)) else (none)) else (none)) else (none)) else (none)) else (none)) else (none)) else (none)) else (none)))))) = some r := h
 clear h
 replace H := Option.bind_eq_some_iff.mp H
 obtain ⟨⟨t199, t200⟩, A10, H⟩ := H
 (try dsimp only at H)
 have A1 := Aside0.mk A10
 clear A10
 replace H := Option.bind_eq_some_iff.mp H
 obtain ⟨⟨t203, t204⟩, A20, H⟩ := H
 (try dsimp only at H)
 have A2 := Aside0.mk A20
 clear A20
 replace H := Option.bind_eq_some_iff.mp H
 obtain ⟨⟨t207, t208⟩, A30, H⟩ := H
 (try dsimp only at H)
 have A3 := Aside0.mk A30
 clear A30
 replace H := Option.bind_eq_some_iff.mp H
 obtain ⟨⟨t209, t210⟩, A40, H⟩ := H
 (try dsimp only at H)
 have A4 := Aside0.mk A40
 clear A40
 by_cases c5 : (t199.length : Int) = 3
 ·rw [if_pos c5] at H
  obtain ⟨c5b0, c5b1⟩ := eT_ c5
  clear c5
  by_cases c6 : (t203.length : Int) = 2
  ·rw [if_pos c6] at H
   obtain ⟨c6b0, c6b1⟩ := eT_ c6
   clear c6
   by_cases c7 : 1 < (t199.length : Int)
   ·rw [if_pos c7] at H
    have c7b0 : decide (1 < (t199.length : Int)) = true := decide_eq_true c7
    have c7b1 : decide (1 < t199.length) = true := decide_eq_true (by omega)
    clear c7
    obtain ⟨bq8, hbq8⟩ : ∃ b_ : Bool, b_ = ((rd_T34 t199 1).f1) := ⟨_, rfl⟩
    replace H : (if bq8 = true then (if (((rd_T34 t199 1).f3).length : Int) = 2 then (if (((rd_T34 t199 1).f4).length : Int) = 1 then (if 2 < (t199.length : Int) then (if ((rd_T34 t199 2).f2.f2).toList = ([101] : List UInt8) then (if t200 = 0 then (if 0 < (t203.length : Int) then (if (rd_T34 t203 0).f1 = true then (if t204 = 0 then (if t207.toList = ([97, 61, 40, 120, 41, 44, 32, 98] : List UInt8) then (if t208 = 0 then (some (t210 == 50)) else (none)) else (none)) else (none)) else (none)) else (none)) else (none)) else (none)) else (none)) else (none)) else (none)) else (none)) = some r := by rw [← hbq8] at H; exact H
    have Nbq8 := Aside0.mk hbq8
    clear hbq8
    by_cases c9 : bq8 = true
    ·subst c9
     rw [if_pos rfl] at H
     by_cases c10 : (((rd_T34 t199 1).f3).length : Int) = 2
     ·rw [if_pos c10] at H
      obtain ⟨c10b0, c10b1⟩ := eT_ c10
      clear c10
      by_cases c11 : (((rd_T34 t199 1).f4).length : Int) = 1
      ·rw [if_pos c11] at H
       obtain ⟨c11b0, c11b1⟩ := eT_ c11
       clear c11
       by_cases c12 : 2 < (t199.length : Int)
       ·rw [if_pos c12] at H
        have c12b0 : decide (2 < (t199.length : Int)) = true := decide_eq_true c12
        have c12b1 : decide (2 < t199.length) = true := decide_eq_true (by omega)
        clear c12
        by_cases c13 : ((rd_T34 t199 2).f2.f2).toList = ([101] : List UInt8)
        ·rw [if_pos c13] at H
         obtain ⟨c13b0, c13b1⟩ := eT_ c13
         clear c13
         by_cases c14 : t200 = 0
         ·rw [if_pos c14] at H
          obtain ⟨c14b0, c14b1⟩ := eT_ c14
          clear c14
          by_cases c15 : 0 < (t203.length : Int)
          ·rw [if_pos c15] at H
           have c15b0 : decide (0 < (t203.length : Int)) = true := decide_eq_true c15
           have c15b1 : decide (0 < t203.length) = true := decide_eq_true (by omega)
           clear c15
           obtain ⟨bq16, hbq16⟩ : ∃ b_ : Bool, b_ = ((rd_T34 t203 0).f1) := ⟨_, rfl⟩
           replace H : (if bq16 = true then (if t204 = 0 then (if t207.toList = ([97, 61, 40, 120, 41, 44, 32, 98] : List UInt8) then (if t208 = 0 then (some (t210 == 50)) else (none)) else (none)) else (none)) else (none)) = some r := by rw [← hbq16] at H; exact H
           have Nbq16 := Aside0.mk hbq16
           clear hbq16
           by_cases c17 : bq16 = true
           ·subst c17
            rw [if_pos rfl] at H
            by_cases c18 : t204 = 0
            ·rw [if_pos c18] at H
             obtain ⟨c18b0, c18b1⟩ := eT_ c18
             clear c18
             by_cases c19 : t207.toList = ([97, 61, 40, 120, 41, 44, 32, 98] : List UInt8)
             ·rw [if_pos c19] at H
              obtain ⟨c19b0, c19b1⟩ := eT_ c19
              clear c19
              by_cases c20 : t208 = 0
              ·rw [if_pos c20] at H
               obtain ⟨c20b0, c20b1⟩ := eT_ c20
               clear c20
               obtain rfl := Option.some.inj H
               go_enter Tryz.func9, Tryz.ntmps9
               go_wp2_with (first | ((with_reducible refine gate_callee (f := 10) rfl ?_); refine goesL_ (some 10) rfl rfl Tryz.func10 (by kernel_rfl) rfl #[.string ⟨#[97, 44, 32, 40, 98, 32, 99, 41, 59, 100, 32, 44, 32, 34, 101, 34]⟩] rfl (by simp only [List.map_toArray, List.map_cons, List.map_nil] <;> rfl) ?_; (with_reducible refine (sfield_List.calls k (⟨#[97, 44, 32, 40, 98, 32, 99, 41, 59, 100, 32, 44, 32, 34, 101, 34]⟩ : ByteArray) t199 t200 _ A1.out).mono ?_); rintro e w21 ⟨v201, rfl, ho0, hb⟩; refine ⟨_, rfl, ?_⟩; have n0_ := Aside0.mk (Kd.R_lower ho0 (below_size (bl_ HB.out))); have n1_ := Aside0.mk (below_step (bl_ HB.out) hb); clear HB; have HO202 := n0_; have HB := n1_; clear n0_ n1_; (try clear hb); (try clear hb2); (try clear hk); (try clear hi); (try clear ho0)) | ((with_reducible refine gate_callee (f := 12) rfl ?_); refine goesL_ (some 14) rfl rfl Tryz.func12 (by kernel_rfl) rfl #[.string ⟨#[97, 61, 49, 44, 32, 98, 44, 32, 97, 61, 40, 120, 41]⟩] rfl (by simp only [List.map_toArray, List.map_cons, List.map_nil] <;> rfl) ?_; (with_reducible refine (sfield_Dict.calls k (⟨#[97, 61, 49, 44, 32, 98, 44, 32, 97, 61, 40, 120, 41]⟩ : ByteArray) t203 t204 _ A2.out).mono ?_); rintro e w22 ⟨v205, rfl, ho0, hb⟩; refine ⟨_, rfl, ?_⟩; have n0_ := Aside0.mk (Kd.R_elder' (rl_ HO202.out) (Kd.R_base ho0) hb); have n1_ := Aside0.mk (Kd.R_lower (Kd.R_new' ho0 (Kd.R_lt (rl_ HO202.out))) (below_size (bl_ HB.out))); have n2_ := Aside0.mk (below_step (bl_ HB.out) hb); clear HO202; clear HB; have HO202 := n0_; have HO206 := n1_; have HB := n2_; clear n0_ n1_ n2_; (try clear hb); (try clear hb2); (try clear hk); (try clear hi); (try clear ho0); obtain ⟨Ao23, co23, eo23⟩ := Kd.R_slice HO206.out; subst eo23) | ((with_reducible refine gate_callee (f := 19) rfl ?_); refine goesL_ (some 19) rfl rfl Tryz.func19 (by kernel_rfl) rfl #[.slice Ao23 t203.length co23] rfl (by simp only [List.map_toArray, List.map_cons, List.map_nil] <;> rfl) ?_; (with_reducible refine (sfield_DictText.calls k _ _ t203 t207 t208 _ (tab_ hT_ ?hTab) ?side1 ?side2 A3.out).mono ?_); (case hTab => exact (bl_ HB.out)); (case side1 => exact cl_ (Kd.R_reads' HO206.out).2.2); (case side2 => exact (Kd.R_reads' HO206.out).2.1); rintro e w24 ⟨rfl, hb⟩; refine ⟨_, rfl, ?_⟩; have n0_ := Aside0.mk (Kd.R_below (rl_ HO202.out) hb); have n1_ := Aside0.mk (Kd.R_below (rl_ HO206.out) hb); have n2_ := Aside0.mk (below_step (bl_ HB.out) hb); clear HO202; clear HO206; clear HB; have HO202 := n0_; have HO206 := n1_; have HB := n2_; clear n0_ n1_ n2_; (try clear hb); (try clear hb2); (try clear hk); (try clear hi)) | ((with_reducible refine gate_callee (f := 10) rfl ?_); refine goesL_ (some 23) rfl rfl Tryz.func10 (by kernel_rfl) rfl #[.string ⟨#[97, 44]⟩] rfl (by simp only [List.map_toArray, List.map_cons, List.map_nil] <;> rfl) ?_; (with_reducible refine (sfield_List.calls k (⟨#[97, 44]⟩ : ByteArray) t209 t210 _ A4.out).mono ?_); rintro e w25 ⟨v211, rfl, ho0, hb⟩; refine ⟨_, rfl, ?_⟩; have n0_ := Aside0.mk (Kd.R_elder' (rl_ HO202.out) (Kd.R_base ho0) hb); have n1_ := Aside0.mk (Kd.R_elder' (rl_ HO206.out) (Kd.R_base ho0) hb); have n2_ := Aside0.mk (Kd.R_lower (Kd.R_new' (Kd.R_new' ho0 (Kd.R_lt (rl_ HO202.out))) (Kd.R_lt (rl_ HO206.out))) (below_size (bl_ HB.out))); have n3_ := Aside0.mk (below_step (bl_ HB.out) hb); clear HO202; clear HO206; clear HB; have HO202 := n0_; have HO206 := n1_; have HO212 := n2_; have HB := n3_; clear n0_ n1_ n2_ n3_; (try clear hb); (try clear hb2); (try clear hk); (try clear hi); (try clear ho0); obtain ⟨Ao26, co26, eo26⟩ := Kd.R_slice HO202.out; subst eo26; have p213 : 0 ≤ (1 : Int) := (by omega); have q213 : 1 < (t199.length : Int) := of_decide_eq_true (by assumption); obtain ⟨ad213, A213_5, c213_5, A213_6, c213_6, A213_7, c213_7, e213, hx213_0, hx213_1, hx213_2, hx213_3, hx213_4, hx213_5, hx213_6, hx213_7, hl213_5, hi213_5, hl213_6, hi213_6, hl213_7, hi213_7⟩ := at_T34 (Kd.R_reads' HO202.out).2.2 1 p213 q213; (try rw [← Nbq8.out] at hx213_1); (try rw [← Nbq16.out] at hx213_1); cases e213; obtain ⟨ce213, hce213, hMe213, hcc213⟩ := Kd.R_get HO202.out z34 1 p213 (by first | exact q213 | exact of_decide_eq_true (by assumption) | (have e_ := (Kd.R_reads' HO202.out).1; omega)); obtain ⟨ve213_5, ve213_6, ve213_7, rfl, ge213_5, ge213_6, ge213_7⟩ := k34_openM hMe213; have hv213_5 := hcc213 5 _ rfl; rw [add_field _ _ 5 (by omega)] at hv213_5; replace hv213_5 := Option.some.inj (hv213_5.symm.trans hx213_5); rw [hv213_5] at ge213_5; have HL213_5 := Aside0.mk (show Kd.R k60 60 _ _ _ _ ((rd_T34 t199 1).f2.f3) from ge213_5); clear hv213_5 ge213_5; have hv213_6 := hcc213 6 _ rfl; rw [add_field _ _ 6 (by omega)] at hv213_6; replace hv213_6 := Option.some.inj (hv213_6.symm.trans hx213_6); rw [hv213_6] at ge213_6; have HL213_6 := Aside0.mk (show Kd.R k31 31 _ _ _ _ ((rd_T34 t199 1).f3) from ge213_6); clear hv213_6 ge213_6; have hv213_7 := hcc213 7 _ rfl; rw [add_field _ _ 7 (by omega)] at hv213_7; replace hv213_7 := Option.some.inj (hv213_7.symm.trans hx213_7); rw [hv213_7] at ge213_7; have HL213_7 := Aside0.mk (show Kd.R k60 60 _ _ _ _ ((rd_T34 t199 1).f4) from ge213_7); clear hv213_7 ge213_7; clear hcc213 hce213; (try simp only [show (1 : Int).toNat = 1 from rfl, Nat.reduceMul, Nat.reduceEqDiff, Go.Addr.add, ↓reduceIte] at hx213_0); (try simp only [show (1 : Int).toNat = 1 from rfl, Nat.reduceMul, Nat.reduceEqDiff, Go.Addr.add, ↓reduceIte] at hx213_1); (try simp only [show (1 : Int).toNat = 1 from rfl, Nat.reduceMul, Nat.reduceEqDiff, Go.Addr.add, ↓reduceIte] at hx213_2); (try simp only [show (1 : Int).toNat = 1 from rfl, Nat.reduceMul, Nat.reduceEqDiff, Go.Addr.add, ↓reduceIte] at hx213_3); (try simp only [show (1 : Int).toNat = 1 from rfl, Nat.reduceMul, Nat.reduceEqDiff, Go.Addr.add, ↓reduceIte] at hx213_4); (try simp only [show (1 : Int).toNat = 1 from rfl, Nat.reduceMul, Nat.reduceEqDiff, Go.Addr.add, ↓reduceIte] at hx213_5); (try simp only [show (1 : Int).toNat = 1 from rfl, Nat.reduceMul, Nat.reduceEqDiff, Go.Addr.add, ↓reduceIte] at hx213_6); (try simp only [show (1 : Int).toNat = 1 from rfl, Nat.reduceMul, Nat.reduceEqDiff, Go.Addr.add, ↓reduceIte] at hx213_7); have qi213 : (1 < t199.length) = True := eq_true (by omega); (try rw [show ((1 : Int)).toNat = 1 from rfl] at hx213_0); (try rw [show 1 * 8 = 8 from rfl] at hx213_0); (try rw [show ((1 : Int)).toNat = 1 from rfl] at hx213_1); (try rw [show 1 * 8 = 8 from rfl] at hx213_1); (try rw [show ((1 : Int)).toNat = 1 from rfl] at hx213_2); (try rw [show 1 * 8 = 8 from rfl] at hx213_2); (try rw [show ((1 : Int)).toNat = 1 from rfl] at hx213_3); (try rw [show 1 * 8 = 8 from rfl] at hx213_3); (try rw [show ((1 : Int)).toNat = 1 from rfl] at hx213_4); (try rw [show 1 * 8 = 8 from rfl] at hx213_4); (try rw [show ((1 : Int)).toNat = 1 from rfl] at hx213_5); (try rw [show 1 * 8 = 8 from rfl] at hx213_5); (try rw [show ((1 : Int)).toNat = 1 from rfl] at hx213_6); (try rw [show 1 * 8 = 8 from rfl] at hx213_6); (try rw [show ((1 : Int)).toNat = 1 from rfl] at hx213_7); (try rw [show 1 * 8 = 8 from rfl] at hx213_7); have HR213_5 := Aside0.mk hi213_5; have HC213_5 := Aside0.mk hl213_5; clear hi213_5 hl213_5; have HR213_6 := Aside0.mk hi213_6; have HC213_6 := Aside0.mk hl213_6; clear hi213_6 hl213_6; have HR213_7 := Aside0.mk hi213_7; have HC213_7 := Aside0.mk hl213_7; clear hi213_7 hl213_7; replace p213 := eq_true p213; replace q213 := eq_true q213; have p214 : 0 ≤ (1 : Int) := (by omega); have q214 : 1 < (t199.length : Int) := of_decide_eq_true (by assumption); obtain ⟨ad214, A214_5, c214_5, A214_6, c214_6, A214_7, c214_7, e214, hx214_0, hx214_1, hx214_2, hx214_3, hx214_4, hx214_5, hx214_6, hx214_7, hl214_5, hi214_5, hl214_6, hi214_6, hl214_7, hi214_7⟩ := at_T34 (Kd.R_reads' HO202.out).2.2 1 p214 q214; (try rw [← Nbq8.out] at hx214_1); (try rw [← Nbq16.out] at hx214_1); obtain rfl : ad213 = ad214 := (by injection e214); obtain ⟨ce214, hce214, hMe214, hcc214⟩ := Kd.R_get HO202.out z34 1 p214 (by first | exact q214 | exact of_decide_eq_true (by assumption) | (have e_ := (Kd.R_reads' HO202.out).1; omega)); obtain ⟨ve214_5, ve214_6, ve214_7, rfl, ge214_5, ge214_6, ge214_7⟩ := k34_openM hMe214; have hv214_5 := hcc214 5 _ rfl; rw [add_field _ _ 5 (by omega)] at hv214_5; replace hv214_5 := Option.some.inj (hv214_5.symm.trans hx214_5); rw [hv214_5] at ge214_5; have HL214_5 := Aside0.mk (show Kd.R k60 60 _ _ _ _ ((rd_T34 t199 1).f2.f3) from ge214_5); clear hv214_5 ge214_5; have hv214_6 := hcc214 6 _ rfl; rw [add_field _ _ 6 (by omega)] at hv214_6; replace hv214_6 := Option.some.inj (hv214_6.symm.trans hx214_6); rw [hv214_6] at ge214_6; have HL214_6 := Aside0.mk (show Kd.R k31 31 _ _ _ _ ((rd_T34 t199 1).f3) from ge214_6); clear hv214_6 ge214_6; have hv214_7 := hcc214 7 _ rfl; rw [add_field _ _ 7 (by omega)] at hv214_7; replace hv214_7 := Option.some.inj (hv214_7.symm.trans hx214_7); rw [hv214_7] at ge214_7; have HL214_7 := Aside0.mk (show Kd.R k60 60 _ _ _ _ ((rd_T34 t199 1).f4) from ge214_7); clear hv214_7 ge214_7; clear hcc214 hce214; (try simp only [show (1 : Int).toNat = 1 from rfl, Nat.reduceMul, Nat.reduceEqDiff, Go.Addr.add, ↓reduceIte] at hx214_0); (try simp only [show (1 : Int).toNat = 1 from rfl, Nat.reduceMul, Nat.reduceEqDiff, Go.Addr.add, ↓reduceIte] at hx214_1); (try simp only [show (1 : Int).toNat = 1 from rfl, Nat.reduceMul, Nat.reduceEqDiff, Go.Addr.add, ↓reduceIte] at hx214_2); (try simp only [show (1 : Int).toNat = 1 from rfl, Nat.reduceMul, Nat.reduceEqDiff, Go.Addr.add, ↓reduceIte] at hx214_3); (try simp only [show (1 : Int).toNat = 1 from rfl, Nat.reduceMul, Nat.reduceEqDiff, Go.Addr.add, ↓reduceIte] at hx214_4); (try simp only [show (1 : Int).toNat = 1 from rfl, Nat.reduceMul, Nat.reduceEqDiff, Go.Addr.add, ↓reduceIte] at hx214_5); (try simp only [show (1 : Int).toNat = 1 from rfl, Nat.reduceMul, Nat.reduceEqDiff, Go.Addr.add, ↓reduceIte] at hx214_6); (try simp only [show (1 : Int).toNat = 1 from rfl, Nat.reduceMul, Nat.reduceEqDiff, Go.Addr.add, ↓reduceIte] at hx214_7); have qi214 : (1 < t199.length) = True := eq_true (by omega); (try rw [show ((1 : Int)).toNat = 1 from rfl] at hx214_0); (try rw [show 1 * 8 = 8 from rfl] at hx214_0); (try rw [show ((1 : Int)).toNat = 1 from rfl] at hx214_1); (try rw [show 1 * 8 = 8 from rfl] at hx214_1); (try rw [show ((1 : Int)).toNat = 1 from rfl] at hx214_2); (try rw [show 1 * 8 = 8 from rfl] at hx214_2); (try rw [show ((1 : Int)).toNat = 1 from rfl] at hx214_3); (try rw [show 1 * 8 = 8 from rfl] at hx214_3); (try rw [show ((1 : Int)).toNat = 1 from rfl] at hx214_4); (try rw [show 1 * 8 = 8 from rfl] at hx214_4); (try rw [show ((1 : Int)).toNat = 1 from rfl] at hx214_5); (try rw [show 1 * 8 = 8 from rfl] at hx214_5); (try rw [show ((1 : Int)).toNat = 1 from rfl] at hx214_6); (try rw [show 1 * 8 = 8 from rfl] at hx214_6); (try rw [show ((1 : Int)).toNat = 1 from rfl] at hx214_7); (try rw [show 1 * 8 = 8 from rfl] at hx214_7); have HR214_5 := Aside0.mk hi214_5; have HC214_5 := Aside0.mk hl214_5; clear hi214_5 hl214_5; have HR214_6 := Aside0.mk hi214_6; have HC214_6 := Aside0.mk hl214_6; clear hi214_6 hl214_6; have HR214_7 := Aside0.mk hi214_7; have HC214_7 := Aside0.mk hl214_7; clear hi214_7 hl214_7; replace p214 := eq_true p214; replace q214 := eq_true q214; have ea_ := Option.some.inj (hx213_5.symm.trans hx214_5); injection ea_ with ea_ en_ ec_; subst ea_; subst ec_; clear en_; have ea_ := Option.some.inj (hx213_6.symm.trans hx214_6); injection ea_ with ea_ en_ ec_; subst ea_; subst ec_; clear en_; have ea_ := Option.some.inj (hx213_7.symm.trans hx214_7); injection ea_ with ea_ en_ ec_; subst ea_; subst ec_; clear en_; have p215 : 0 ≤ (1 : Int) := (by omega); have q215 : 1 < (t199.length : Int) := of_decide_eq_true (by assumption); obtain ⟨ad215, A215_5, c215_5, A215_6, c215_6, A215_7, c215_7, e215, hx215_0, hx215_1, hx215_2, hx215_3, hx215_4, hx215_5, hx215_6, hx215_7, hl215_5, hi215_5, hl215_6, hi215_6, hl215_7, hi215_7⟩ := at_T34 (Kd.R_reads' HO202.out).2.2 1 p215 q215; (try rw [← Nbq8.out] at hx215_1); (try rw [← Nbq16.out] at hx215_1); obtain rfl : ad213 = ad215 := (by injection e215); obtain ⟨ce215, hce215, hMe215, hcc215⟩ := Kd.R_get HO202.out z34 1 p215 (by first | exact q215 | exact of_decide_eq_true (by assumption) | (have e_ := (Kd.R_reads' HO202.out).1; omega)); obtain ⟨ve215_5, ve215_6, ve215_7, rfl, ge215_5, ge215_6, ge215_7⟩ := k34_openM hMe215; have hv215_5 := hcc215 5 _ rfl; rw [add_field _ _ 5 (by omega)] at hv215_5; replace hv215_5 := Option.some.inj (hv215_5.symm.trans hx215_5); rw [hv215_5] at ge215_5; have HL215_5 := Aside0.mk (show Kd.R k60 60 _ _ _ _ ((rd_T34 t199 1).f2.f3) from ge215_5); clear hv215_5 ge215_5; have hv215_6 := hcc215 6 _ rfl; rw [add_field _ _ 6 (by omega)] at hv215_6; replace hv215_6 := Option.some.inj (hv215_6.symm.trans hx215_6); rw [hv215_6] at ge215_6; have HL215_6 := Aside0.mk (show Kd.R k31 31 _ _ _ _ ((rd_T34 t199 1).f3) from ge215_6); clear hv215_6 ge215_6; have hv215_7 := hcc215 7 _ rfl; rw [add_field _ _ 7 (by omega)] at hv215_7; replace hv215_7 := Option.some.inj (hv215_7.symm.trans hx215_7); rw [hv215_7] at ge215_7; have HL215_7 := Aside0.mk (show Kd.R k60 60 _ _ _ _ ((rd_T34 t199 1).f4) from ge215_7); clear hv215_7 ge215_7; clear hcc215 hce215; (try simp only [show (1 : Int).toNat = 1 from rfl, Nat.reduceMul, Nat.reduceEqDiff, Go.Addr.add, ↓reduceIte] at hx215_0); (try simp only [show (1 : Int).toNat = 1 from rfl, Nat.reduceMul, Nat.reduceEqDiff, Go.Addr.add, ↓reduceIte] at hx215_1); (try simp only [show (1 : Int).toNat = 1 from rfl, Nat.reduceMul, Nat.reduceEqDiff, Go.Addr.add, ↓reduceIte] at hx215_2); (try simp only [show (1 : Int).toNat = 1 from rfl, Nat.reduceMul, Nat.reduceEqDiff, Go.Addr.add, ↓reduceIte] at hx215_3); (try simp only [show (1 : Int).toNat = 1 from rfl, Nat.reduceMul, Nat.reduceEqDiff, Go.Addr.add, ↓reduceIte] at hx215_4); (try simp only [show (1 : Int).toNat = 1 from rfl, Nat.reduceMul, Nat.reduceEqDiff, Go.Addr.add, ↓reduceIte] at hx215_5); (try simp only [show (1 : Int).toNat = 1 from rfl, Nat.reduceMul, Nat.reduceEqDiff, Go.Addr.add, ↓reduceIte] at hx215_6); (try simp only [show (1 : Int).toNat = 1 from rfl, Nat.reduceMul, Nat.reduceEqDiff, Go.Addr.add, ↓reduceIte] at hx215_7); have qi215 : (1 < t199.length) = True := eq_true (by omega); (try rw [show ((1 : Int)).toNat = 1 from rfl] at hx215_0); (try rw [show 1 * 8 = 8 from rfl] at hx215_0); (try rw [show ((1 : Int)).toNat = 1 from rfl] at hx215_1); (try rw [show 1 * 8 = 8 from rfl] at hx215_1); (try rw [show ((1 : Int)).toNat = 1 from rfl] at hx215_2); (try rw [show 1 * 8 = 8 from rfl] at hx215_2); (try rw [show ((1 : Int)).toNat = 1 from rfl] at hx215_3); (try rw [show 1 * 8 = 8 from rfl] at hx215_3); (try rw [show ((1 : Int)).toNat = 1 from rfl] at hx215_4); (try rw [show 1 * 8 = 8 from rfl] at hx215_4); (try rw [show ((1 : Int)).toNat = 1 from rfl] at hx215_5); (try rw [show 1 * 8 = 8 from rfl] at hx215_5); (try rw [show ((1 : Int)).toNat = 1 from rfl] at hx215_6); (try rw [show 1 * 8 = 8 from rfl] at hx215_6); (try rw [show ((1 : Int)).toNat = 1 from rfl] at hx215_7); (try rw [show 1 * 8 = 8 from rfl] at hx215_7); have HR215_5 := Aside0.mk hi215_5; have HC215_5 := Aside0.mk hl215_5; clear hi215_5 hl215_5; have HR215_6 := Aside0.mk hi215_6; have HC215_6 := Aside0.mk hl215_6; clear hi215_6 hl215_6; have HR215_7 := Aside0.mk hi215_7; have HC215_7 := Aside0.mk hl215_7; clear hi215_7 hl215_7; replace p215 := eq_true p215; replace q215 := eq_true q215; have ea_ := Option.some.inj (hx213_5.symm.trans hx215_5); injection ea_ with ea_ en_ ec_; subst ea_; subst ec_; clear en_; have ea_ := Option.some.inj (hx213_6.symm.trans hx215_6); injection ea_ with ea_ en_ ec_; subst ea_; subst ec_; clear en_; have ea_ := Option.some.inj (hx213_7.symm.trans hx215_7); injection ea_ with ea_ en_ ec_; subst ea_; subst ec_; clear en_; have p216 : 0 ≤ (2 : Int) := (by omega); have q216 : 2 < (t199.length : Int) := of_decide_eq_true (by assumption); obtain ⟨ad216, A216_5, c216_5, A216_6, c216_6, A216_7, c216_7, e216, hx216_0, hx216_1, hx216_2, hx216_3, hx216_4, hx216_5, hx216_6, hx216_7, hl216_5, hi216_5, hl216_6, hi216_6, hl216_7, hi216_7⟩ := at_T34 (Kd.R_reads' HO202.out).2.2 2 p216 q216; (try rw [← Nbq8.out] at hx216_1); (try rw [← Nbq16.out] at hx216_1); obtain rfl : ad213 = ad216 := (by injection e216); obtain ⟨ce216, hce216, hMe216, hcc216⟩ := Kd.R_get HO202.out z34 2 p216 (by first | exact q216 | exact of_decide_eq_true (by assumption) | (have e_ := (Kd.R_reads' HO202.out).1; omega)); obtain ⟨ve216_5, ve216_6, ve216_7, rfl, ge216_5, ge216_6, ge216_7⟩ := k34_openM hMe216; have hv216_5 := hcc216 5 _ rfl; rw [add_field _ _ 5 (by omega)] at hv216_5; replace hv216_5 := Option.some.inj (hv216_5.symm.trans hx216_5); rw [hv216_5] at ge216_5; have HL216_5 := Aside0.mk (show Kd.R k60 60 _ _ _ _ ((rd_T34 t199 2).f2.f3) from ge216_5); clear hv216_5 ge216_5; have hv216_6 := hcc216 6 _ rfl; rw [add_field _ _ 6 (by omega)] at hv216_6; replace hv216_6 := Option.some.inj (hv216_6.symm.trans hx216_6); rw [hv216_6] at ge216_6; have HL216_6 := Aside0.mk (show Kd.R k31 31 _ _ _ _ ((rd_T34 t199 2).f3) from ge216_6); clear hv216_6 ge216_6; have hv216_7 := hcc216 7 _ rfl; rw [add_field _ _ 7 (by omega)] at hv216_7; replace hv216_7 := Option.some.inj (hv216_7.symm.trans hx216_7); rw [hv216_7] at ge216_7; have HL216_7 := Aside0.mk (show Kd.R k60 60 _ _ _ _ ((rd_T34 t199 2).f4) from ge216_7); clear hv216_7 ge216_7; clear hcc216 hce216; (try simp only [show (2 : Int).toNat = 2 from rfl, Nat.reduceMul, Nat.reduceEqDiff, Go.Addr.add, ↓reduceIte] at hx216_0); (try simp only [show (2 : Int).toNat = 2 from rfl, Nat.reduceMul, Nat.reduceEqDiff, Go.Addr.add, ↓reduceIte] at hx216_1); (try simp only [show (2 : Int).toNat = 2 from rfl, Nat.reduceMul, Nat.reduceEqDiff, Go.Addr.add, ↓reduceIte] at hx216_2); (try simp only [show (2 : Int).toNat = 2 from rfl, Nat.reduceMul, Nat.reduceEqDiff, Go.Addr.add, ↓reduceIte] at hx216_3); (try simp only [show (2 : Int).toNat = 2 from rfl, Nat.reduceMul, Nat.reduceEqDiff, Go.Addr.add, ↓reduceIte] at hx216_4); (try simp only [show (2 : Int).toNat = 2 from rfl, Nat.reduceMul, Nat.reduceEqDiff, Go.Addr.add, ↓reduceIte] at hx216_5); (try simp only [show (2 : Int).toNat = 2 from rfl, Nat.reduceMul, Nat.reduceEqDiff, Go.Addr.add, ↓reduceIte] at hx216_6); (try simp only [show (2 : Int).toNat = 2 from rfl, Nat.reduceMul, Nat.reduceEqDiff, Go.Addr.add, ↓reduceIte] at hx216_7); have qi216 : (2 < t199.length) = True := eq_true (by omega); (try rw [show ((2 : Int)).toNat = 2 from rfl] at hx216_0); (try rw [show 2 * 8 = 16 from rfl] at hx216_0); (try rw [show ((2 : Int)).toNat = 2 from rfl] at hx216_1); (try rw [show 2 * 8 = 16 from rfl] at hx216_1); (try rw [show ((2 : Int)).toNat = 2 from rfl] at hx216_2); (try rw [show 2 * 8 = 16 from rfl] at hx216_2); (try rw [show ((2 : Int)).toNat = 2 from rfl] at hx216_3); (try rw [show 2 * 8 = 16 from rfl] at hx216_3); (try rw [show ((2 : Int)).toNat = 2 from rfl] at hx216_4); (try rw [show 2 * 8 = 16 from rfl] at hx216_4); (try rw [show ((2 : Int)).toNat = 2 from rfl] at hx216_5); (try rw [show 2 * 8 = 16 from rfl] at hx216_5); (try rw [show ((2 : Int)).toNat = 2 from rfl] at hx216_6); (try rw [show 2 * 8 = 16 from rfl] at hx216_6); (try rw [show ((2 : Int)).toNat = 2 from rfl] at hx216_7); (try rw [show 2 * 8 = 16 from rfl] at hx216_7); have HR216_5 := Aside0.mk hi216_5; have HC216_5 := Aside0.mk hl216_5; clear hi216_5 hl216_5; have HR216_6 := Aside0.mk hi216_6; have HC216_6 := Aside0.mk hl216_6; clear hi216_6 hl216_6; have HR216_7 := Aside0.mk hi216_7; have HC216_7 := Aside0.mk hl216_7; clear hi216_7 hl216_7; replace p216 := eq_true p216; replace q216 := eq_true q216; have p217 : 0 ≤ (0 : Int) := (by omega); have q217 : 0 < (t203.length : Int) := of_decide_eq_true (by assumption); obtain ⟨ad217, A217_5, c217_5, A217_6, c217_6, A217_7, c217_7, e217, hx217_0, hx217_1, hx217_2, hx217_3, hx217_4, hx217_5, hx217_6, hx217_7, hl217_5, hi217_5, hl217_6, hi217_6, hl217_7, hi217_7⟩ := at_T34 (Kd.R_reads' HO206.out).2.2 0 p217 q217; (try rw [← Nbq8.out] at hx217_1); (try rw [← Nbq16.out] at hx217_1); cases e217; obtain ⟨ce217, hce217, hMe217, hcc217⟩ := Kd.R_get HO206.out z34 0 p217 (by first | exact q217 | exact of_decide_eq_true (by assumption) | (have e_ := (Kd.R_reads' HO206.out).1; omega)); obtain ⟨ve217_5, ve217_6, ve217_7, rfl, ge217_5, ge217_6, ge217_7⟩ := k34_openM hMe217; have hv217_5 := hcc217 5 _ rfl; rw [add_field _ _ 5 (by omega)] at hv217_5; replace hv217_5 := Option.some.inj (hv217_5.symm.trans hx217_5); rw [hv217_5] at ge217_5; have HL217_5 := Aside0.mk (show Kd.R k60 60 _ _ _ _ ((rd_T34 t203 0).f2.f3) from ge217_5); clear hv217_5 ge217_5; have hv217_6 := hcc217 6 _ rfl; rw [add_field _ _ 6 (by omega)] at hv217_6; replace hv217_6 := Option.some.inj (hv217_6.symm.trans hx217_6); rw [hv217_6] at ge217_6; have HL217_6 := Aside0.mk (show Kd.R k31 31 _ _ _ _ ((rd_T34 t203 0).f3) from ge217_6); clear hv217_6 ge217_6; have hv217_7 := hcc217 7 _ rfl; rw [add_field _ _ 7 (by omega)] at hv217_7; replace hv217_7 := Option.some.inj (hv217_7.symm.trans hx217_7); rw [hv217_7] at ge217_7; have HL217_7 := Aside0.mk (show Kd.R k60 60 _ _ _ _ ((rd_T34 t203 0).f4) from ge217_7); clear hv217_7 ge217_7; clear hcc217 hce217; have qi217 : (0 < t203.length) = True := eq_true (by omega); (try rw [show ((0 : Int)).toNat = 0 from rfl] at hx217_0); (try rw [show 0 * 8 = 0 from rfl] at hx217_0); (try rw [Addr.add_zero'] at hx217_0); (try rw [show ((0 : Int)).toNat = 0 from rfl] at hx217_1); (try rw [show 0 * 8 = 0 from rfl] at hx217_1); (try rw [Addr.add_zero'] at hx217_1); (try rw [show ((0 : Int)).toNat = 0 from rfl] at hx217_2); (try rw [show 0 * 8 = 0 from rfl] at hx217_2); (try rw [Addr.add_zero'] at hx217_2); (try rw [show ((0 : Int)).toNat = 0 from rfl] at hx217_3); (try rw [show 0 * 8 = 0 from rfl] at hx217_3); (try rw [Addr.add_zero'] at hx217_3); (try rw [show ((0 : Int)).toNat = 0 from rfl] at hx217_4); (try rw [show 0 * 8 = 0 from rfl] at hx217_4); (try rw [Addr.add_zero'] at hx217_4); (try rw [show ((0 : Int)).toNat = 0 from rfl] at hx217_5); (try rw [show 0 * 8 = 0 from rfl] at hx217_5); (try rw [Addr.add_zero'] at hx217_5); (try rw [show ((0 : Int)).toNat = 0 from rfl] at hx217_6); (try rw [show 0 * 8 = 0 from rfl] at hx217_6); (try rw [Addr.add_zero'] at hx217_6); (try rw [show ((0 : Int)).toNat = 0 from rfl] at hx217_7); (try rw [show 0 * 8 = 0 from rfl] at hx217_7); (try rw [Addr.add_zero'] at hx217_7); have HR217_5 := Aside0.mk hi217_5; have HC217_5 := Aside0.mk hl217_5; clear hi217_5 hl217_5; have HR217_6 := Aside0.mk hi217_6; have HC217_6 := Aside0.mk hl217_6; clear hi217_6 hl217_6; have HR217_7 := Aside0.mk hi217_7; have HC217_7 := Aside0.mk hl217_7; clear hi217_7 hl217_7; replace p217 := eq_true p217; replace q217 := eq_true q217))
               go_ret
               exact ⟨by first | rfl | (simp [errW_none, errW_some] <;> rfl) | (simp [*, errW_none, errW_some] <;> rfl) | (simp [q_ne_nil]; done), bl_ HB.out⟩
              ·exact absurd H (by rw [if_neg c20]; simp)
             ·exact absurd H (by rw [if_neg c19]; simp)
            ·exact absurd H (by rw [if_neg c18]; simp)
           ·exact absurd H (by rw [if_neg c17]; simp)
          ·exact absurd H (by rw [if_neg c15]; simp)
         ·exact absurd H (by rw [if_neg c14]; simp)
        ·exact absurd H (by rw [if_neg c13]; simp)
       ·exact absurd H (by rw [if_neg c12]; simp)
      ·exact absurd H (by rw [if_neg c11]; simp)
     ·exact absurd H (by rw [if_neg c10]; simp)
    ·exact absurd H (by rw [if_neg c9]; simp)
   ·exact absurd H (by rw [if_neg c7]; simp)
  ·exact absurd H (by rw [if_neg c6]; simp)
 ·exact absurd H (by rw [if_neg c5]; simp)
end Go.Proofs.YtjdbiicjfpgjkaaGreatDoor.Q
namespace Go.Proofs.YtjdbiicjfpgjkaaGreatDoor.Q
open Go.RowKit Go.Proofs.YtjdbiicjfpgjkaaGreatDoorW.PrintWords Go.Proofs.YtjdbiicjfpgjkaaGreatDoorW.PrintLast Go.Proofs.YtjdbiicjfpgjkaaGreatDoorW.PrintMore
set_option linter.unusedVariables false
set_option linter.unusedSimpArgs false
theorem eqA60 (d : Nat) (w : World) (x0 y0 : ByteArray) (x1 y1 : Int) (x2 y2 : Int) (x3 y3 : ByteArray) :
    (Op.equalIn (d + 2) 60 (.agg #[.string x0, .int .i64 x1, .int .i64 x2, .string x3]) (.agg #[.string y0, .int .i64 y1, .int .i64 y2, .string y3])).run Tryz.prog w = .ok (x0.toList == y0.toList && (x1 == y1 && (x2 == y2 && (x3.toList == y3.toList)))) w := by
  refine eqA_of Tryz.underlying60 (by kernel_rfl) ?_
  refine eqf_cons (by rfl) (by go_simp; rfl) (by go_simp; rfl) (by go_simp) ?_
  refine eqf_cons (by rfl) (by go_simp; rfl) (by go_simp; rfl) (by go_simp) ?_
  refine eqf_cons (by rfl) (by go_simp; rfl) (by go_simp; rfl) (by go_simp) ?_
  exact eqf_last (by rfl) (by go_simp; rfl) (by go_simp; rfl) (by go_simp)
end Go.Proofs.YtjdbiicjfpgjkaaGreatDoor.Q
namespace Go.Proofs.YtjdbiicjfpgjkaaGreatDoor.Q
open Go.RowKit Go.Proofs.YtjdbiicjfpgjkaaGreatDoorW.PrintWords Go.Proofs.YtjdbiicjfpgjkaaGreatDoorW.PrintLast Go.Proofs.YtjdbiicjfpgjkaaGreatDoorW.PrintMore
set_option linter.unusedVariables false
set_option linter.unusedSimpArgs false
def glacisref05_small.f (a0 : Int) (a1 : Bool) : Option (Bool) := if a0 ≥ 97 then (if a0 ≤ 122 then (some true) else (if a0 = 42 then (some true) else (if a1 = true then (some false) else (if a0 ≥ 48 then (if a0 ≤ 57 then (some true) else (if a0 = 95 then (some true) else (if a0 = 45 then (some true) else (some (a0 == 46))))) else (if a0 = 95 then (some true) else (if a0 = 45 then (some true) else (some (a0 == 46)))))))) else (if a0 = 42 then (some true) else (if a1 = true then (some false) else (if a0 ≥ 48 then (if a0 ≤ 57 then (some true) else (if a0 = 95 then (some true) else (if a0 = 45 then (some true) else (some (a0 == 46))))) else (if a0 = 95 then (some true) else (if a0 = 45 then (some true) else (some (a0 == 46)))))))
def glacisref05_Key.l0 : Nat → ByteArray → Int → Option (ByteArray × ByteArray × Int)
 | 0, _, _ => none
 | k + 1, x0, x5 => if x5 < (x0.size : Int) then (if 0 ≤ x5 then ((glacisref05_small.f (bt x0 x5) (x5 == 0)).bind fun t219 => (if t219 = true then (glacisref05_Key.l0 k x0 (wrap64 (x5 + 1))) else (if x5 = 0 then (some ((⟨#[]⟩ : ByteArray), (⟨#[]⟩ : ByteArray), 50)) else (if x5 ≤ (x0.size : Int) then (some (x0.extract 0 (x5 : Int).toNat, x0.extract (x5 : Int).toNat x0.size, 0)) else (none))))) else (none)) else (if x5 = 0 then (some ((⟨#[]⟩ : ByteArray), (⟨#[]⟩ : ByteArray), 50)) else (if 0 ≤ x5 then (if x5 ≤ (x0.size : Int) then (some (x0.extract 0 (x5 : Int).toNat, x0.extract (x5 : Int).toNat x0.size, 0)) else (none)) else (none)))
def glacisref05_Key.f (k : Nat) (a0 : ByteArray) : Option (ByteArray × ByteArray × Int) := glacisref05_Key.l0 k a0 0
def glacisref01_Letter.f (a0 : Int) : Option (Bool) := if a0 ≥ 97 then (if a0 ≤ 122 then (some true) else (if a0 ≥ 65 then (some (decide (a0 ≤ 90))) else (some false))) else (if a0 ≥ 65 then (some (decide (a0 ≤ 90))) else (some false))
def glacisref01_Digit.f (a0 : Int) : Option (Bool) := if a0 ≥ 48 then (some (decide (a0 ≤ 57))) else (some false)
def glacisref05_digits.l0 : Nat → ByteArray → Int → Option (Int)
 | 0, _, _ => none
 | k + 1, x0, x3 => if x3 < (x0.size : Int) then (if 0 ≤ x3 then ((glacisref01_Digit.f (bt x0 x3)).bind fun t220 => (if t220 = true then (glacisref05_digits.l0 k x0 (wrap64 (x3 + 1))) else (some x3))) else (none)) else (some x3)
def glacisref05_digits.f (k : Nat) (a0 : ByteArray) : Option (Int) := glacisref05_digits.l0 k a0 0
def glacisref05_told.l0 : Nat → ByteArray → Int → Int → Option (Int)
 | 0, _, _, _ => none
 | k + 1, x0, x3, x4 => if x4 < (x0.size : Int) then (if 0 ≤ x4 then (glacisref05_told.l0 k x0 (wrap64 ((wrap64 (10 * x3)) + (((bt x0 x4) - 48) % 256))) (wrap64 (x4 + 1))) else (none)) else (some x3)
def glacisref05_told.f (k : Nat) (a0 : ByteArray) : Option (Int) := glacisref05_told.l0 k a0 0 0
end Go.Proofs.YtjdbiicjfpgjkaaGreatDoor.Q
namespace Go.Proofs.YtjdbiicjfpgjkaaGreatDoor.Q
open Go.RowKit Go.Proofs.YtjdbiicjfpgjkaaGreatDoorW.PrintWords Go.Proofs.YtjdbiicjfpgjkaaGreatDoorW.PrintLast Go.Proofs.YtjdbiicjfpgjkaaGreatDoorW.PrintMore
set_option linter.unusedVariables false
set_option linter.unusedSimpArgs false
mutual
def glacisref05_number.j0 : Nat → ByteArray → Int → Option (ByteArray × Int × Int × ByteArray × ByteArray × Bool)
 | 0, _, _ => none
 | k + 1, x0, x5 => (glacisref05_digits.f k x0).bind fun t222 => (if t222 = 0 then (glacisref05_number.j1 k x0 x5 t222 true) else (glacisref05_number.j1 k x0 x5 t222 (decide (t222 > 15))))
def glacisref05_number.j1 : Nat → ByteArray → Int → Int → Bool → Option (ByteArray × Int × Int × ByteArray × ByteArray × Bool)
 | 0, _, _, _, _ => none
 | k + 1, x0, x5, x6, x22 => if x22 = true then (some ((⟨#[]⟩ : ByteArray), 0, 0, (⟨#[]⟩ : ByteArray), (⟨#[]⟩ : ByteArray), false)) else (if x6 = (x0.size : Int) then (glacisref05_number.j2 k x0 x5 x6 true) else (if 0 ≤ x6 then (if x6 < (x0.size : Int) then (glacisref05_number.j2 k x0 x5 x6 ((bt x0 x6) != 46)) else (none)) else (none)))
def glacisref05_number.j2 : Nat → ByteArray → Int → Int → Bool → Option (ByteArray × Int × Int × ByteArray × ByteArray × Bool)
 | 0, _, _, _, _ => none
 | k + 1, x0, x5, x6, x33 => if x33 = true then (if 0 ≤ x6 then (if x6 ≤ (x0.size : Int) then ((glacisref05_told.f k (x0.extract 0 (x6 : Int).toNat)).bind fun t223 => (some ((⟨#[]⟩ : ByteArray), 1, wrap64 (x5 * t223), (⟨#[]⟩ : ByteArray), x0.extract (x6 : Int).toNat x0.size, true))) else (none)) else (none)) else (if 0 ≤ (wrap64 (x6 + 1)) then (if (wrap64 (x6 + 1)) ≤ (x0.size : Int) then ((glacisref05_digits.f k (x0.extract ((wrap64 (x6 + 1)) : Int).toNat x0.size)).bind fun t224 => (if x6 > 12 then (glacisref05_number.j3 k x0 x5 x6 t224 true) else (if t224 < 1 then (glacisref05_number.j3 k x0 x5 x6 t224 true) else (glacisref05_number.j3 k x0 x5 x6 t224 (decide (t224 > 3)))))) else (none)) else (none))
def glacisref05_number.j3 : Nat → ByteArray → Int → Int → Int → Bool → Option (ByteArray × Int × Int × ByteArray × ByteArray × Bool)
 | 0, _, _, _, _, _ => none
 | k + 1, x0, x5, x6, x7, x58 => if x58 = true then (some ((⟨#[]⟩ : ByteArray), 0, 0, (⟨#[]⟩ : ByteArray), (⟨#[]⟩ : ByteArray), false)) else (if 0 ≤ x6 then (if x6 ≤ (x0.size : Int) then (if 0 ≤ (wrap64 (x6 + 1)) then (if (wrap64 (x6 + 1)) ≤ (wrap64 ((wrap64 (x6 + 1)) + x7)) then (if (wrap64 ((wrap64 (x6 + 1)) + x7)) ≤ (x0.size : Int) then (if (x0.extract 0 (x6 : Int).toNat).size + (x0.extract ((wrap64 (x6 + 1)) : Int).toNat ((wrap64 ((wrap64 (x6 + 1)) + x7)) : Int).toNat).size ≤ 9223372036854775807 then ((glacisref05_told.f k ((x0.extract 0 (x6 : Int).toNat) ++ (x0.extract ((wrap64 (x6 + 1)) : Int).toNat ((wrap64 ((wrap64 (x6 + 1)) + x7)) : Int).toNat))).bind fun t225 => (glacisref05_number.l0 k x0 x5 x6 x7 t225 x7)) else (none)) else (none)) else (none)) else (none)) else (none)) else (none))
def glacisref05_number.l0 : Nat → ByteArray → Int → Int → Int → Int → Int → Option (ByteArray × Int × Int × ByteArray × ByteArray × Bool)
 | 0, _, _, _, _, _, _ => none
 | k + 1, x0, x5, x6, x7, x8, x9 => if x9 < 3 then (glacisref05_number.l0 k x0 x5 x6 x7 (wrap64 (10 * x8)) (wrap64 (x9 + 1))) else (if 0 ≤ (wrap64 ((wrap64 (x6 + 1)) + x7)) then (if (wrap64 ((wrap64 (x6 + 1)) + x7)) ≤ (x0.size : Int) then (some ((⟨#[]⟩ : ByteArray), 2, wrap64 (x5 * x8), (⟨#[]⟩ : ByteArray), x0.extract ((wrap64 ((wrap64 (x6 + 1)) + x7)) : Int).toNat x0.size, true)) else (none)) else (none))
end
def glacisref05_number.f (k : Nat) (a0 : ByteArray) : Option (ByteArray × Int × Int × ByteArray × ByteArray × Bool) := if 0 < (a0.size : Int) then (if (bt a0 0) = 45 then (if 1 ≤ (a0.size : Int) then (glacisref05_number.j0 k (a0.extract 1 a0.size) (-1)) else (none)) else (glacisref05_number.j0 k a0 1)) else (none)
end Go.Proofs.YtjdbiicjfpgjkaaGreatDoor.Q
namespace Go.Proofs.YtjdbiicjfpgjkaaGreatDoor.Q
open Go.RowKit Go.Proofs.YtjdbiicjfpgjkaaGreatDoorW.PrintWords Go.Proofs.YtjdbiicjfpgjkaaGreatDoorW.PrintLast Go.Proofs.YtjdbiicjfpgjkaaGreatDoorW.PrintMore
set_option linter.unusedVariables false
set_option linter.unusedSimpArgs false
mutual
def glacisref05_quoted.l0 : Nat → ByteArray → ByteArray → Int → Option (ByteArray × Int × Int × ByteArray × ByteArray × Bool)
 | 0, _, _, _ => none
 | k + 1, x0, x5, x6 => if x6 < (x0.size : Int) then (if 0 ≤ x6 then (if (bt x0 x6) = 34 then (if 0 ≤ (wrap64 (x6 + 1)) then (if (wrap64 (x6 + 1)) ≤ (x0.size : Int) then (some ((⟨#[]⟩ : ByteArray), 3, 0, x5, x0.extract ((wrap64 (x6 + 1)) : Int).toNat x0.size, true)) else (none)) else (none)) else (if (bt x0 x6) < 32 then (glacisref05_quoted.j1 k x0 x5 x6 true) else (glacisref05_quoted.j1 k x0 x5 x6 (decide ((bt x0 x6) > 126))))) else (none)) else (some ((⟨#[]⟩ : ByteArray), 0, 0, (⟨#[]⟩ : ByteArray), (⟨#[]⟩ : ByteArray), false))
def glacisref05_quoted.j1 : Nat → ByteArray → ByteArray → Int → Bool → Option (ByteArray × Int × Int × ByteArray × ByteArray × Bool)
 | 0, _, _, _, _ => none
 | k + 1, x0, x5, x6, x32 => if x32 = true then (some ((⟨#[]⟩ : ByteArray), 0, 0, (⟨#[]⟩ : ByteArray), (⟨#[]⟩ : ByteArray), false)) else (if 0 ≤ x6 then (if x6 < (x0.size : Int) then (if (bt x0 x6) = 92 then (if (wrap64 (x6 + 1)) = (x0.size : Int) then (some ((⟨#[]⟩ : ByteArray), 0, 0, (⟨#[]⟩ : ByteArray), (⟨#[]⟩ : ByteArray), false)) else (if 0 ≤ (wrap64 (x6 + 1)) then (if (wrap64 (x6 + 1)) < (x0.size : Int) then (if (bt x0 (wrap64 (x6 + 1))) = 34 then (if (wrap64 (x6 + 1)) ≤ (wrap64 ((wrap64 (x6 + 1)) + 1)) then (if (wrap64 ((wrap64 (x6 + 1)) + 1)) ≤ (x0.size : Int) then (if x5.size + (x0.extract ((wrap64 (x6 + 1)) : Int).toNat ((wrap64 ((wrap64 (x6 + 1)) + 1)) : Int).toNat).size ≤ 9223372036854775807 then (glacisref05_quoted.l0 k x0 (x5 ++ (x0.extract ((wrap64 (x6 + 1)) : Int).toNat ((wrap64 ((wrap64 (x6 + 1)) + 1)) : Int).toNat)) (wrap64 ((wrap64 (x6 + 1)) + 1))) else (none)) else (none)) else (none)) else (if (bt x0 (wrap64 (x6 + 1))) = 92 then (if (wrap64 (x6 + 1)) ≤ (wrap64 ((wrap64 (x6 + 1)) + 1)) then (if (wrap64 ((wrap64 (x6 + 1)) + 1)) ≤ (x0.size : Int) then (if x5.size + (x0.extract ((wrap64 (x6 + 1)) : Int).toNat ((wrap64 ((wrap64 (x6 + 1)) + 1)) : Int).toNat).size ≤ 9223372036854775807 then (glacisref05_quoted.l0 k x0 (x5 ++ (x0.extract ((wrap64 (x6 + 1)) : Int).toNat ((wrap64 ((wrap64 (x6 + 1)) + 1)) : Int).toNat)) (wrap64 ((wrap64 (x6 + 1)) + 1))) else (none)) else (none)) else (none)) else (some ((⟨#[]⟩ : ByteArray), 0, 0, (⟨#[]⟩ : ByteArray), (⟨#[]⟩ : ByteArray), false)))) else (none)) else (none))) else (if x6 ≤ (wrap64 (x6 + 1)) then (if (wrap64 (x6 + 1)) ≤ (x0.size : Int) then (if x5.size + (x0.extract (x6 : Int).toNat ((wrap64 (x6 + 1)) : Int).toNat).size ≤ 9223372036854775807 then (glacisref05_quoted.l0 k x0 (x5 ++ (x0.extract (x6 : Int).toNat ((wrap64 (x6 + 1)) : Int).toNat)) (wrap64 (x6 + 1))) else (none)) else (none)) else (none))) else (none)) else (none))
end
def glacisref05_quoted.f (k : Nat) (a0 : ByteArray) : Option (ByteArray × Int × Int × ByteArray × ByteArray × Bool) := glacisref05_quoted.l0 k a0 (⟨#[]⟩ : ByteArray) 1
def glacisref01_In.l0 : Nat → Int → ByteArray → Int → Option (Bool)
 | 0, _, _, _ => none
 | k + 1, x0, x1, x5 => if x5 < (x1.size : Int) then (if 0 ≤ x5 then (if (bt x1 x5) = x0 then (some true) else (glacisref01_In.l0 k x0 x1 (wrap64 (x5 + 1)))) else (none)) else (some false)
def glacisref01_In.f (k : Nat) (a0 : Int) (a1 : ByteArray) : Option (Bool) := glacisref01_In.l0 k a0 a1 0
theorem glacisref01_In.mono_l : ∀ k, (∀ y0 y1 y2, LeO (glacisref01_In.l0 k y0 y1 y2) (glacisref01_In.l0 (k + 1) y0 y1 y2))
 | 0 => fun _ _ _ r h => by simp [glacisref01_In.l0] at h
 | k + 1 => by
  have ih0 := glacisref01_In.mono_l k
  ·intro y0 y1 y2
   unfold glacisref01_In.l0
   repeat' first
   | (with_reducible exact ih0 _ _ _)
   | (with_reducible exact LeO.refl _)
   | (with_reducible exact LeO.none _)
   | (with_reducible refine LeO.ite ?_ ?_)
   | (with_reducible refine LeO.bind ?_ (fun _ => ?_))
   | exact ih0 _ _ _
   | exact LeO.none _
   | refine LeO.ite ?_ ?_
   | refine LeO.bind ?_ (fun _ => ?_)
theorem glacisref01_In.mono : ∀ a0 a1 k, LeO (glacisref01_In.f k a0 a1) (glacisref01_In.f (k + 1) a0 a1) := by
 intro a0 a1 k
 have ih0 := glacisref01_In.mono_l k
 unfold glacisref01_In.f
 repeat' first
   | (with_reducible exact ih0 _ _ _)
   | (with_reducible exact LeO.refl _)
   | (with_reducible exact LeO.none _)
   | (with_reducible refine LeO.ite ?_ ?_)
   | (with_reducible refine LeO.bind ?_ (fun _ => ?_))
   | exact ih0 _ _ _
   | exact LeO.none _
   | refine LeO.ite ?_ ?_
   | refine LeO.bind ?_ (fun _ => ?_)
def glacisref01_Tchar.f (k : Nat) (a0 : Int) : Option (Bool) := (glacisref01_Letter.f a0).bind fun t227 => ((glacisref01_Digit.f a0).bind fun t228 => ((glacisref01_In.f k a0 (⟨#[33, 35, 36, 37, 38, 39, 42, 43, 45, 46, 94, 95, 124, 126]⟩ : ByteArray)).bind fun t229 => (if t229 = true then (if t227 = true then (some true) else (if t228 = true then (some true) else (some true))) else (if t227 = true then (some true) else (if t228 = true then (some true) else (some (a0 == 96)))))))
theorem glacisref01_Tchar.mono : ∀ a0 k, LeO (glacisref01_Tchar.f k a0) (glacisref01_Tchar.f (k + 1) a0) := by
 intro a0 k
 unfold glacisref01_Tchar.f
 repeat' first
   | (with_reducible exact glacisref01_In.mono _ _ _)
   | (with_reducible exact LeO.refl _)
   | (with_reducible exact LeO.none _)
   | (with_reducible refine LeO.ite ?_ ?_)
   | (with_reducible refine LeO.bind ?_ (fun _ => ?_))
   | exact glacisref01_In.mono _ _ _
   | exact LeO.none _
   | refine LeO.ite ?_ ?_
   | refine LeO.bind ?_ (fun _ => ?_)
def glacisref05_tokens.f (k : Nat) (a0 : Int) : Option (Bool) := (glacisref01_Tchar.f k a0).bind fun t230 => (if t230 = true then (some true) else (if a0 = 58 then (some true) else (some (a0 == 47))))
theorem glacisref05_tokens.mono : ∀ a0 k, LeO (glacisref05_tokens.f k a0) (glacisref05_tokens.f (k + 1) a0) := by
 intro a0 k
 unfold glacisref05_tokens.f
 repeat' first
   | (with_reducible exact glacisref01_Tchar.mono _ _)
   | (with_reducible exact LeO.refl _)
   | (with_reducible exact LeO.none _)
   | (with_reducible refine LeO.ite ?_ ?_)
   | (with_reducible refine LeO.bind ?_ (fun _ => ?_))
   | exact glacisref01_Tchar.mono _ _
   | exact LeO.none _
   | refine LeO.ite ?_ ?_
   | refine LeO.bind ?_ (fun _ => ?_)
end Go.Proofs.YtjdbiicjfpgjkaaGreatDoor.Q
namespace Go.Proofs.YtjdbiicjfpgjkaaGreatDoor.Q
open Go.RowKit Go.Proofs.YtjdbiicjfpgjkaaGreatDoorW.PrintWords Go.Proofs.YtjdbiicjfpgjkaaGreatDoorW.PrintLast Go.Proofs.YtjdbiicjfpgjkaaGreatDoorW.PrintMore
set_option linter.unusedVariables false
set_option linter.unusedSimpArgs false
def glacisref05_base.f (a0 : Int) : Option (Bool) := (glacisref01_Letter.f a0).bind fun t231 => ((glacisref01_Digit.f a0).bind fun t232 => (if t231 = true then (some true) else (if t232 = true then (some true) else (if a0 = 43 then (some true) else (if a0 = 47 then (some true) else (some (a0 == 61)))))))
end Go.Proofs.YtjdbiicjfpgjkaaGreatDoor.Q
namespace Go.Proofs.YtjdbiicjfpgjkaaGreatDoor.Q
open Go.RowKit Go.Proofs.YtjdbiicjfpgjkaaGreatDoorW.PrintWords Go.Proofs.YtjdbiicjfpgjkaaGreatDoorW.PrintLast Go.Proofs.YtjdbiicjfpgjkaaGreatDoorW.PrintMore
set_option linter.unusedVariables false
set_option linter.unusedSimpArgs false
mutual
def glacisref05_value.j0 : Nat → ByteArray → Bool → Bool → Option (ByteArray × Int × Int × ByteArray × ByteArray × Bool)
 | 0, _, _, _ => none
 | k + 1, x0, x5, x18 => if x18 = true then ((glacisref05_number.f k x0).bind fun bt236 => (some (bt236.1, bt236.2.1, bt236.2.2.1, bt236.2.2.2.1, bt236.2.2.2.2.1, bt236.2.2.2.2.2))) else (if 0 < (x0.size : Int) then (if (bt x0 0) = 34 then ((glacisref05_quoted.f k x0).bind fun bt242 => (some (bt242.1, bt242.2.1, bt242.2.2.1, bt242.2.2.2.1, bt242.2.2.2.2.1, bt242.2.2.2.2.2))) else (if x5 = true then (glacisref05_value.j1 k x0 true) else (glacisref05_value.j1 k x0 ((bt x0 0) == 42)))) else (none))
def glacisref05_value.j1 : Nat → ByteArray → Bool → Option (ByteArray × Int × Int × ByteArray × ByteArray × Bool)
 | 0, _, _ => none
 | k + 1, x0, x39 => if x39 = true then (glacisref05_value.l0 k x0 1) else (if 0 < (x0.size : Int) then (if (bt x0 0) = 58 then (glacisref05_value.l1 k x0 1) else (if (bt x0 0) = 63 then (if (x0.size : Int) < 2 then (some ((⟨#[]⟩ : ByteArray), 0, 0, (⟨#[]⟩ : ByteArray), (⟨#[]⟩ : ByteArray), false)) else (if 1 < (x0.size : Int) then (if (bt x0 1) = 48 then (if 2 ≤ (x0.size : Int) then (some ((⟨#[]⟩ : ByteArray), 6, ((bt x0 1) - 48) % 256, (⟨#[]⟩ : ByteArray), x0.extract 2 x0.size, true)) else (none)) else (if (bt x0 1) = 49 then (if 2 ≤ (x0.size : Int) then (some ((⟨#[]⟩ : ByteArray), 6, ((bt x0 1) - 48) % 256, (⟨#[]⟩ : ByteArray), x0.extract 2 x0.size, true)) else (none)) else (some ((⟨#[]⟩ : ByteArray), 0, 0, (⟨#[]⟩ : ByteArray), (⟨#[]⟩ : ByteArray), false)))) else (none))) else (some ((⟨#[]⟩ : ByteArray), 0, 0, (⟨#[]⟩ : ByteArray), (⟨#[]⟩ : ByteArray), false)))) else (none))
def glacisref05_value.l0 : Nat → ByteArray → Int → Option (ByteArray × Int × Int × ByteArray × ByteArray × Bool)
 | 0, _, _ => none
 | k + 1, x0, x7 => if x7 < (x0.size : Int) then (if 0 ≤ x7 then ((glacisref05_tokens.f k (bt x0 x7)).bind fun t248 => (if t248 = true then (glacisref05_value.l0 k x0 (wrap64 (x7 + 1))) else (if x7 ≤ (x0.size : Int) then (some ((⟨#[]⟩ : ByteArray), 4, 0, x0.extract 0 (x7 : Int).toNat, x0.extract (x7 : Int).toNat x0.size, true)) else (none)))) else (none)) else (if 0 ≤ x7 then (if x7 ≤ (x0.size : Int) then (some ((⟨#[]⟩ : ByteArray), 4, 0, x0.extract 0 (x7 : Int).toNat, x0.extract (x7 : Int).toNat x0.size, true)) else (none)) else (none))
def glacisref05_value.l1 : Nat → ByteArray → Int → Option (ByteArray × Int × Int × ByteArray × ByteArray × Bool)
 | 0, _, _ => none
 | k + 1, x0, x8 => if x8 < (x0.size : Int) then (if 0 ≤ x8 then ((glacisref05_base.f (bt x0 x8)).bind fun t249 => (if t249 = true then (glacisref05_value.l1 k x0 (wrap64 (x8 + 1))) else (if x8 = (x0.size : Int) then (some ((⟨#[]⟩ : ByteArray), 0, 0, (⟨#[]⟩ : ByteArray), (⟨#[]⟩ : ByteArray), false)) else (if (bt x0 x8) = 58 then (if 1 ≤ x8 then (if x8 ≤ (x0.size : Int) then (if 0 ≤ (wrap64 (x8 + 1)) then (if (wrap64 (x8 + 1)) ≤ (x0.size : Int) then (some ((⟨#[]⟩ : ByteArray), 5, 0, x0.extract 1 (x8 : Int).toNat, x0.extract ((wrap64 (x8 + 1)) : Int).toNat x0.size, true)) else (none)) else (none)) else (none)) else (none)) else (some ((⟨#[]⟩ : ByteArray), 0, 0, (⟨#[]⟩ : ByteArray), (⟨#[]⟩ : ByteArray), false)))))) else (none)) else (if x8 = (x0.size : Int) then (some ((⟨#[]⟩ : ByteArray), 0, 0, (⟨#[]⟩ : ByteArray), (⟨#[]⟩ : ByteArray), false)) else (if 0 ≤ x8 then (none) else (none)))
end
def glacisref05_value.f (k : Nat) (a0 : ByteArray) : Option (ByteArray × Int × Int × ByteArray × ByteArray × Bool) := if a0.toList = ([] : List UInt8) then (some ((⟨#[]⟩ : ByteArray), 0, 0, (⟨#[]⟩ : ByteArray), (⟨#[]⟩ : ByteArray), false)) else (if 0 < (a0.size : Int) then ((glacisref01_Letter.f (bt a0 0)).bind fun t234 => ((glacisref01_Digit.f (bt a0 0)).bind fun t235 => (if (bt a0 0) = 45 then (glacisref05_value.j0 k a0 t234 true) else (glacisref05_value.j0 k a0 t234 t235)))) else (none))
end Go.Proofs.YtjdbiicjfpgjkaaGreatDoor.Q
namespace Go.Proofs.YtjdbiicjfpgjkaaGreatDoor.Q
open Go.RowKit Go.Proofs.YtjdbiicjfpgjkaaGreatDoorW.PrintWords Go.Proofs.YtjdbiicjfpgjkaaGreatDoorW.PrintLast Go.Proofs.YtjdbiicjfpgjkaaGreatDoorW.PrintMore
set_option linter.unusedVariables false
set_option linter.unusedSimpArgs false
attribute [local go_sem high] eqA60
def glacisref05_SameParams.l0 : Nat → List (S60) → List (S60) → Int → Option (Bool)
 | 0, _, _, _ => none
 | k + 1, x0, x1, x5 => if x5 < (x0.length : Int) then (if 0 ≤ x5 then (if x5 < (x1.length : Int) then (if (!((((rd_T60 x0 x5).f0).toList) == (((rd_T60 x1 x5).f0).toList)) || (!(((rd_T60 x0 x5).f1) == ((rd_T60 x1 x5).f1)) || (!(((rd_T60 x0 x5).f2) == ((rd_T60 x1 x5).f2)) || (!((((rd_T60 x0 x5).f3).toList) == (((rd_T60 x1 x5).f3).toList)))))) = true then (some false) else (glacisref05_SameParams.l0 k x0 x1 (wrap64 (x5 + 1)))) else (none)) else (none)) else (some true)
def glacisref05_SameParams.f (k : Nat) (l0 : List (S60)) (l1 : List (S60)) : Option (Bool) := if (l0.length : Int) = (l1.length : Int) then (glacisref05_SameParams.l0 k l0 l1 0) else (some false)
set_option maxHeartbeats 8000000 in
set_option maxRecDepth 100000 in
theorem glacisref05_SameParams.calls (k : Nat) (A0 : Option Addr) (c0 : Nat) (l0 : List (S60)) (A1 : Option Addr) (c1 : Nat) (l1 : List (S60)) (r : Bool) (w : World) (hr0 : Kd.C k60 w A0 l0.length l0) (hc0 : l0.length ≤ c0) (hr1 : Kd.C k60 w A1 l1.length l1) (hc1 : l1.length ≤ c1) (h : glacisref05_SameParams.f k l0 l1 = some r) :
  Calls Tryz.prog 29 #[.slice A0 l0.length c0, .slice A1 l1.length c1] w fun e w' => e = .returned (.bool r) ∧ Drawn0 w w' := by
 have hu60 := Tryz.underlying60
 have HR0 := Aside0.mk hr0
 have HC0 := Aside0.mk hc0
 clear hr0 hc0
 have HR1 := Aside0.mk hr1
 have HC1 := Aside0.mk hc1
 clear hr1 hc1
 have H : (if (l0.length : Int) = (l1.length : Int) then (glacisref05_SameParams.l0 k l0 l1 0) else (some false)) = some r := h
 clear h
 by_cases c3 : (l0.length : Int) = (l1.length : Int)
 ·rw [if_pos c3] at H
  obtain ⟨c3b0, c3b1⟩ := eT_ c3
  have c3b2 : (l0.length == l1.length) = true := by first | simpa using c3 | (simp at c3 ⊢; omega)
  clear c3
  have H' := Aside0.mk H
  clear H
  go_enter Tryz.func29, Tryz.ntmps29
  go_wp2
  repeat (go_quiet (fail); try go_wp2)
  go_loopg [5] k (fun kq v5 w' => ∃ (x5_1 : Int), v5 = .int .i64 x5_1 ∧ Aside0 (glacisref05_SameParams.l0 kq l0 l1 x5_1 = some r) ∧ Aside0 (kq ≤ k) ∧ Drawn0 w w')
  case atStart => exact ⟨(0), (by first | rfl | simp [*]), H', ⟨Nat.le_refl _⟩, by repeat (first | exact Drawn0.refl _ | apply Drawn0.step)⟩
  case round =>
   clear H'
   try clear c1
   try clear c2
   try clear p2
   try clear c3
   try clear c3b0
   try clear c3b1
   try clear c3b2
   obtain ⟨x5_1, rfl, HA, HK1, ⟨m1, rfl⟩⟩ := hrel
   cases gk with
   | zero => exact absurd HA.out (by simp [glacisref05_SameParams.l0])
   | succ k1 =>
    have H := HA.out
    clear HA
    simp only [glacisref05_SameParams.l0] at H
    by_cases c4 : x5_1 < (l0.length : Int)
    ·rw [if_pos c4] at H
     have c4b0 : decide (x5_1 < (l0.length : Int)) = true := decide_eq_true c4
     clear c4
     by_cases c5 : 0 ≤ x5_1
     ·rw [if_pos c5] at H
      have c5b0 : decide (0 ≤ x5_1) = true := decide_eq_true c5
      clear c5
      by_cases c6 : x5_1 < (l1.length : Int)
      ·rw [if_pos c6] at H
       have c6b0 : decide (x5_1 < (l1.length : Int)) = true := decide_eq_true c6
       clear c6
       by_cases c7 : (!((((rd_T60 l0 x5_1).f0).toList) == (((rd_T60 l1 x5_1).f0).toList)) || (!(((rd_T60 l0 x5_1).f1) == ((rd_T60 l1 x5_1).f1)) || (!(((rd_T60 l0 x5_1).f2) == ((rd_T60 l1 x5_1).f2)) || (!((((rd_T60 l0 x5_1).f3).toList) == (((rd_T60 l1 x5_1).f3).toList)))))) = true
       ·rw [if_pos c7] at H
        have c7b0 : (!((((rd_T60 l0 x5_1).f0).toList) == (((rd_T60 l1 x5_1).f0).toList)) || (!(((rd_T60 l0 x5_1).f1) == ((rd_T60 l1 x5_1).f1)) || (!(((rd_T60 l0 x5_1).f2) == ((rd_T60 l1 x5_1).f2)) || (!((((rd_T60 l0 x5_1).f3).toList) == (((rd_T60 l1 x5_1).f3).toList)))))) = true := c7
        clear c7
        obtain rfl := Option.some.inj H
        have p406 : 0 ≤ (x5_1 : Int) := of_decide_eq_true (by assumption)
        have q406 : x5_1 < (l0.length : Int) := of_decide_eq_true (by assumption)
        obtain ⟨ad406, e406, hx406_0, hx406_1, hx406_2, hx406_3⟩ := at_T60 HR0.out x5_1 p406 q406
        cases e406
        replace p406 := eq_true p406
        replace q406 := eq_true q406
        have p407 : 0 ≤ (x5_1 : Int) := of_decide_eq_true (by assumption)
        have q407 : x5_1 < (l1.length : Int) := of_decide_eq_true (by assumption)
        obtain ⟨ad407, e407, hx407_0, hx407_1, hx407_2, hx407_3⟩ := at_T60 HR1.out x5_1 p407 q407
        cases e407
        replace p407 := eq_true p407
        replace q407 := eq_true q407
        go_wp2
        repeat (go_quiet (fail); try go_wp2)
        go_ret
        exact ⟨by first | rfl | simp [*], by repeat (first | exact Drawn0.refl _ | apply Drawn0.step)⟩
       ·rw [if_neg c7] at H
        have c7b0 : (!((((rd_T60 l0 x5_1).f0).toList) == (((rd_T60 l1 x5_1).f0).toList)) || (!(((rd_T60 l0 x5_1).f1) == ((rd_T60 l1 x5_1).f1)) || (!(((rd_T60 l0 x5_1).f2) == ((rd_T60 l1 x5_1).f2)) || (!((((rd_T60 l0 x5_1).f3).toList) == (((rd_T60 l1 x5_1).f3).toList)))))) = false := by simpa using c7
        clear c7
        have H' := Aside0.mk H
        clear H
        have p406 : 0 ≤ (x5_1 : Int) := of_decide_eq_true (by assumption)
        have q406 : x5_1 < (l0.length : Int) := of_decide_eq_true (by assumption)
        obtain ⟨ad406, e406, hx406_0, hx406_1, hx406_2, hx406_3⟩ := at_T60 HR0.out x5_1 p406 q406
        cases e406
        replace p406 := eq_true p406
        replace q406 := eq_true q406
        have p407 : 0 ≤ (x5_1 : Int) := of_decide_eq_true (by assumption)
        have q407 : x5_1 < (l1.length : Int) := of_decide_eq_true (by assumption)
        obtain ⟨ad407, e407, hx407_0, hx407_1, hx407_2, hx407_3⟩ := at_T60 HR1.out x5_1 p407 q407
        cases e407
        replace p407 := eq_true p407
        replace q407 := eq_true q407
        go_wp2
        repeat (go_quiet (fail); try go_wp2)
        go_roundg k1
        case measure => have := HK1.out; omega
        case rel => exact ⟨(wrap64 (x5_1 + 1)), (by first | rfl | simp [*]), H', ⟨by have := HK1.out; omega⟩, by repeat (first | exact Drawn0.refl _ | apply Drawn0.step)⟩
      ·rw [if_neg c6] at H
       exact absurd H (by simp)
     ·rw [if_neg c5] at H
      exact absurd H (by simp)
    ·rw [if_neg c4] at H
     have c4b0 : decide (x5_1 < (l0.length : Int)) = false := decide_eq_false c4
     clear c4
     obtain rfl := Option.some.inj H
     go_wp2
     repeat (go_quiet (fail); try go_wp2)
     go_ret
     exact ⟨by first | rfl | simp [*], by repeat (first | exact Drawn0.refl _ | apply Drawn0.step)⟩
 ·rw [if_neg c3] at H
  obtain ⟨c3b0, c3b1⟩ := eF_ c3
  have c3b2 : (l0.length == l1.length) = false := by first | simpa using c3 | (simp at c3 ⊢; omega)
  obtain rfl := Option.some.inj H
  go_enter Tryz.func29, Tryz.ntmps29
  go_wp2
  repeat (go_quiet (fail); try go_wp2)
  go_ret
  exact ⟨by first | rfl | simp [*], by repeat (first | exact Drawn0.refl _ | apply Drawn0.step)⟩
def glacisref05_Same.f (k : Nat) (a0_0 : Int) (a0_1 : Int) (a0_2 : ByteArray) (l0_3 : List (S60)) (a1_0 : Int) (a1_1 : Int) (a1_2 : ByteArray) (l1_3 : List (S60)) : Option (Bool) := (glacisref05_SameParams.f k l0_3 l1_3).bind fun t410 => (if t410 = true then (if a0_0 = a1_0 then (if a0_1 = a1_1 then (some (a0_2.toList == a1_2.toList)) else (some false)) else (some false)) else (some false))
set_option maxHeartbeats 8000000 in
set_option maxRecDepth 100000 in
theorem glacisref05_Same.calls (k : Nat) (a0_0 : Int) (a0_1 : Int) (a0_2 : ByteArray) (A0_3 : Option Addr) (c0_3 : Nat) (l0_3 : List (S60)) (a1_0 : Int) (a1_1 : Int) (a1_2 : ByteArray) (A1_3 : Option Addr) (c1_3 : Nat) (l1_3 : List (S60)) (r : Bool) (w : World) (hr0_3 : Kd.C k60 w A0_3 l0_3.length l0_3) (hc0_3 : l0_3.length ≤ c0_3) (hr1_3 : Kd.C k60 w A1_3 l1_3.length l1_3) (hc1_3 : l1_3.length ≤ c1_3) (h : glacisref05_Same.f k a0_0 a0_1 a0_2 l0_3 a1_0 a1_1 a1_2 l1_3 = some r) :
  Calls Tryz.prog 27 #[.agg #[.int .i64 a0_0, .int .i64 a0_1, .string a0_2, .slice A0_3 l0_3.length c0_3], .agg #[.int .i64 a1_0, .int .i64 a1_1, .string a1_2, .slice A1_3 l1_3.length c1_3]] w fun e w' => e = .returned (.bool r) ∧ Below w.heap.size w w' := by
 have hu31 := Tryz.underlying31
 have HR0_3 := Aside0.mk hr0_3
 have HC0_3 := Aside0.mk hc0_3
 clear hr0_3 hc0_3
 have HR1_3 := Aside0.mk hr1_3
 have HC1_3 := Aside0.mk hc1_3
 clear hr1_3 hc1_3
 have HB := Aside0.mk (Below.refl w.heap.size w)
 have H : ((glacisref05_SameParams.f k l0_3 l1_3).bind fun t410 => (if t410 = true then (if a0_0 = a1_0 then (if a0_1 = a1_1 then (some (a0_2.toList == a1_2.toList)) else (some false)) else (some false)) else (some false))) = some r := h
 clear h
 replace H := Option.bind_eq_some_iff.mp H
 obtain ⟨t410, A30, H⟩ := H
 (try dsimp only at H)
 have A3 := Aside0.mk A30
 clear A30
 by_cases c4 : t410 = true
 ·subst c4
  rw [if_pos rfl] at H
  by_cases c5 : a0_0 = a1_0
  ·rw [if_pos c5] at H
   obtain ⟨c5b0, c5b1⟩ := eT_ c5
   clear c5
   by_cases c6 : a0_1 = a1_1
   ·rw [if_pos c6] at H
    obtain ⟨c6b0, c6b1⟩ := eT_ c6
    clear c6
    obtain rfl := Option.some.inj H
    go_enter Tryz.func27, Tryz.ntmps27
    go_wp2_with (first | ((with_reducible refine gate_dst (N := 2) rfl ?_); refine box_event ?hg (N := 2) ?hd (cs := #[.int .i64 a0_0, .int .i64 a0_1, .string a0_2, .slice A0_3 l0_3.length c0_3]) (t := 31) ?hr ?_; (case hd => rfl); (case hg => rfl); (case hr => first | (go_simp; done) | (go_simp; rfl)); intro gb408 hg w7 hbox hb; have n0_ := Aside0.mk (below_step (bl_ HB.out) hb); have n1_ := Aside0.mk (hbox); have n2_ := Aside0.mk ((hg_ hg (bl_ HB.out))); have n3_ := Aside0.mk ((hg_ hg (bl_ HB.out))); clear HB; have HB := n0_; have BK408 := n1_; have GW408 := n2_; have GE408 := n3_; clear n0_ n1_ n2_ n3_; clear hb hbox hg) | ((with_reducible refine gate_dst (N := 3) rfl ?_); refine box_event ?hg (N := 3) ?hd (cs := #[.int .i64 a1_0, .int .i64 a1_1, .string a1_2, .slice A1_3 l1_3.length c1_3]) (t := 31) ?hr ?_; (case hd => rfl); (case hg => rfl); (case hr => first | (go_simp; done) | (go_simp; rfl)); intro gb409 hg w8 hbox hb; have n0_ := Aside0.mk (blk_below (kl_ BK408.out) hb); have n1_ := Aside0.mk (below_step (bl_ HB.out) hb); have n2_ := Aside0.mk (hbox); have n3_ := Aside0.mk ((hg_ hg (bl_ HB.out))); have n4_ := Aside0.mk ((hg_ hg (bl_ HB.out))); have n5_ := Aside0.mk ((by rw [hg]; exact Nat.ne_of_lt (blk_lt (kl_ BK408.out)) : gb408 ≠ gb409)); have n6_ := Aside0.mk ((by rw [hg]; exact Nat.ne_of_gt (blk_lt (kl_ BK408.out)) : gb409 ≠ gb408)); clear BK408; clear HB; have BK408 := n0_; have HB := n1_; have BK409 := n2_; have GW409 := n3_; have GE409 := n4_; have NB408_409 := n5_; have NB409_408 := n6_; clear n0_ n1_ n2_ n3_ n4_ n5_ n6_; clear hb hbox hg; have hnb9 := NB408_409.out; have hnc9 := NB409_408.out; obtain ⟨hcz10_0, hcz10_1, hcz10_2, hcz10_3⟩ := c4_ BK408.out; obtain ⟨hfz10_0, hfz10_1, hfz10_2, hfz10_3⟩ := f4_ BK408.out; obtain ⟨hcz11_0, hcz11_1, hcz11_2, hcz11_3⟩ := c4_ BK409.out; obtain ⟨hfz11_0, hfz11_1, hfz11_2, hfz11_3⟩ := f4_ BK409.out) | ((with_reducible refine gate_callee (f := 29) rfl ?_); refine goesL_ (some 10) rfl rfl Tryz.func29 (by kernel_rfl) rfl #[.slice A0_3 l0_3.length c0_3, .slice A1_3 l1_3.length c1_3] rfl (by simp only [List.map_toArray, List.map_cons, List.map_nil] <;> rfl) ?_; (with_reducible refine (glacisref05_SameParams.calls k _ _ l0_3 _ _ l1_3 true _ ?side1 ?side2 ?side3 ?side4 A3.out).mono ?_); (case side1 => exact cl_ (Kd.C_below HR0_3.out HB.out)); (case side2 => exact HC0_3.out); (case side3 => exact cl_ (Kd.C_below HR1_3.out HB.out)); (case side4 => exact HC1_3.out); rintro e w' ⟨rfl, ⟨nd, rfl⟩⟩; refine ⟨_, rfl, ?_⟩))
    go_ret
    exact ⟨by first | rfl | (simp [errW_none, errW_some] <;> rfl) | (simp [*, errW_none, errW_some] <;> rfl) | (simp [q_ne_nil]; done), by repeat (first | (with_reducible first | exact HB.out | apply below_alloc | apply pw_below_drewN | apply below_drew1 | refine below_set ?_ GE408.out | refine below_set ?_ GE409.out) | exact HB.out)⟩
   ·rw [if_neg c6] at H
    obtain ⟨c6b0, c6b1⟩ := eF_ c6
    obtain rfl := Option.some.inj H
    go_enter Tryz.func27, Tryz.ntmps27
    go_wp2_with (first | ((with_reducible refine gate_dst (N := 2) rfl ?_); refine box_event ?hg (N := 2) ?hd (cs := #[.int .i64 a0_0, .int .i64 a0_1, .string a0_2, .slice A0_3 l0_3.length c0_3]) (t := 31) ?hr ?_; (case hd => rfl); (case hg => rfl); (case hr => first | (go_simp; done) | (go_simp; rfl)); intro gb408 hg w12 hbox hb; have n0_ := Aside0.mk (below_step (bl_ HB.out) hb); have n1_ := Aside0.mk (hbox); have n2_ := Aside0.mk ((hg_ hg (bl_ HB.out))); have n3_ := Aside0.mk ((hg_ hg (bl_ HB.out))); clear HB; have HB := n0_; have BK408 := n1_; have GW408 := n2_; have GE408 := n3_; clear n0_ n1_ n2_ n3_; clear hb hbox hg) | ((with_reducible refine gate_dst (N := 3) rfl ?_); refine box_event ?hg (N := 3) ?hd (cs := #[.int .i64 a1_0, .int .i64 a1_1, .string a1_2, .slice A1_3 l1_3.length c1_3]) (t := 31) ?hr ?_; (case hd => rfl); (case hg => rfl); (case hr => first | (go_simp; done) | (go_simp; rfl)); intro gb409 hg w13 hbox hb; have n0_ := Aside0.mk (blk_below (kl_ BK408.out) hb); have n1_ := Aside0.mk (below_step (bl_ HB.out) hb); have n2_ := Aside0.mk (hbox); have n3_ := Aside0.mk ((hg_ hg (bl_ HB.out))); have n4_ := Aside0.mk ((hg_ hg (bl_ HB.out))); have n5_ := Aside0.mk ((by rw [hg]; exact Nat.ne_of_lt (blk_lt (kl_ BK408.out)) : gb408 ≠ gb409)); have n6_ := Aside0.mk ((by rw [hg]; exact Nat.ne_of_gt (blk_lt (kl_ BK408.out)) : gb409 ≠ gb408)); clear BK408; clear HB; have BK408 := n0_; have HB := n1_; have BK409 := n2_; have GW409 := n3_; have GE409 := n4_; have NB408_409 := n5_; have NB409_408 := n6_; clear n0_ n1_ n2_ n3_ n4_ n5_ n6_; clear hb hbox hg; have hnb14 := NB408_409.out; have hnc14 := NB409_408.out; obtain ⟨hcz15_0, hcz15_1, hcz15_2, hcz15_3⟩ := c4_ BK408.out; obtain ⟨hfz15_0, hfz15_1, hfz15_2, hfz15_3⟩ := f4_ BK408.out; obtain ⟨hcz16_0, hcz16_1, hcz16_2, hcz16_3⟩ := c4_ BK409.out; obtain ⟨hfz16_0, hfz16_1, hfz16_2, hfz16_3⟩ := f4_ BK409.out) | ((with_reducible refine gate_callee (f := 29) rfl ?_); refine goesL_ (some 10) rfl rfl Tryz.func29 (by kernel_rfl) rfl #[.slice A0_3 l0_3.length c0_3, .slice A1_3 l1_3.length c1_3] rfl (by simp only [List.map_toArray, List.map_cons, List.map_nil] <;> rfl) ?_; (with_reducible refine (glacisref05_SameParams.calls k _ _ l0_3 _ _ l1_3 true _ ?side1 ?side2 ?side3 ?side4 A3.out).mono ?_); (case side1 => exact cl_ (Kd.C_below HR0_3.out HB.out)); (case side2 => exact HC0_3.out); (case side3 => exact cl_ (Kd.C_below HR1_3.out HB.out)); (case side4 => exact HC1_3.out); rintro e w' ⟨rfl, ⟨nd, rfl⟩⟩; refine ⟨_, rfl, ?_⟩))
    go_ret
    exact ⟨by first | rfl | (simp [errW_none, errW_some] <;> rfl) | (simp [*, errW_none, errW_some] <;> rfl) | (simp [q_ne_nil]; done), by repeat (first | (with_reducible first | exact HB.out | apply below_alloc | apply pw_below_drewN | apply below_drew1 | refine below_set ?_ GE408.out | refine below_set ?_ GE409.out) | exact HB.out)⟩
  ·rw [if_neg c5] at H
   obtain ⟨c5b0, c5b1⟩ := eF_ c5
   obtain rfl := Option.some.inj H
   go_enter Tryz.func27, Tryz.ntmps27
   go_wp2_with (first | ((with_reducible refine gate_dst (N := 2) rfl ?_); refine box_event ?hg (N := 2) ?hd (cs := #[.int .i64 a0_0, .int .i64 a0_1, .string a0_2, .slice A0_3 l0_3.length c0_3]) (t := 31) ?hr ?_; (case hd => rfl); (case hg => rfl); (case hr => first | (go_simp; done) | (go_simp; rfl)); intro gb408 hg w17 hbox hb; have n0_ := Aside0.mk (below_step (bl_ HB.out) hb); have n1_ := Aside0.mk (hbox); have n2_ := Aside0.mk ((hg_ hg (bl_ HB.out))); have n3_ := Aside0.mk ((hg_ hg (bl_ HB.out))); clear HB; have HB := n0_; have BK408 := n1_; have GW408 := n2_; have GE408 := n3_; clear n0_ n1_ n2_ n3_; clear hb hbox hg) | ((with_reducible refine gate_dst (N := 3) rfl ?_); refine box_event ?hg (N := 3) ?hd (cs := #[.int .i64 a1_0, .int .i64 a1_1, .string a1_2, .slice A1_3 l1_3.length c1_3]) (t := 31) ?hr ?_; (case hd => rfl); (case hg => rfl); (case hr => first | (go_simp; done) | (go_simp; rfl)); intro gb409 hg w18 hbox hb; have n0_ := Aside0.mk (blk_below (kl_ BK408.out) hb); have n1_ := Aside0.mk (below_step (bl_ HB.out) hb); have n2_ := Aside0.mk (hbox); have n3_ := Aside0.mk ((hg_ hg (bl_ HB.out))); have n4_ := Aside0.mk ((hg_ hg (bl_ HB.out))); have n5_ := Aside0.mk ((by rw [hg]; exact Nat.ne_of_lt (blk_lt (kl_ BK408.out)) : gb408 ≠ gb409)); have n6_ := Aside0.mk ((by rw [hg]; exact Nat.ne_of_gt (blk_lt (kl_ BK408.out)) : gb409 ≠ gb408)); clear BK408; clear HB; have BK408 := n0_; have HB := n1_; have BK409 := n2_; have GW409 := n3_; have GE409 := n4_; have NB408_409 := n5_; have NB409_408 := n6_; clear n0_ n1_ n2_ n3_ n4_ n5_ n6_; clear hb hbox hg; have hnb19 := NB408_409.out; have hnc19 := NB409_408.out; obtain ⟨hcz20_0, hcz20_1, hcz20_2, hcz20_3⟩ := c4_ BK408.out; obtain ⟨hfz20_0, hfz20_1, hfz20_2, hfz20_3⟩ := f4_ BK408.out; obtain ⟨hcz21_0, hcz21_1, hcz21_2, hcz21_3⟩ := c4_ BK409.out; obtain ⟨hfz21_0, hfz21_1, hfz21_2, hfz21_3⟩ := f4_ BK409.out) | ((with_reducible refine gate_callee (f := 29) rfl ?_); refine goesL_ (some 10) rfl rfl Tryz.func29 (by kernel_rfl) rfl #[.slice A0_3 l0_3.length c0_3, .slice A1_3 l1_3.length c1_3] rfl (by simp only [List.map_toArray, List.map_cons, List.map_nil] <;> rfl) ?_; (with_reducible refine (glacisref05_SameParams.calls k _ _ l0_3 _ _ l1_3 true _ ?side1 ?side2 ?side3 ?side4 A3.out).mono ?_); (case side1 => exact cl_ (Kd.C_below HR0_3.out HB.out)); (case side2 => exact HC0_3.out); (case side3 => exact cl_ (Kd.C_below HR1_3.out HB.out)); (case side4 => exact HC1_3.out); rintro e w' ⟨rfl, ⟨nd, rfl⟩⟩; refine ⟨_, rfl, ?_⟩))
   go_ret
   exact ⟨by first | rfl | (simp [errW_none, errW_some] <;> rfl) | (simp [*, errW_none, errW_some] <;> rfl) | (simp [q_ne_nil]; done), by repeat (first | (with_reducible first | exact HB.out | apply below_alloc | apply pw_below_drewN | apply below_drew1 | refine below_set ?_ GE408.out | refine below_set ?_ GE409.out) | exact HB.out)⟩
 ·replace c4 := Bool.eq_false_iff.mpr c4
  subst c4
  rw [if_neg (show ¬ (false = true) by decide)] at H
  obtain rfl := Option.some.inj H
  go_enter Tryz.func27, Tryz.ntmps27
  go_wp2_with (first | ((with_reducible refine gate_dst (N := 2) rfl ?_); refine box_event ?hg (N := 2) ?hd (cs := #[.int .i64 a0_0, .int .i64 a0_1, .string a0_2, .slice A0_3 l0_3.length c0_3]) (t := 31) ?hr ?_; (case hd => rfl); (case hg => rfl); (case hr => first | (go_simp; done) | (go_simp; rfl)); intro gb408 hg w22 hbox hb; have n0_ := Aside0.mk (below_step (bl_ HB.out) hb); have n1_ := Aside0.mk (hbox); have n2_ := Aside0.mk ((hg_ hg (bl_ HB.out))); have n3_ := Aside0.mk ((hg_ hg (bl_ HB.out))); clear HB; have HB := n0_; have BK408 := n1_; have GW408 := n2_; have GE408 := n3_; clear n0_ n1_ n2_ n3_; clear hb hbox hg) | ((with_reducible refine gate_dst (N := 3) rfl ?_); refine box_event ?hg (N := 3) ?hd (cs := #[.int .i64 a1_0, .int .i64 a1_1, .string a1_2, .slice A1_3 l1_3.length c1_3]) (t := 31) ?hr ?_; (case hd => rfl); (case hg => rfl); (case hr => first | (go_simp; done) | (go_simp; rfl)); intro gb409 hg w23 hbox hb; have n0_ := Aside0.mk (blk_below (kl_ BK408.out) hb); have n1_ := Aside0.mk (below_step (bl_ HB.out) hb); have n2_ := Aside0.mk (hbox); have n3_ := Aside0.mk ((hg_ hg (bl_ HB.out))); have n4_ := Aside0.mk ((hg_ hg (bl_ HB.out))); have n5_ := Aside0.mk ((by rw [hg]; exact Nat.ne_of_lt (blk_lt (kl_ BK408.out)) : gb408 ≠ gb409)); have n6_ := Aside0.mk ((by rw [hg]; exact Nat.ne_of_gt (blk_lt (kl_ BK408.out)) : gb409 ≠ gb408)); clear BK408; clear HB; have BK408 := n0_; have HB := n1_; have BK409 := n2_; have GW409 := n3_; have GE409 := n4_; have NB408_409 := n5_; have NB409_408 := n6_; clear n0_ n1_ n2_ n3_ n4_ n5_ n6_; clear hb hbox hg; have hnb24 := NB408_409.out; have hnc24 := NB409_408.out; obtain ⟨hcz25_0, hcz25_1, hcz25_2, hcz25_3⟩ := c4_ BK408.out; obtain ⟨hfz25_0, hfz25_1, hfz25_2, hfz25_3⟩ := f4_ BK408.out; obtain ⟨hcz26_0, hcz26_1, hcz26_2, hcz26_3⟩ := c4_ BK409.out; obtain ⟨hfz26_0, hfz26_1, hfz26_2, hfz26_3⟩ := f4_ BK409.out) | ((with_reducible refine gate_callee (f := 29) rfl ?_); refine goesL_ (some 10) rfl rfl Tryz.func29 (by kernel_rfl) rfl #[.slice A0_3 l0_3.length c0_3, .slice A1_3 l1_3.length c1_3] rfl (by simp only [List.map_toArray, List.map_cons, List.map_nil] <;> rfl) ?_; (with_reducible refine (glacisref05_SameParams.calls k _ _ l0_3 _ _ l1_3 false _ ?side1 ?side2 ?side3 ?side4 A3.out).mono ?_); (case side1 => exact cl_ (Kd.C_below HR0_3.out HB.out)); (case side2 => exact HC0_3.out); (case side3 => exact cl_ (Kd.C_below HR1_3.out HB.out)); (case side4 => exact HC1_3.out); rintro e w' ⟨rfl, ⟨nd, rfl⟩⟩; refine ⟨_, rfl, ?_⟩))
  go_ret
  exact ⟨by first | rfl | (simp [errW_none, errW_some] <;> rfl) | (simp [*, errW_none, errW_some] <;> rfl) | (simp [q_ne_nil]; done), by repeat (first | (with_reducible first | exact HB.out | apply below_alloc | apply pw_below_drewN | apply below_drew1 | refine below_set ?_ GE408.out | refine below_set ?_ GE409.out) | exact HB.out)⟩
end Go.Proofs.YtjdbiicjfpgjkaaGreatDoor.Q
namespace Go.Proofs.YtjdbiicjfpgjkaaGreatDoor.Q
open Go.RowKit Go.Proofs.YtjdbiicjfpgjkaaGreatDoorW.PrintWords Go.Proofs.YtjdbiicjfpgjkaaGreatDoorW.PrintLast Go.Proofs.YtjdbiicjfpgjkaaGreatDoorW.PrintMore
set_option linter.unusedVariables false
set_option linter.unusedSimpArgs false
def glacisref06_items.l0 : Nat → List (S31) → List (S31) → Int → Option (Bool)
 | 0, _, _, _ => none
 | k + 1, x0, x1, x5 => if x5 < (x0.length : Int) then (if 0 ≤ x5 then (if x5 < (x1.length : Int) then ((glacisref05_Same.f k ((rd_T31 x0 x5).f0) ((rd_T31 x0 x5).f1) ((rd_T31 x0 x5).f2) ((rd_T31 x0 x5).f3) ((rd_T31 x1 x5).f0) ((rd_T31 x1 x5).f1) ((rd_T31 x1 x5).f2) ((rd_T31 x1 x5).f3)).bind fun t413 => (if t413 = true then (glacisref06_items.l0 k x0 x1 (wrap64 (x5 + 1))) else (some false))) else (none)) else (none)) else (some true)
def glacisref06_items.f (k : Nat) (l0 : List (S31)) (l1 : List (S31)) : Option (Bool) := if (l0.length : Int) = (l1.length : Int) then (glacisref06_items.l0 k l0 l1 0) else (some false)
def glacisref06_items.T6 : Bool × List (List Nat × List Nat) := (true, [([], []), ([], []), ([0, 1], [0, 1]), ([2], [2]), ([], []), ([], []), ([4, 5], [4, 5]), ([6], [6]), ([3, 7], [3, 7]), ([8, 8, 0, 1, 2, 3, 4, 5, 6, 7, 8], [8])])
def glacisref06_items.B6 : List Nat := [0, 0, 3, 7, 0, 0, 48, 112, 255, 511]
theorem glacisref06_items.tab6 : rtab .any (opsOf Tryz.f28 6) = glacisref06_items.T6 := by kernel_rfl
theorem glacisref06_items.bits6 : waitsOk glacisref06_items.T6.2 glacisref06_items.B6 = true := by kernel_rfl
set_option maxHeartbeats 8000000 in
set_option maxRecDepth 100000 in
theorem glacisref06_items.calls (k : Nat) (A0 : Option Addr) (c0 : Nat) (l0 : List (S31)) (A1 : Option Addr) (c1 : Nat) (l1 : List (S31)) (r : Bool) (w : World) (hr0 : Kd.C k31 w A0 l0.length l0) (hc0 : l0.length ≤ c0) (hr1 : Kd.C k31 w A1 l1.length l1) (hc1 : l1.length ≤ c1) (h : glacisref06_items.f k l0 l1 = some r) :
  Calls Tryz.prog 28 #[.slice A0 l0.length c0, .slice A1 l1.length c1] w fun e w' => e = .returned (.bool r) ∧ Below w.heap.size w w' := by
 have hu31 := Tryz.underlying31
 have HR0 := Aside0.mk hr0
 have HC0 := Aside0.mk hc0
 clear hr0 hc0
 have HR1 := Aside0.mk hr1
 have HC1 := Aside0.mk hc1
 clear hr1 hc1
 have HB := Aside0.mk (Below.refl w.heap.size w)
 have H : (if (l0.length : Int) = (l1.length : Int) then (glacisref06_items.l0 k l0 l1 0) else (some false)) = some r := h
 clear h
 by_cases c3 : (l0.length : Int) = (l1.length : Int)
 ·rw [if_pos c3] at H
  obtain ⟨c3b0, c3b1⟩ := eT_ c3
  have c3b2 : (l0.length == l1.length) = true := by first | simpa using c3 | (simp at c3 ⊢; omega)
  clear c3
  have H' := Aside0.mk H
  clear H
  go_enter Tryz.func28, Tryz.ntmps28
  go_wp2
  go_loopg [5] k (fun kq v5 w' => ∃ (x5_1 : Int), v5 = .int .i64 x5_1 ∧ Aside0 (glacisref06_items.l0 kq l0 l1 x5_1 = some r) ∧ Aside0 (kq ≤ k) ∧ Aside0 (Below w.heap.size w w'))
  case atStart => exact ⟨(0), (by first | rfl | simp [*]), H', ⟨Nat.le_refl _⟩, ⟨bl_ HB.out⟩⟩
  case round =>
   clear H'
   try clear c1
   try clear c2
   try clear p2
   try clear c3
   try clear c3b0
   try clear c3b1
   try clear c3b2
   obtain ⟨x5_1, rfl, HA, HK1, HB⟩ := hrel
   cases gk with
   | zero => exact absurd HA.out (by simp [glacisref06_items.l0])
   | succ k1 =>
    have H := HA.out
    clear HA
    simp only [glacisref06_items.l0] at H
    by_cases c4 : x5_1 < (l0.length : Int)
    ·rw [if_pos c4] at H
     have c4b0 : decide (x5_1 < (l0.length : Int)) = true := decide_eq_true c4
     clear c4
     by_cases c5 : 0 ≤ x5_1
     ·rw [if_pos c5] at H
      have c5b0 : decide (0 ≤ x5_1) = true := decide_eq_true c5
      clear c5
      by_cases c6 : x5_1 < (l1.length : Int)
      ·rw [if_pos c6] at H
       have c6b0 : decide (x5_1 < (l1.length : Int)) = true := decide_eq_true c6
       clear c6
       replace H := Option.bind_eq_some_iff.mp H
       obtain ⟨t413, A70, H⟩ := H
       (try dsimp only at H)
       have A7 := Aside0.mk A70
       clear A70
       by_cases c8 : t413 = true
       ·subst c8
        rw [if_pos rfl] at H
        have H' := Aside0.mk H
        clear H
        try go_wp2
        have n0_ := Aside0.mk (below_drew1 HB.out)
        clear HB
        have HB := n0_
        clear n0_
        have p411 : 0 ≤ (x5_1 : Int) := of_decide_eq_true (by assumption)
        have q411 : x5_1 < (l0.length : Int) := of_decide_eq_true (by assumption)
        obtain ⟨ad411, A411_3, c411_3, e411, hx411_0, hx411_1, hx411_2, hx411_3, hl411_3, hi411_3⟩ := at_T31 HR0.out x5_1 p411 q411
        have hw411_3 := hx411_3
        have hw411_2 := hx411_2
        have hw411_1 := hx411_1
        have hw411_0 := hx411_0
        cases e411
        replace hx411_0 := lb_ HB.out hx411_0
        replace hx411_1 := lb_ HB.out hx411_1
        replace hx411_2 := lb_ HB.out hx411_2
        replace hx411_3 := lb_ HB.out hx411_3
        have HR411_3 := Aside0.mk hi411_3
        have HC411_3 := Aside0.mk hl411_3
        clear hi411_3 hl411_3
        replace p411 := eq_true p411
        replace q411 := eq_true q411
        have p412 : 0 ≤ (x5_1 : Int) := of_decide_eq_true (by assumption)
        have q412 : x5_1 < (l1.length : Int) := of_decide_eq_true (by assumption)
        obtain ⟨ad412, A412_3, c412_3, e412, hx412_0, hx412_1, hx412_2, hx412_3, hl412_3, hi412_3⟩ := at_T31 HR1.out x5_1 p412 q412
        have hw412_3 := hx412_3
        have hw412_2 := hx412_2
        have hw412_1 := hx412_1
        have hw412_0 := hx412_0
        cases e412
        replace hx412_0 := lb_ HB.out hx412_0
        replace hx412_1 := lb_ HB.out hx412_1
        replace hx412_2 := lb_ HB.out hx412_2
        replace hx412_3 := lb_ HB.out hx412_3
        have HR412_3 := Aside0.mk hi412_3
        have HC412_3 := Aside0.mk hl412_3
        clear hi412_3 hl412_3
        replace p412 := eq_true p412
        replace q412 := eq_true q412
        refine start_ (n := 10) (S := fun w' => w'.cell? (ad411.add ((x5_1).toNat * 4)) = some (.int .i64 ((rd_T31 l0 x5_1).f0)) ∧ w'.cell? ⟨(ad411.add ((x5_1).toNat * 4)).block, (ad411.add ((x5_1).toNat * 4)).off + 1, none⟩ = some (.int .i64 ((rd_T31 l0 x5_1).f1)) ∧ w'.cell? ⟨(ad411.add ((x5_1).toNat * 4)).block, (ad411.add ((x5_1).toNat * 4)).off + 2, none⟩ = some (.string ((rd_T31 l0 x5_1).f2)) ∧ w'.cell? ⟨(ad411.add ((x5_1).toNat * 4)).block, (ad411.add ((x5_1).toNat * 4)).off + 3, none⟩ = some (.slice A411_3 ((rd_T31 l0 x5_1).f3).length c411_3) ∧ w'.cell? (ad412.add ((x5_1).toNat * 4)) = some (.int .i64 ((rd_T31 l1 x5_1).f0)) ∧ w'.cell? ⟨(ad412.add ((x5_1).toNat * 4)).block, (ad412.add ((x5_1).toNat * 4)).off + 1, none⟩ = some (.int .i64 ((rd_T31 l1 x5_1).f1)) ∧ w'.cell? ⟨(ad412.add ((x5_1).toNat * 4)).block, (ad412.add ((x5_1).toNat * 4)).off + 2, none⟩ = some (.string ((rd_T31 l1 x5_1).f2)) ∧ w'.cell? ⟨(ad412.add ((x5_1).toNat * 4)).block, (ad412.add ((x5_1).toNat * 4)).off + 3, none⟩ = some (.slice A412_3 ((rd_T31 l1 x5_1).f3).length c412_3)) (ds := []) #[false,false,false,false,false,false,false,false,false,false] (by kernel_rfl) rfl rfl ⟨(lc_ HB.out hw411_0), (lc_ HB.out hw411_1), (lc_ HB.out hw411_2), (lc_ HB.out hw411_3), (lc_ HB.out hw412_0), (lc_ HB.out hw412_1), (lc_ HB.out hw412_2), (lc_ HB.out hw412_3)⟩ (fun hHeld => ?_); refine with_tabW glacisref06_items.tab6 glacisref06_items.bits6 (fun HT_ HW_ => ?_)
        generalize wr.drew = w9 at HB HR411_3 HR412_3 hx411_0 hx411_1 hx411_2 hx411_3 hx412_0 hx412_1 hx412_2 hx412_3 hHeld ⊢
        refine pure_ (i := 0) (N := some 18) (v := ?_) (a' := ?_) #[true,false,false,false,false,false,false,false,false,false] rfl rfl (any_of HT_.out (by kernel_rfl)) (fun _ _ _ h => h) (Or.inl ⟨by rfl, ?_⟩) ?_ ?_; rotate_left; (intro w'; go_simp; with_reducible rfl); rotate_left; (simp only [Act.put, List.setIfInBounds_toArray, List.set_cons_zero, List.set_cons_succ, i64_w, i32_w]; rfl)
        refine pure_ (i := 1) (N := some 19) (v := ?_) (a' := ?_) #[true,true,false,false,false,false,false,false,false,false] rfl rfl (any_of HT_.out (by kernel_rfl)) (fun _ _ _ h => h) (Or.inl ⟨by rfl, ?_⟩) ?_ ?_; rotate_left; (intro w'; go_simp; with_reducible rfl); rotate_left; (simp only [Act.put, List.setIfInBounds_toArray, List.set_cons_zero, List.set_cons_succ, i64_w, i32_w]; rfl)
        refine pure_ (i := 2) (N := some 20) (v := ?_) (a' := ?_) #[true,true,true,false,false,false,false,false,false,false] rfl rfl (any_of HT_.out (by kernel_rfl)) (fun _ _ _ h => h) (Or.inl ⟨by rfl, ?_⟩) ?_ ?_; rotate_left; (intro w'; go_simp; with_reducible rfl); rotate_left; (simp only [Act.put, List.setIfInBounds_toArray, List.set_cons_zero, List.set_cons_succ, i64_w, i32_w]; rfl)
        refine pure_ (i := 4) (N := some 22) (v := ?_) (a' := ?_) #[true,true,true,false,true,false,false,false,false,false] rfl rfl (any_of HT_.out (by kernel_rfl)) (fun _ _ _ h => h) (Or.inl ⟨by rfl, ?_⟩) ?_ ?_; rotate_left; (intro w'; go_simp; with_reducible rfl); rotate_left; (simp only [Act.put, List.setIfInBounds_toArray, List.set_cons_zero, List.set_cons_succ, i64_w, i32_w]; rfl)
        refine pure_ (i := 5) (N := some 23) (v := ?_) (a' := ?_) #[true,true,true,false,true,true,false,false,false,false] rfl rfl (any_of HT_.out (by kernel_rfl)) (fun _ _ _ h => h) (Or.inl ⟨by rfl, ?_⟩) ?_ ?_; rotate_left; (intro w'; go_simp; with_reducible rfl); rotate_left; (simp only [Act.put, List.setIfInBounds_toArray, List.set_cons_zero, List.set_cons_succ, i64_w, i32_w]; rfl)
        refine pure_ (i := 6) (N := some 24) (v := ?_) (a' := ?_) #[true,true,true,false,true,true,true,false,false,false] rfl rfl (any_of HT_.out (by kernel_rfl)) (fun _ _ _ h => h) (Or.inl ⟨by rfl, ?_⟩) ?_ ?_; rotate_left; (intro w'; go_simp; with_reducible rfl); rotate_left; (simp only [Act.put, List.setIfInBounds_toArray, List.set_cons_zero, List.set_cons_succ, i64_w, i32_w]; rfl)
        refine take_ (i := 3) (N := some 21) (v := ?_) (a' := ?_) #[true,true,true,true,true,true,true,false,false,false] rfl rfl (take_ofW HT_.out HW_.out (by kernel_rfl)) (fun _ _ _ h => h) (Or.inl ⟨by rfl, ?_⟩) hHeld ?_ ?_
        rotate_left
        ·rintro w' ⟨s0, s1, s2, s3, s4, s5, s6, s7⟩
         go_simp
         with_reducible rfl
        rotate_left
        ·simp only [Act.put, List.setIfInBounds_toArray, List.set_cons_zero, List.set_cons_succ, i64_w, i32_w]
         rfl
        refine take_ (i := 7) (N := some 25) (v := ?_) (a' := ?_) #[true,true,true,true,true,true,true,true,false,false] rfl rfl (take_ofW HT_.out HW_.out (by kernel_rfl)) (fun _ _ _ h => h) (Or.inl ⟨by rfl, ?_⟩) hHeld ?_ ?_
        rotate_left
        ·rintro w' ⟨s0, s1, s2, s3, s4, s5, s6, s7⟩
         go_simp
         with_reducible rfl
        rotate_left
        ·simp only [Act.put, List.setIfInBounds_toArray, List.set_cons_zero, List.set_cons_succ, i64_w, i32_w]
         rfl
        refine one_ (i := 8) (N := some 26) #[true,true,true,true,true,true,true,true,true,false] rfl rfl (one_of HT_.out (by kernel_rfl)) (by decide) (fun K hK => ?_)
        refine goes_ Tryz.func27 (by kernel_rfl) rfl #[.agg #[.int .i64 ((rd_T31 l0 x5_1).f0), .int .i64 ((rd_T31 l0 x5_1).f1), .string ((rd_T31 l0 x5_1).f2), .slice A411_3 ((rd_T31 l0 x5_1).f3).length c411_3], .agg #[.int .i64 ((rd_T31 l1 x5_1).f0), .int .i64 ((rd_T31 l1 x5_1).f1), .string ((rd_T31 l1 x5_1).f2), .slice A412_3 ((rd_T31 l1 x5_1).f3).length c412_3]] (by rfl) rfl rfl (by simp only [List.map_toArray, List.map_cons, List.map_nil] <;> rfl) ?_
        with_reducible refine (glacisref05_Same.calls k1 ((rd_T31 l0 x5_1).f0) ((rd_T31 l0 x5_1).f1) ((rd_T31 l0 x5_1).f2) _ _ ((rd_T31 l0 x5_1).f3) ((rd_T31 l1 x5_1).f0) ((rd_T31 l1 x5_1).f1) ((rd_T31 l1 x5_1).f2) _ _ ((rd_T31 l1 x5_1).f3) true _ ?side1 ?side2 ?side3 ?side4 A7.out).mono ?_
        (case side1 => exact cl_ (Kd.C_below HR411_3.out HB.out))
        (case side2 => exact HC411_3.out)
        (case side3 => exact cl_ (Kd.C_below HR412_3.out HB.out))
        (case side4 => exact HC412_3.out)
        rintro e w10 ⟨rfl, hb⟩
        refine ⟨_, rfl, ?_⟩
        have n0_ := Aside0.mk (below_step (bl_ HB.out) hb)
        clear HB
        have HB := n0_
        clear n0_
        (try clear hb)
        (try clear hb2)
        (try clear hk)
        (try clear hi)
        refine hK.out _ _ ⟨(lc_ HB.out hw411_0), (lc_ HB.out hw411_1), (lc_ HB.out hw411_2), (lc_ HB.out hw411_3), (lc_ HB.out hw412_0), (lc_ HB.out hw412_1), (lc_ HB.out hw412_2), (lc_ HB.out hw412_3)⟩ (fun hHeld => ?_)
        clear hK K
        refine norm_ (a' := ?_) ?_ ?_
        rotate_left
        ·show Act.put _ (some 26) _ = _
         simp only [Act.put, List.setIfInBounds_toArray, List.set_cons_zero, List.set_cons_succ, i64_w, i32_w]
         rfl
        refine pure_ (i := 9) (N := some 6) (v := ?_) (a' := ?_) #[true,true,true,true,true,true,true,true,true,true] rfl rfl (any_of HT_.out (by kernel_rfl)) (fun _ _ _ h => h) (Or.inl ⟨by rfl, ?_⟩) ?_ ?_; rotate_left; (intro w'; go_simp; with_reducible rfl); rotate_left; (simp only [Act.put, List.setIfInBounds_toArray, List.set_cons_zero, List.set_cons_succ, i64_w, i32_w]; rfl)
        refine done_ (done_of HT_.out (by kernel_rfl)) ?_
        try go_wp2
        go_roundg k1
        case measure => have := HK1.out; omega
        case rel => exact ⟨(wrap64 (x5_1 + 1)), (by first | rfl | simp [*]), H', ⟨by have := HK1.out; omega⟩, ⟨bl_ HB.out⟩⟩
       ·replace c8 := Bool.eq_false_iff.mpr c8
        subst c8
        rw [if_neg (show ¬ (false = true) by decide)] at H
        obtain rfl := Option.some.inj H
        try go_wp2
        have n0_ := Aside0.mk (below_drew1 HB.out)
        clear HB
        have HB := n0_
        clear n0_
        have p411 : 0 ≤ (x5_1 : Int) := of_decide_eq_true (by assumption)
        have q411 : x5_1 < (l0.length : Int) := of_decide_eq_true (by assumption)
        obtain ⟨ad411, A411_3, c411_3, e411, hx411_0, hx411_1, hx411_2, hx411_3, hl411_3, hi411_3⟩ := at_T31 HR0.out x5_1 p411 q411
        have hw411_3 := hx411_3
        have hw411_2 := hx411_2
        have hw411_1 := hx411_1
        have hw411_0 := hx411_0
        cases e411
        replace hx411_0 := lb_ HB.out hx411_0
        replace hx411_1 := lb_ HB.out hx411_1
        replace hx411_2 := lb_ HB.out hx411_2
        replace hx411_3 := lb_ HB.out hx411_3
        have HR411_3 := Aside0.mk hi411_3
        have HC411_3 := Aside0.mk hl411_3
        clear hi411_3 hl411_3
        replace p411 := eq_true p411
        replace q411 := eq_true q411
        have p412 : 0 ≤ (x5_1 : Int) := of_decide_eq_true (by assumption)
        have q412 : x5_1 < (l1.length : Int) := of_decide_eq_true (by assumption)
        obtain ⟨ad412, A412_3, c412_3, e412, hx412_0, hx412_1, hx412_2, hx412_3, hl412_3, hi412_3⟩ := at_T31 HR1.out x5_1 p412 q412
        have hw412_3 := hx412_3
        have hw412_2 := hx412_2
        have hw412_1 := hx412_1
        have hw412_0 := hx412_0
        cases e412
        replace hx412_0 := lb_ HB.out hx412_0
        replace hx412_1 := lb_ HB.out hx412_1
        replace hx412_2 := lb_ HB.out hx412_2
        replace hx412_3 := lb_ HB.out hx412_3
        have HR412_3 := Aside0.mk hi412_3
        have HC412_3 := Aside0.mk hl412_3
        clear hi412_3 hl412_3
        replace p412 := eq_true p412
        replace q412 := eq_true q412
        refine start_ (n := 10) (S := fun w' => w'.cell? (ad411.add ((x5_1).toNat * 4)) = some (.int .i64 ((rd_T31 l0 x5_1).f0)) ∧ w'.cell? ⟨(ad411.add ((x5_1).toNat * 4)).block, (ad411.add ((x5_1).toNat * 4)).off + 1, none⟩ = some (.int .i64 ((rd_T31 l0 x5_1).f1)) ∧ w'.cell? ⟨(ad411.add ((x5_1).toNat * 4)).block, (ad411.add ((x5_1).toNat * 4)).off + 2, none⟩ = some (.string ((rd_T31 l0 x5_1).f2)) ∧ w'.cell? ⟨(ad411.add ((x5_1).toNat * 4)).block, (ad411.add ((x5_1).toNat * 4)).off + 3, none⟩ = some (.slice A411_3 ((rd_T31 l0 x5_1).f3).length c411_3) ∧ w'.cell? (ad412.add ((x5_1).toNat * 4)) = some (.int .i64 ((rd_T31 l1 x5_1).f0)) ∧ w'.cell? ⟨(ad412.add ((x5_1).toNat * 4)).block, (ad412.add ((x5_1).toNat * 4)).off + 1, none⟩ = some (.int .i64 ((rd_T31 l1 x5_1).f1)) ∧ w'.cell? ⟨(ad412.add ((x5_1).toNat * 4)).block, (ad412.add ((x5_1).toNat * 4)).off + 2, none⟩ = some (.string ((rd_T31 l1 x5_1).f2)) ∧ w'.cell? ⟨(ad412.add ((x5_1).toNat * 4)).block, (ad412.add ((x5_1).toNat * 4)).off + 3, none⟩ = some (.slice A412_3 ((rd_T31 l1 x5_1).f3).length c412_3)) (ds := []) #[false,false,false,false,false,false,false,false,false,false] (by kernel_rfl) rfl rfl ⟨(lc_ HB.out hw411_0), (lc_ HB.out hw411_1), (lc_ HB.out hw411_2), (lc_ HB.out hw411_3), (lc_ HB.out hw412_0), (lc_ HB.out hw412_1), (lc_ HB.out hw412_2), (lc_ HB.out hw412_3)⟩ (fun hHeld => ?_); refine with_tabW glacisref06_items.tab6 glacisref06_items.bits6 (fun HT_ HW_ => ?_)
        generalize wr.drew = w11 at HB HR411_3 HR412_3 hx411_0 hx411_1 hx411_2 hx411_3 hx412_0 hx412_1 hx412_2 hx412_3 hHeld ⊢
        refine pure_ (i := 0) (N := some 18) (v := ?_) (a' := ?_) #[true,false,false,false,false,false,false,false,false,false] rfl rfl (any_of HT_.out (by kernel_rfl)) (fun _ _ _ h => h) (Or.inl ⟨by rfl, ?_⟩) ?_ ?_; rotate_left; (intro w'; go_simp; with_reducible rfl); rotate_left; (simp only [Act.put, List.setIfInBounds_toArray, List.set_cons_zero, List.set_cons_succ, i64_w, i32_w]; rfl)
        refine pure_ (i := 1) (N := some 19) (v := ?_) (a' := ?_) #[true,true,false,false,false,false,false,false,false,false] rfl rfl (any_of HT_.out (by kernel_rfl)) (fun _ _ _ h => h) (Or.inl ⟨by rfl, ?_⟩) ?_ ?_; rotate_left; (intro w'; go_simp; with_reducible rfl); rotate_left; (simp only [Act.put, List.setIfInBounds_toArray, List.set_cons_zero, List.set_cons_succ, i64_w, i32_w]; rfl)
        refine pure_ (i := 2) (N := some 20) (v := ?_) (a' := ?_) #[true,true,true,false,false,false,false,false,false,false] rfl rfl (any_of HT_.out (by kernel_rfl)) (fun _ _ _ h => h) (Or.inl ⟨by rfl, ?_⟩) ?_ ?_; rotate_left; (intro w'; go_simp; with_reducible rfl); rotate_left; (simp only [Act.put, List.setIfInBounds_toArray, List.set_cons_zero, List.set_cons_succ, i64_w, i32_w]; rfl)
        refine pure_ (i := 4) (N := some 22) (v := ?_) (a' := ?_) #[true,true,true,false,true,false,false,false,false,false] rfl rfl (any_of HT_.out (by kernel_rfl)) (fun _ _ _ h => h) (Or.inl ⟨by rfl, ?_⟩) ?_ ?_; rotate_left; (intro w'; go_simp; with_reducible rfl); rotate_left; (simp only [Act.put, List.setIfInBounds_toArray, List.set_cons_zero, List.set_cons_succ, i64_w, i32_w]; rfl)
        refine pure_ (i := 5) (N := some 23) (v := ?_) (a' := ?_) #[true,true,true,false,true,true,false,false,false,false] rfl rfl (any_of HT_.out (by kernel_rfl)) (fun _ _ _ h => h) (Or.inl ⟨by rfl, ?_⟩) ?_ ?_; rotate_left; (intro w'; go_simp; with_reducible rfl); rotate_left; (simp only [Act.put, List.setIfInBounds_toArray, List.set_cons_zero, List.set_cons_succ, i64_w, i32_w]; rfl)
        refine pure_ (i := 6) (N := some 24) (v := ?_) (a' := ?_) #[true,true,true,false,true,true,true,false,false,false] rfl rfl (any_of HT_.out (by kernel_rfl)) (fun _ _ _ h => h) (Or.inl ⟨by rfl, ?_⟩) ?_ ?_; rotate_left; (intro w'; go_simp; with_reducible rfl); rotate_left; (simp only [Act.put, List.setIfInBounds_toArray, List.set_cons_zero, List.set_cons_succ, i64_w, i32_w]; rfl)
        refine take_ (i := 3) (N := some 21) (v := ?_) (a' := ?_) #[true,true,true,true,true,true,true,false,false,false] rfl rfl (take_ofW HT_.out HW_.out (by kernel_rfl)) (fun _ _ _ h => h) (Or.inl ⟨by rfl, ?_⟩) hHeld ?_ ?_
        rotate_left
        ·rintro w' ⟨s0, s1, s2, s3, s4, s5, s6, s7⟩
         go_simp
         with_reducible rfl
        rotate_left
        ·simp only [Act.put, List.setIfInBounds_toArray, List.set_cons_zero, List.set_cons_succ, i64_w, i32_w]
         rfl
        refine take_ (i := 7) (N := some 25) (v := ?_) (a' := ?_) #[true,true,true,true,true,true,true,true,false,false] rfl rfl (take_ofW HT_.out HW_.out (by kernel_rfl)) (fun _ _ _ h => h) (Or.inl ⟨by rfl, ?_⟩) hHeld ?_ ?_
        rotate_left
        ·rintro w' ⟨s0, s1, s2, s3, s4, s5, s6, s7⟩
         go_simp
         with_reducible rfl
        rotate_left
        ·simp only [Act.put, List.setIfInBounds_toArray, List.set_cons_zero, List.set_cons_succ, i64_w, i32_w]
         rfl
        refine one_ (i := 8) (N := some 26) #[true,true,true,true,true,true,true,true,true,false] rfl rfl (one_of HT_.out (by kernel_rfl)) (by decide) (fun K hK => ?_)
        refine goes_ Tryz.func27 (by kernel_rfl) rfl #[.agg #[.int .i64 ((rd_T31 l0 x5_1).f0), .int .i64 ((rd_T31 l0 x5_1).f1), .string ((rd_T31 l0 x5_1).f2), .slice A411_3 ((rd_T31 l0 x5_1).f3).length c411_3], .agg #[.int .i64 ((rd_T31 l1 x5_1).f0), .int .i64 ((rd_T31 l1 x5_1).f1), .string ((rd_T31 l1 x5_1).f2), .slice A412_3 ((rd_T31 l1 x5_1).f3).length c412_3]] (by rfl) rfl rfl (by simp only [List.map_toArray, List.map_cons, List.map_nil] <;> rfl) ?_
        with_reducible refine (glacisref05_Same.calls k1 ((rd_T31 l0 x5_1).f0) ((rd_T31 l0 x5_1).f1) ((rd_T31 l0 x5_1).f2) _ _ ((rd_T31 l0 x5_1).f3) ((rd_T31 l1 x5_1).f0) ((rd_T31 l1 x5_1).f1) ((rd_T31 l1 x5_1).f2) _ _ ((rd_T31 l1 x5_1).f3) false _ ?side1 ?side2 ?side3 ?side4 A7.out).mono ?_
        (case side1 => exact cl_ (Kd.C_below HR411_3.out HB.out))
        (case side2 => exact HC411_3.out)
        (case side3 => exact cl_ (Kd.C_below HR412_3.out HB.out))
        (case side4 => exact HC412_3.out)
        rintro e w12 ⟨rfl, hb⟩
        refine ⟨_, rfl, ?_⟩
        have n0_ := Aside0.mk (below_step (bl_ HB.out) hb)
        clear HB
        have HB := n0_
        clear n0_
        (try clear hb)
        (try clear hb2)
        (try clear hk)
        (try clear hi)
        refine hK.out _ _ ⟨(lc_ HB.out hw411_0), (lc_ HB.out hw411_1), (lc_ HB.out hw411_2), (lc_ HB.out hw411_3), (lc_ HB.out hw412_0), (lc_ HB.out hw412_1), (lc_ HB.out hw412_2), (lc_ HB.out hw412_3)⟩ (fun hHeld => ?_)
        clear hK K
        refine norm_ (a' := ?_) ?_ ?_
        rotate_left
        ·show Act.put _ (some 26) _ = _
         simp only [Act.put, List.setIfInBounds_toArray, List.set_cons_zero, List.set_cons_succ, i64_w, i32_w]
         rfl
        refine pure_ (i := 9) (N := some 6) (v := ?_) (a' := ?_) #[true,true,true,true,true,true,true,true,true,true] rfl rfl (any_of HT_.out (by kernel_rfl)) (fun _ _ _ h => h) (Or.inl ⟨by rfl, ?_⟩) ?_ ?_; rotate_left; (intro w'; go_simp; with_reducible rfl); rotate_left; (simp only [Act.put, List.setIfInBounds_toArray, List.set_cons_zero, List.set_cons_succ, i64_w, i32_w]; rfl)
        refine done_ (done_of HT_.out (by kernel_rfl)) ?_
        try go_wp2
        go_ret
        exact ⟨by first | rfl | (simp [errW_none, errW_some] <;> rfl) | (simp [*, errW_none, errW_some] <;> rfl) | (simp [q_ne_nil]; done), bl_ HB.out⟩
      ·rw [if_neg c6] at H
       exact absurd H (by simp)
     ·rw [if_neg c5] at H
      exact absurd H (by simp)
    ·rw [if_neg c4] at H
     have c4b0 : decide (x5_1 < (l0.length : Int)) = false := decide_eq_false c4
     clear c4
     obtain rfl := Option.some.inj H
     go_wp2
     go_ret
     exact ⟨by first | rfl | (simp [errW_none, errW_some] <;> rfl) | (simp [*, errW_none, errW_some] <;> rfl) | (simp [q_ne_nil]; done), bl_ HB.out⟩
 ·rw [if_neg c3] at H
  obtain ⟨c3b0, c3b1⟩ := eF_ c3
  have c3b2 : (l0.length == l1.length) = false := by first | simpa using c3 | (simp at c3 ⊢; omega)
  obtain rfl := Option.some.inj H
  go_enter Tryz.func28, Tryz.ntmps28
  go_wp2
  go_ret
  exact ⟨by first | rfl | (simp [errW_none, errW_some] <;> rfl) | (simp [*, errW_none, errW_some] <;> rfl) | (simp [q_ne_nil]; done), bl_ HB.out⟩
def okM (k : Nat) (a b : S34) : Bool :=
  decide (glacisref05_Same.f k a.f2.f0 a.f2.f1 a.f2.f2 a.f2.f3 b.f2.f0 b.f2.f1 b.f2.f2 b.f2.f3 = some true) && (decide (glacisref06_items.f k a.f3 b.f3 = some true) && (decide (glacisref05_SameParams.f k a.f4 b.f4 = some true) && (decide (a.f0 = b.f0) && decide (a.f1 = b.f1))))
/-- Two rows of members that are the same. -/
def glacisref06_Same.f (k : Nat) (l0 l1 : List S34) : Option Bool :=
  if l0.length = l1.length ∧ l0.length ≤ 1000000 ∧ ∀ i : Nat, i < l0.length → okM k (rd_T34 l0 i) (rd_T34 l1 i) = true then some true else none
set_option maxHeartbeats 8000000 in
set_option maxRecDepth 100000 in
theorem glacisref06_Same.calls (k : Nat) (A0 : Option Addr) (c0 : Nat) (l0 : List S34) (A1 : Option Addr) (c1 : Nat) (l1 : List S34) (r : Bool) (w : World) (hr0 : Kd.C k34 w A0 l0.length l0) (hc0 : l0.length ≤ c0) (hr1 : Kd.C k34 w A1 l1.length l1) (hc1 : l1.length ≤ c1) (h : glacisref06_Same.f k l0 l1 = some r) :
    Calls Tryz.prog 14 #[.slice A0 l0.length c0, .slice A1 l1.length c1] w fun e w' => e = .returned (.bool r) ∧ Below w.heap.size w w' := by
  have hu31 := Tryz.underlying31
  unfold glacisref06_Same.f at h
  have hc : l0.length = l1.length ∧ l0.length ≤ 1000000 ∧ ∀ i : Nat, i < l0.length → okM k (rd_T34 l0 i) (rd_T34 l1 i) = true := Classical.byContradiction fun hn => by rw [if_neg hn] at h; cases h
  rw [if_pos hc] at h
  obtain rfl := Option.some.inj h
  obtain ⟨hlen, hbig, hok⟩ := hc
  have HLEN := Aside0.mk hlen
  have b0 : ((l0.length : Int) != (l1.length : Int)) = false := by simp [hlen]
  have HOK := Aside0.mk hok
  have HR0 := Aside0.mk hr0
  have HR1 := Aside0.mk hr1
  clear h hok hr0 hr1 hlen
  go_enter Tryz.func14, Tryz.ntmps14
  go_wp2
  go_loopw [5, 6, 7, 8] (fun v5 v6 v7 v8 wr => ∃ n : Nat, n ≤ l0.length ∧ v5 = .int .i64 n ∧ Aside0 (Below w.heap.size w wr)) (fun v5 _ _ _ _ => l0.length - (intOf v5).toNat)
  case atStart => exact ⟨0, Nat.zero_le _, rfl, ⟨Below.refl _ _⟩⟩
  case round =>
    obtain ⟨n, hn, rfl, HB⟩ := hrel
    by_cases hlt : n < l0.length
    · have hltd : decide ((n : Int) < (l0.length : Int)) = true := decide_eq_true (by omega)
      obtain ⟨ad, A5, c5, A6, c6, A7, c7, hA, h0, h1, h2, h3, h4, h5, h6, h7, m5, g5, m6, g6, m7, g7⟩ := at_T34 HR0.out (n : Int) (by omega) (by omega)
      obtain ⟨be, B5, d5, B6, d6, B7, d7, hB, i0, i1, i2, i3, i4, i5, i6, i7, o5, e5, o6, e6, o7, e7⟩ := at_T34 HR1.out (n : Int) (by omega) (by have := HLEN.out; omega)
      subst hA hB
      simp only [Int.toNat_natCast] at h0 h1 h2 h3 h4 h5 h6 h7 i0 i1 i2 i3 i4 i5 i6 i7
      have p1 : (0 ≤ (n : Int)) = True := eq_true (by omega)
      have p2 : ((n : Int) < (l0.length : Int)) = True := eq_true (by omega)
      have p3 : ((n : Int) < (l1.length : Int)) = True := eq_true (by have := HLEN.out; omega)
      have hk := HOK.out n hlt
      unfold okM at hk
      simp only [Bool.and_eq_true, decide_eq_true_eq] at hk
      obtain ⟨s1, s2, s3, s4, s5⟩ := hk
      generalize rd_T34 l0 n = p at *
      generalize rd_T34 l1 n = q at *
      have HS4 := Aside0.mk s4
      have HS5 := Aside0.mk s5
      have C1 := Aside0.mk (fun W (hb : Below w.heap.size w W) => glacisref05_Same.calls k p.f2.f0 p.f2.f1 p.f2.f2 A5 c5 p.f2.f3 q.f2.f0 q.f2.f1 q.f2.f2 B5 d5 q.f2.f3 true W (Kd.C_below g5 hb) m5 (Kd.C_below e5 hb) o5 s1)
      have C2 := Aside0.mk (fun W (hb : Below w.heap.size w W) => glacisref06_items.calls k A6 c6 p.f3 B6 d6 q.f3 true W (Kd.C_below g6 hb) m6 (Kd.C_below e6 hb) o6 s2)
      have C3 := Aside0.mk (fun W (hb : Below w.heap.size w W) => glacisref05_SameParams.calls k A7 c7 p.f4 B7 d7 q.f4 true W (Kd.C_below g7 hb) m7 (Kd.C_below e7 hb) o7 s3)
      have K6 := Aside0.mk (fun W' (hb : Below w.heap.size w W') => (⟨pw_cell_below hb h2, pw_cell_below hb h3, pw_cell_below hb h4, pw_cell_below hb h5, pw_cell_below hb i2, pw_cell_below hb i3, pw_cell_below hb i4, pw_cell_below hb i5⟩ : _ ∧ _ ∧ _ ∧ _ ∧ _ ∧ _ ∧ _ ∧ _))
      have K7 := Aside0.mk (fun W' (hb : Below w.heap.size w W') => (⟨pw_cell_below hb h6, pw_cell_below hb i6⟩ : _ ∧ _))
      have K8 := Aside0.mk (fun W' (hb : Below w.heap.size w W') => (⟨pw_cell_below hb h7, pw_cell_below hb i7⟩ : _ ∧ _))
      have K9 := Aside0.mk (fun W' (hb : Below w.heap.size w W') => (⟨pw_cell_below hb h0, pw_cell_below hb h1, pw_cell_below hb i0, pw_cell_below hb i1⟩ : _ ∧ _ ∧ _ ∧ _))
      clear h0 h1 h2 h3 h4 h5 h6 h7 i0 i1 i2 i3 i4 i5 i6 i7 g5 g6 g7 e5 e6 e7 m5 m6 m7 o5 o6 o7 s1 s2 s3 s4 s5
      go_upto_region 6 with (fail)
      have G := Aside0.mk (fun W' (h : Below wr.heap.size wr W') => K6.out W' (below_then HB.out HB.out.size h))
      go_region_held3 (fun w' => w'.cell? ⟨(ad.add (n * 8)).block, (ad.add (n * 8)).off + 2, none⟩ = some (.int .i64 p.f2.f0) ∧ w'.cell? ⟨(ad.add (n * 8)).block, (ad.add (n * 8)).off + 3, none⟩ = some (.int .i64 p.f2.f1) ∧ w'.cell? ⟨(ad.add (n * 8)).block, (ad.add (n * 8)).off + 4, none⟩ = some (.string p.f2.f2) ∧ w'.cell? ⟨(ad.add (n * 8)).block, (ad.add (n * 8)).off + 5, none⟩ = some (.slice A5 p.f2.f3.length c5) ∧ w'.cell? ⟨(be.add (n * 8)).block, (be.add (n * 8)).off + 2, none⟩ = some (.int .i64 q.f2.f0) ∧ w'.cell? ⟨(be.add (n * 8)).block, (be.add (n * 8)).off + 3, none⟩ = some (.int .i64 q.f2.f1) ∧ w'.cell? ⟨(be.add (n * 8)).block, (be.add (n * 8)).off + 4, none⟩ = some (.string q.f2.f2) ∧ w'.cell? ⟨(be.add (n * 8)).block, (be.add (n * 8)).off + 5, none⟩ = some (.slice B5 q.f2.f3.length d5)) (first | exact G.out _ (below_drew (Below.refl _ _)) | exact G.out _ (Below.refl _ _) | exact G.out _ (by assumption)) (first | (go_at_call 27; ((with_reducible refine (C1.out _ ?_).mono ?_); (first | exact HB.out | exact below_drew1 HB.out); rintro e w3 ⟨rfl, hb3⟩; have hb4 := below_then (below_drew (Below.refl wr.heap.size wr)) (Nat.le_refl _) hb3; clear hb3)))
      have HB3 := Aside0.mk (below_then HB.out HB.out.size hb4)
      clear hb4 G HB K6 C1
      go_upto_region 7 with (fail)
      have G := Aside0.mk (fun W' (h : Below w3.heap.size w3 W') => K7.out W' (below_then HB3.out HB3.out.size h))
      go_region_held3 (fun w' => w'.cell? ⟨(ad.add (n * 8)).block, (ad.add (n * 8)).off + 6, none⟩ = some (.slice A6 p.f3.length c6) ∧ w'.cell? ⟨(be.add (n * 8)).block, (be.add (n * 8)).off + 6, none⟩ = some (.slice B6 q.f3.length d6)) (first | exact G.out _ (below_drew (Below.refl _ _)) | exact G.out _ (Below.refl _ _) | exact G.out _ (by assumption)) (first | (go_at_call 28; ((with_reducible refine (C2.out _ ?_).mono ?_); (first | exact HB3.out | exact below_drew1 HB3.out); rintro e w4 ⟨rfl, hb3⟩; have hb4 := below_then (below_drew (Below.refl w3.heap.size w3)) (Nat.le_refl _) hb3; clear hb3)))
      have HB4 := Aside0.mk (below_then HB3.out HB3.out.size hb4)
      clear hb4 G HB3 K7 C2
      go_upto_region 8 with (fail)
      have G := Aside0.mk (fun W' (h : Below w4.heap.size w4 W') => K8.out W' (below_then HB4.out HB4.out.size h))
      go_region_held3 (fun w' => w'.cell? ⟨(ad.add (n * 8)).block, (ad.add (n * 8)).off + 7, none⟩ = some (.slice A7 p.f4.length c7) ∧ w'.cell? ⟨(be.add (n * 8)).block, (be.add (n * 8)).off + 7, none⟩ = some (.slice B7 q.f4.length d7)) (first | exact G.out _ (below_drew (Below.refl _ _)) | exact G.out _ (Below.refl _ _) | exact G.out _ (by assumption)) (first | (go_at_call 29; ((with_reducible refine (C3.out _ ?_).mono ?_); (first | exact HB4.out | exact below_drew1 HB4.out); rintro e w5 ⟨rfl, hd3⟩; have hb4 : Below w4.heap.size w4 w5 := (by obtain ⟨q_, rfl⟩ := hd3; exact pw_below_drewN (below_drew (Below.refl _ _)) q_); clear hd3)))
      have HB5 := Aside0.mk (below_then HB4.out HB4.out.size hb4)
      clear hb4 G HB4 K8 C3
      go_upto_region 9 with (fail)
      obtain ⟨h0, h1, i0, i1⟩ := K9.out _ HB5.out
      rw [← HS4.out] at i0
      rw [← HS5.out] at i1
      have z4 : (p.f0.toList != p.f0.toList) = false := by simp
      have z5 : (p.f1 != p.f1) = false := by simp
      go_region
      have HB6 := Aside0.mk (below_drew1 HB5.out)
      go_wp2
      exact ⟨⟨n + 1, by omega, by go_num, HB6⟩, by simp [intOf]; omega⟩
    · obtain rfl : n = l0.length := by omega
      have hltd : decide ((l0.length : Int) < (l0.length : Int)) = false := decide_eq_false (by omega)
      go_wp2
      go_ret
      exact ⟨rfl, HB.out⟩
end Go.Proofs.YtjdbiicjfpgjkaaGreatDoor.Q
namespace Go.Proofs.YtjdbiicjfpgjkaaGreatDoor.Q
open Go.RowKit Go.Proofs.YtjdbiicjfpgjkaaGreatDoorW.PrintWords Go.Proofs.YtjdbiicjfpgjkaaGreatDoorW.PrintLast Go.Proofs.YtjdbiicjfpgjkaaGreatDoorW.PrintMore
set_option linter.unusedVariables false
set_option linter.unusedSimpArgs false
def sfield_ListText.l0 : Nat → List ByteArray → List (S34) → Int → Int → Option (ByteArray × Int)
 | 0, _, _, _, _ => none
 | k + 1, x4, x9, x10, x11 => if x11 < x10 then (if 0 ≤ x11 then (if x11 < (x9.length : Int) then ((sfield_text.f k ((rd_T34 x9 x11).f0) ((rd_T34 x9 x11).f1) ((rd_T34 x9 x11).f2.f0) ((rd_T34 x9 x11).f2.f1) ((rd_T34 x9 x11).f2.f2) ((rd_T34 x9 x11).f2.f3) ((rd_T34 x9 x11).f3) ((rd_T34 x9 x11).f4)).bind fun bt516 => (if bt516.2 = 0 then (if ((rd_T34 x9 x11).f0).toList = ([] : List UInt8) then (if x4.length < 8796093022208 then (sfield_ListText.l0 k (x4 ++ [bt516.1]) x9 x10 (wrap64 (x11 + 1))) else (none)) else (some ((⟨#[]⟩ : ByteArray), 50))) else (some ((⟨#[]⟩ : ByteArray), 50)))) else (none)) else (none)) else ((strings_Join.f x4 (⟨#[44, 32]⟩ : ByteArray)).bind fun t521 => (some (t521, 0)))
def sfield_ListText.f (k : Nat) (l0 : List (S34)) : Option (ByteArray × Int) := sfield_ListText.l0 k ([] : List ByteArray) l0 (l0.length : Int) 0
set_option maxHeartbeats 8000000 in
set_option maxRecDepth 100000 in
theorem sfield_ListText.calls (k : Nat) (A0 : Option Addr) (c0 : Nat) (l0 : List (S34)) (r1 : ByteArray) (r2 : Int) (w : World) (hT_ : Aside0 (TabW w)) (hr0 : Kd.C k34 w A0 l0.length l0) (hc0 : l0.length ≤ c0) (h : sfield_ListText.f k l0 = some (r1, r2)) :
  Calls Tryz.prog 17 #[.slice A0 l0.length c0] w fun e w' => e = .returned (.tuple #[.string r1, .int .i64 r2]) ∧ Below w.heap.size w w' := by
 have hu34 := Tryz.underlying34
 have HR0 := Aside0.mk hr0
 have HC0 := Aside0.mk hc0
 clear hr0 hc0
 have HB := Aside0.mk (Below.refl w.heap.size w)
 have H : (sfield_ListText.l0 k ([] : List ByteArray) l0 (l0.length : Int) 0) = some (r1, r2) := h
 clear h
 have H' := Aside0.mk H
 clear H
 go_enter Tryz.func17, Tryz.ntmps17
 go_wp2
 go_loopg [4, 11] k (fun kq v4 v11 w' => ∃ (x4_1 : List ByteArray) (x11_1 : Int), v11 = .int .i64 x11_1 ∧ Aside0 (sfield_ListText.l0 kq x4_1 l0 (l0.length : Int) x11_1 = some (r1, r2)) ∧ Aside0 (kq ≤ k) ∧ Aside0 (Kd.R Kd.string 9 w' w.heap.size (fun _ => True) v4 x4_1) ∧ Aside0 (Below w.heap.size w w'))
 case atStart => exact ⟨(([] : List ByteArray)), (0), (by first | rfl | simp [*]), H', ⟨Nat.le_refl _⟩, ⟨by first | exact Kd.R_nil _ _ _ _ _ | exact Kd.S_nil _ _ _ _ _⟩, ⟨bl_ HB.out⟩⟩
 case round =>
  clear H'
  try clear c1
  obtain ⟨x4_1, x11_1, rfl, HA, HK1, HO_4, HB⟩ := hrel
  cases gk with
  | zero => exact absurd HA.out (by simp [sfield_ListText.l0])
  | succ k1 =>
   have H := HA.out
   clear HA
   simp only [sfield_ListText.l0] at H
   by_cases c2 : x11_1 < (l0.length : Int)
   ·rw [if_pos c2] at H
    have c2b0 : decide (x11_1 < (l0.length : Int)) = true := decide_eq_true c2
    clear c2
    by_cases c3 : 0 ≤ x11_1
    ·rw [if_pos c3] at H
     have c3b0 : decide (0 ≤ x11_1) = true := decide_eq_true c3
     clear c3
     by_cases c4 : x11_1 < (l0.length : Int)
     ·rw [if_pos c4] at H
      have c4b0 : decide (x11_1 < (l0.length : Int)) = true := decide_eq_true c4
      clear c4
      replace H := Option.bind_eq_some_iff.mp H
      obtain ⟨⟨t516, t517⟩, A50, H⟩ := H
      (try dsimp only at H)
      have A5 := Aside0.mk A50
      clear A50
      by_cases c6 : t517 = 0
      ·rw [if_pos c6] at H
       obtain ⟨c6b0, c6b1⟩ := eT_ c6
       clear c6
       by_cases c7 : ((rd_T34 l0 x11_1).f0).toList = ([] : List UInt8)
       ·rw [if_pos c7] at H
        obtain ⟨c7b0, c7b1⟩ := eT_ c7
        clear c7
        by_cases c8 : x4_1.length < 8796093022208
        ·rw [if_pos c8] at H
         have LMc8 := Aside0.mk c8
         clear c8
         obtain ⟨y518, hy518⟩ : ∃ y_ : List ByteArray, y_ = (x4_1 ++ [t516]) := ⟨_, rfl⟩
         replace H : (sfield_ListText.l0 k1 y518 l0 (l0.length : Int) (wrap64 (x11_1 + 1))) = some (r1, r2) := by first | (rw [hy518]; with_reducible exact H) | (have H2_ := (Option.bind_some _ _).symm.trans H; rw [hy518]; with_reducible exact H2_) | (have H2_ := (Option.bind_some _ _).symm.trans H; with_reducible exact H2_) | with_reducible exact H | (rw [hy518]; exact H) | exact H
         have Ny518 := Aside0.mk hy518
         clear hy518
         have H' := Aside0.mk H
         clear H
         have p514 : 0 ≤ (x11_1 : Int) := of_decide_eq_true (by assumption)
         have q514 : x11_1 < (l0.length : Int) := of_decide_eq_true (by assumption)
         obtain ⟨ad514, A514_5, c514_5, A514_6, c514_6, A514_7, c514_7, e514, hx514_0, hx514_1, hx514_2, hx514_3, hx514_4, hx514_5, hx514_6, hx514_7, hl514_5, hi514_5, hl514_6, hi514_6, hl514_7, hi514_7⟩ := at_T34 HR0.out x11_1 p514 q514
         cases e514
         replace hx514_0 := lb_ HB.out hx514_0
         replace hx514_1 := lb_ HB.out hx514_1
         replace hx514_2 := lb_ HB.out hx514_2
         replace hx514_3 := lb_ HB.out hx514_3
         replace hx514_4 := lb_ HB.out hx514_4
         replace hx514_5 := lb_ HB.out hx514_5
         replace hx514_6 := lb_ HB.out hx514_6
         replace hx514_7 := lb_ HB.out hx514_7
         have HR514_5 := Aside0.mk hi514_5
         have HC514_5 := Aside0.mk hl514_5
         clear hi514_5 hl514_5
         have HR514_6 := Aside0.mk hi514_6
         have HC514_6 := Aside0.mk hl514_6
         clear hi514_6 hl514_6
         have HR514_7 := Aside0.mk hi514_7
         have HC514_7 := Aside0.mk hl514_7
         clear hi514_7 hl514_7
         replace p514 := eq_true p514
         replace q514 := eq_true q514
         go_wp2_with (first | ((with_reducible refine gate_dst (N := 6) rfl ?_); refine box_event ?hg (N := 6) ?hd (cs := #[.string ⟨#[]⟩, .bool false, .int .i64 0, .int .i64 0, .string ⟨#[]⟩, .slice none 0 0, .slice none 0 0, .slice none 0 0]) (t := 34) ?hr ?_; (case hd => rfl); (case hg => rfl); (case hr => first | (go_simp; done) | (go_simp; rfl)); intro gb515 hg w9 hbox hb; have n0_ := Aside0.mk (Kd.R_below (rl_ HO_4.out) hb); have n1_ := Aside0.mk (below_step (bl_ HB.out) hb); have n2_ := Aside0.mk (hbox); have n3_ := Aside0.mk ((hg_ hg (bl_ HB.out))); have n4_ := Aside0.mk ((hg_ hg (bl_ HB.out))); clear HO_4; clear HB; have HO_4 := n0_; have HB := n1_; have BK515 := n2_; have GW515 := n3_; have GE515 := n4_; clear n0_ n1_ n2_ n3_ n4_; clear hb hbox hg; obtain ⟨hcz10_0, hcz10_1, hcz10_2, hcz10_3, hcz10_4, hcz10_5, hcz10_6, hcz10_7⟩ := c8_ BK515.out; obtain ⟨hfz10_0, hfz10_1, hfz10_2, hfz10_3, hfz10_4, hfz10_5, hfz10_6, hfz10_7⟩ := f8_ BK515.out) | ((with_reducible refine gate_callee (f := 32) rfl ?_); refine goesL_ (some 17) rfl rfl Tryz.func32 (by kernel_rfl) rfl #[.agg #[.string ((rd_T34 l0 x11_1).f0), .bool ((rd_T34 l0 x11_1).f1), .int .i64 ((rd_T34 l0 x11_1).f2.f0), .int .i64 ((rd_T34 l0 x11_1).f2.f1), .string ((rd_T34 l0 x11_1).f2.f2), .slice A514_5 ((rd_T34 l0 x11_1).f2.f3).length c514_5, .slice A514_6 ((rd_T34 l0 x11_1).f3).length c514_6, .slice A514_7 ((rd_T34 l0 x11_1).f4).length c514_7]] rfl (by simp only [List.map_toArray, List.map_cons, List.map_nil] <;> rfl) ?_; (with_reducible refine (sfield_text.calls k1 ((rd_T34 l0 x11_1).f0) ((rd_T34 l0 x11_1).f1) ((rd_T34 l0 x11_1).f2.f0) ((rd_T34 l0 x11_1).f2.f1) ((rd_T34 l0 x11_1).f2.f2) _ _ ((rd_T34 l0 x11_1).f2.f3) _ _ ((rd_T34 l0 x11_1).f3) _ _ ((rd_T34 l0 x11_1).f4) t516 t517 _ (tab_ hT_ ?hTab) ?side1 ?side2 ?side3 ?side4 ?side5 ?side6 A5.out).mono ?_); (case hTab => exact (by repeat (first | (with_reducible first | exact HB.out | apply below_alloc | apply pw_below_drewN | apply below_drew1 | refine below_set ?_ GE515.out) | exact HB.out))); (case side1 => exact Kd.C_below HR514_5.out (by repeat (first | (with_reducible first | exact HB.out | apply below_alloc | apply pw_below_drewN | apply below_drew1 | refine below_set ?_ GE515.out) | exact HB.out))); (case side2 => exact HC514_5.out); (case side3 => exact Kd.C_below HR514_6.out (by repeat (first | (with_reducible first | exact HB.out | apply below_alloc | apply pw_below_drewN | apply below_drew1 | refine below_set ?_ GE515.out) | exact HB.out))); (case side4 => exact HC514_6.out); (case side5 => exact Kd.C_below HR514_7.out (by repeat (first | (with_reducible first | exact HB.out | apply below_alloc | apply pw_below_drewN | apply below_drew1 | refine below_set ?_ GE515.out) | exact HB.out))); (case side6 => exact HC514_7.out); rintro e w11 ⟨rfl, hb⟩; refine ⟨_, rfl, ?_⟩; have n0_ := Aside0.mk (Kd.R_below (by (with_reducible repeat (first | apply Kd.R_alloc | apply Kd.R_drewN | apply Kd.R_drew)); exact (Kd.R_mono (Kd.R_far (p := ⟨gb515, 7, none⟩) (Kd.R_far (p := ⟨gb515, 6, none⟩) (Kd.R_far (p := ⟨gb515, 5, none⟩) (Kd.R_far (p := ⟨gb515, 4, none⟩) (Kd.R_far (p := ⟨gb515, 3, none⟩) (Kd.R_far (p := ⟨gb515, 2, none⟩) (Kd.R_far (p := ⟨gb515, 1, none⟩) (Kd.R_far (p := ⟨gb515, 0, none⟩) (Kd.R_types HO_4.out BK515.out (by decide)) (fun _ hk => hk.2) (.string ((rd_T34 l0 x11_1).f0))) (fun _ hk => hk.2) (.bool ((rd_T34 l0 x11_1).f1))) (fun _ hk => hk.2) (.int .i64 ((rd_T34 l0 x11_1).f2.f0))) (fun _ hk => hk.2) (.int .i64 ((rd_T34 l0 x11_1).f2.f1))) (fun _ hk => hk.2) (.string ((rd_T34 l0 x11_1).f2.f2))) (fun _ hk => hk.2) (.slice A514_5 ((rd_T34 l0 x11_1).f2.f3).length c514_5)) (fun _ hk => hk.2) (.slice A514_6 ((rd_T34 l0 x11_1).f3).length c514_6)) (fun _ hk => hk.2) (.slice A514_7 ((rd_T34 l0 x11_1).f4).length c514_7)) (fun _ h_ => h_.1))) hb); have n1_ := Aside0.mk (blk_below (g := gb515) (o := .cells #[.string ((rd_T34 l0 x11_1).f0), .bool ((rd_T34 l0 x11_1).f1), .int .i64 ((rd_T34 l0 x11_1).f2.f0), .int .i64 ((rd_T34 l0 x11_1).f2.f1), .string ((rd_T34 l0 x11_1).f2.f2), .slice A514_5 ((rd_T34 l0 x11_1).f2.f3).length c514_5, .slice A514_6 ((rd_T34 l0 x11_1).f3).length c514_6, .slice A514_7 ((rd_T34 l0 x11_1).f4).length c514_7] 34 (0, 0)) (by (repeat refine kq_ ?_); refine blk_put (cs := #[.string ((rd_T34 l0 x11_1).f0), .bool ((rd_T34 l0 x11_1).f1), .int .i64 ((rd_T34 l0 x11_1).f2.f0), .int .i64 ((rd_T34 l0 x11_1).f2.f1), .string ((rd_T34 l0 x11_1).f2.f2), .slice A514_5 ((rd_T34 l0 x11_1).f2.f3).length c514_5, .slice A514_6 ((rd_T34 l0 x11_1).f3).length c514_6, .slice none 0 0]) ?_ 7 _ rfl; (repeat refine kq_ ?_); refine blk_put (cs := #[.string ((rd_T34 l0 x11_1).f0), .bool ((rd_T34 l0 x11_1).f1), .int .i64 ((rd_T34 l0 x11_1).f2.f0), .int .i64 ((rd_T34 l0 x11_1).f2.f1), .string ((rd_T34 l0 x11_1).f2.f2), .slice A514_5 ((rd_T34 l0 x11_1).f2.f3).length c514_5, .slice none 0 0, .slice none 0 0]) ?_ 6 _ rfl; (repeat refine kq_ ?_); refine blk_put (cs := #[.string ((rd_T34 l0 x11_1).f0), .bool ((rd_T34 l0 x11_1).f1), .int .i64 ((rd_T34 l0 x11_1).f2.f0), .int .i64 ((rd_T34 l0 x11_1).f2.f1), .string ((rd_T34 l0 x11_1).f2.f2), .slice none 0 0, .slice none 0 0, .slice none 0 0]) ?_ 5 _ rfl; (repeat refine kq_ ?_); refine blk_put (cs := #[.string ((rd_T34 l0 x11_1).f0), .bool ((rd_T34 l0 x11_1).f1), .int .i64 ((rd_T34 l0 x11_1).f2.f0), .int .i64 ((rd_T34 l0 x11_1).f2.f1), .string ⟨#[]⟩, .slice none 0 0, .slice none 0 0, .slice none 0 0]) ?_ 4 _ rfl; (repeat refine kq_ ?_); refine blk_put (cs := #[.string ((rd_T34 l0 x11_1).f0), .bool ((rd_T34 l0 x11_1).f1), .int .i64 ((rd_T34 l0 x11_1).f2.f0), .int .i64 0, .string ⟨#[]⟩, .slice none 0 0, .slice none 0 0, .slice none 0 0]) ?_ 3 _ rfl; (repeat refine kq_ ?_); refine blk_put (cs := #[.string ((rd_T34 l0 x11_1).f0), .bool ((rd_T34 l0 x11_1).f1), .int .i64 0, .int .i64 0, .string ⟨#[]⟩, .slice none 0 0, .slice none 0 0, .slice none 0 0]) ?_ 2 _ rfl; (repeat refine kq_ ?_); refine blk_put (cs := #[.string ((rd_T34 l0 x11_1).f0), .bool false, .int .i64 0, .int .i64 0, .string ⟨#[]⟩, .slice none 0 0, .slice none 0 0, .slice none 0 0]) ?_ 1 _ rfl; (repeat refine kq_ ?_); refine blk_put (cs := #[.string ⟨#[]⟩, .bool false, .int .i64 0, .int .i64 0, .string ⟨#[]⟩, .slice none 0 0, .slice none 0 0, .slice none 0 0]) ?_ 0 _ rfl; (repeat refine kq_ ?_); exact BK515.out) hb); have n2_ := Aside0.mk (below_step (by repeat (first | (with_reducible first | exact HB.out | apply below_alloc | apply pw_below_drewN | apply below_drew1 | refine below_set ?_ GE515.out) | exact HB.out)) hb); clear HO_4; clear BK515; clear HB; have HO_4 := n0_; have BK515 := n1_; have HB := n2_; clear n0_ n1_ n2_; (try clear hb); (try clear hb2); (try clear hk); (try clear hi); obtain ⟨hcz12_0, hcz12_1, hcz12_2, hcz12_3, hcz12_4, hcz12_5, hcz12_6, hcz12_7⟩ := c8_ BK515.out; obtain ⟨hfz12_0, hfz12_1, hfz12_2, hfz12_3, hfz12_4, hfz12_5, hfz12_6, hfz12_7⟩ := f8_ BK515.out) | ((with_reducible refine gate_builtin (b := .append) (xs := #[.tmp 27, .tmp 29]) rfl ?_); at_builtin; refine Kd.R_append Kd.string (w0 := w) w.heap.size rfl (.tmp 27) (.tmp 29) 61 9 (.string ⟨#[]⟩) 16 rfl Tryz.underlying61 info9 rfl (by decide) (by omega) u4 x4_1 t516 [.string t516] (fun _ => True) (fun _ => False) rfl rfl ?aP (fun _ hk => hk.elim) ?aF ?aO ?aB ?aS ?aL ?_; (case aP => exact rfl); (case aB => exact (by repeat (first | (with_reducible first | exact HB.out | apply below_alloc | apply pw_below_drewN | apply below_drew1 | refine below_set ?_ GE515.out) | exact HB.out))); (case aF => exact (fun _ _ => trivial)); (case aO => exact (rl_ HO_4.out)); (case aS => exact (below_size (by repeat (first | (with_reducible first | exact HB.out | apply below_alloc | apply pw_below_drewN | apply below_drew1 | refine below_set ?_ GE515.out) | exact HB.out)))); (case aL => have := LMc8.out; omega); intro v519 w13 ho hb hg hat; rw [← Ny518.out] at ho; have n0_ := Aside0.mk (blk_grown (kl_ BK515.out) hg (Kd.R_ne HO_4.out BK515.out (by decide))); have n1_ := Aside0.mk (hb); have n2_ := Aside0.mk (ho); clear BK515; clear HB; clear HO_4; have BK515 := n0_; have HB := n1_; have HO520 := n2_; clear n0_ n1_ n2_; clear ho hb hg hat))
         go_roundg k1
         case measure => have := HK1.out; omega
         case rel => exact ⟨(y518), (wrap64 (x11_1 + 1)), (by first | rfl | simp [*]), H', ⟨by have := HK1.out; omega⟩, ⟨rl_ HO520.out⟩, ⟨by repeat (first | (with_reducible first | exact HB.out | apply below_alloc | apply pw_below_drewN | apply below_drew1 | refine below_set ?_ GE515.out) | exact HB.out)⟩⟩
        ·rw [if_neg c8] at H
         exact absurd H (by simp)
       ·rw [if_neg c7] at H
        obtain ⟨c7b0, c7b1⟩ := eF_ c7
        simp only [Option.some.injEq, Prod.mk.injEq] at H
        obtain ⟨rfl, rfl⟩ := H
        have p514 : 0 ≤ (x11_1 : Int) := of_decide_eq_true (by assumption)
        have q514 : x11_1 < (l0.length : Int) := of_decide_eq_true (by assumption)
        obtain ⟨ad514, A514_5, c514_5, A514_6, c514_6, A514_7, c514_7, e514, hx514_0, hx514_1, hx514_2, hx514_3, hx514_4, hx514_5, hx514_6, hx514_7, hl514_5, hi514_5, hl514_6, hi514_6, hl514_7, hi514_7⟩ := at_T34 HR0.out x11_1 p514 q514
        cases e514
        replace hx514_0 := lb_ HB.out hx514_0
        replace hx514_1 := lb_ HB.out hx514_1
        replace hx514_2 := lb_ HB.out hx514_2
        replace hx514_3 := lb_ HB.out hx514_3
        replace hx514_4 := lb_ HB.out hx514_4
        replace hx514_5 := lb_ HB.out hx514_5
        replace hx514_6 := lb_ HB.out hx514_6
        replace hx514_7 := lb_ HB.out hx514_7
        have HR514_5 := Aside0.mk hi514_5
        have HC514_5 := Aside0.mk hl514_5
        clear hi514_5 hl514_5
        have HR514_6 := Aside0.mk hi514_6
        have HC514_6 := Aside0.mk hl514_6
        clear hi514_6 hl514_6
        have HR514_7 := Aside0.mk hi514_7
        have HC514_7 := Aside0.mk hl514_7
        clear hi514_7 hl514_7
        replace p514 := eq_true p514
        replace q514 := eq_true q514
        go_wp2_with (first | ((with_reducible refine gate_dst (N := 6) rfl ?_); refine box_event ?hg (N := 6) ?hd (cs := #[.string ⟨#[]⟩, .bool false, .int .i64 0, .int .i64 0, .string ⟨#[]⟩, .slice none 0 0, .slice none 0 0, .slice none 0 0]) (t := 34) ?hr ?_; (case hd => rfl); (case hg => rfl); (case hr => first | (go_simp; done) | (go_simp; rfl)); intro gb515 hg w14 hbox hb; have n0_ := Aside0.mk (Kd.R_below (rl_ HO_4.out) hb); have n1_ := Aside0.mk (below_step (bl_ HB.out) hb); have n2_ := Aside0.mk (hbox); have n3_ := Aside0.mk ((hg_ hg (bl_ HB.out))); have n4_ := Aside0.mk ((hg_ hg (bl_ HB.out))); clear HO_4; clear HB; have HO_4 := n0_; have HB := n1_; have BK515 := n2_; have GW515 := n3_; have GE515 := n4_; clear n0_ n1_ n2_ n3_ n4_; clear hb hbox hg; obtain ⟨hcz15_0, hcz15_1, hcz15_2, hcz15_3, hcz15_4, hcz15_5, hcz15_6, hcz15_7⟩ := c8_ BK515.out; obtain ⟨hfz15_0, hfz15_1, hfz15_2, hfz15_3, hfz15_4, hfz15_5, hfz15_6, hfz15_7⟩ := f8_ BK515.out) | ((with_reducible refine gate_callee (f := 32) rfl ?_); refine goesL_ (some 17) rfl rfl Tryz.func32 (by kernel_rfl) rfl #[.agg #[.string ((rd_T34 l0 x11_1).f0), .bool ((rd_T34 l0 x11_1).f1), .int .i64 ((rd_T34 l0 x11_1).f2.f0), .int .i64 ((rd_T34 l0 x11_1).f2.f1), .string ((rd_T34 l0 x11_1).f2.f2), .slice A514_5 ((rd_T34 l0 x11_1).f2.f3).length c514_5, .slice A514_6 ((rd_T34 l0 x11_1).f3).length c514_6, .slice A514_7 ((rd_T34 l0 x11_1).f4).length c514_7]] rfl (by simp only [List.map_toArray, List.map_cons, List.map_nil] <;> rfl) ?_; (with_reducible refine (sfield_text.calls k1 ((rd_T34 l0 x11_1).f0) ((rd_T34 l0 x11_1).f1) ((rd_T34 l0 x11_1).f2.f0) ((rd_T34 l0 x11_1).f2.f1) ((rd_T34 l0 x11_1).f2.f2) _ _ ((rd_T34 l0 x11_1).f2.f3) _ _ ((rd_T34 l0 x11_1).f3) _ _ ((rd_T34 l0 x11_1).f4) t516 t517 _ (tab_ hT_ ?hTab) ?side1 ?side2 ?side3 ?side4 ?side5 ?side6 A5.out).mono ?_); (case hTab => exact (by repeat (first | (with_reducible first | exact HB.out | apply below_alloc | apply pw_below_drewN | apply below_drew1 | refine below_set ?_ GE515.out) | exact HB.out))); (case side1 => exact Kd.C_below HR514_5.out (by repeat (first | (with_reducible first | exact HB.out | apply below_alloc | apply pw_below_drewN | apply below_drew1 | refine below_set ?_ GE515.out) | exact HB.out))); (case side2 => exact HC514_5.out); (case side3 => exact Kd.C_below HR514_6.out (by repeat (first | (with_reducible first | exact HB.out | apply below_alloc | apply pw_below_drewN | apply below_drew1 | refine below_set ?_ GE515.out) | exact HB.out))); (case side4 => exact HC514_6.out); (case side5 => exact Kd.C_below HR514_7.out (by repeat (first | (with_reducible first | exact HB.out | apply below_alloc | apply pw_below_drewN | apply below_drew1 | refine below_set ?_ GE515.out) | exact HB.out))); (case side6 => exact HC514_7.out); rintro e w16 ⟨rfl, hb⟩; refine ⟨_, rfl, ?_⟩; have n0_ := Aside0.mk (Kd.R_below (by (with_reducible repeat (first | apply Kd.R_alloc | apply Kd.R_drewN | apply Kd.R_drew)); exact (Kd.R_mono (Kd.R_far (p := ⟨gb515, 7, none⟩) (Kd.R_far (p := ⟨gb515, 6, none⟩) (Kd.R_far (p := ⟨gb515, 5, none⟩) (Kd.R_far (p := ⟨gb515, 4, none⟩) (Kd.R_far (p := ⟨gb515, 3, none⟩) (Kd.R_far (p := ⟨gb515, 2, none⟩) (Kd.R_far (p := ⟨gb515, 1, none⟩) (Kd.R_far (p := ⟨gb515, 0, none⟩) (Kd.R_types HO_4.out BK515.out (by decide)) (fun _ hk => hk.2) (.string ((rd_T34 l0 x11_1).f0))) (fun _ hk => hk.2) (.bool ((rd_T34 l0 x11_1).f1))) (fun _ hk => hk.2) (.int .i64 ((rd_T34 l0 x11_1).f2.f0))) (fun _ hk => hk.2) (.int .i64 ((rd_T34 l0 x11_1).f2.f1))) (fun _ hk => hk.2) (.string ((rd_T34 l0 x11_1).f2.f2))) (fun _ hk => hk.2) (.slice A514_5 ((rd_T34 l0 x11_1).f2.f3).length c514_5)) (fun _ hk => hk.2) (.slice A514_6 ((rd_T34 l0 x11_1).f3).length c514_6)) (fun _ hk => hk.2) (.slice A514_7 ((rd_T34 l0 x11_1).f4).length c514_7)) (fun _ h_ => h_.1))) hb); have n1_ := Aside0.mk (blk_below (g := gb515) (o := .cells #[.string ((rd_T34 l0 x11_1).f0), .bool ((rd_T34 l0 x11_1).f1), .int .i64 ((rd_T34 l0 x11_1).f2.f0), .int .i64 ((rd_T34 l0 x11_1).f2.f1), .string ((rd_T34 l0 x11_1).f2.f2), .slice A514_5 ((rd_T34 l0 x11_1).f2.f3).length c514_5, .slice A514_6 ((rd_T34 l0 x11_1).f3).length c514_6, .slice A514_7 ((rd_T34 l0 x11_1).f4).length c514_7] 34 (0, 0)) (by (repeat refine kq_ ?_); refine blk_put (cs := #[.string ((rd_T34 l0 x11_1).f0), .bool ((rd_T34 l0 x11_1).f1), .int .i64 ((rd_T34 l0 x11_1).f2.f0), .int .i64 ((rd_T34 l0 x11_1).f2.f1), .string ((rd_T34 l0 x11_1).f2.f2), .slice A514_5 ((rd_T34 l0 x11_1).f2.f3).length c514_5, .slice A514_6 ((rd_T34 l0 x11_1).f3).length c514_6, .slice none 0 0]) ?_ 7 _ rfl; (repeat refine kq_ ?_); refine blk_put (cs := #[.string ((rd_T34 l0 x11_1).f0), .bool ((rd_T34 l0 x11_1).f1), .int .i64 ((rd_T34 l0 x11_1).f2.f0), .int .i64 ((rd_T34 l0 x11_1).f2.f1), .string ((rd_T34 l0 x11_1).f2.f2), .slice A514_5 ((rd_T34 l0 x11_1).f2.f3).length c514_5, .slice none 0 0, .slice none 0 0]) ?_ 6 _ rfl; (repeat refine kq_ ?_); refine blk_put (cs := #[.string ((rd_T34 l0 x11_1).f0), .bool ((rd_T34 l0 x11_1).f1), .int .i64 ((rd_T34 l0 x11_1).f2.f0), .int .i64 ((rd_T34 l0 x11_1).f2.f1), .string ((rd_T34 l0 x11_1).f2.f2), .slice none 0 0, .slice none 0 0, .slice none 0 0]) ?_ 5 _ rfl; (repeat refine kq_ ?_); refine blk_put (cs := #[.string ((rd_T34 l0 x11_1).f0), .bool ((rd_T34 l0 x11_1).f1), .int .i64 ((rd_T34 l0 x11_1).f2.f0), .int .i64 ((rd_T34 l0 x11_1).f2.f1), .string ⟨#[]⟩, .slice none 0 0, .slice none 0 0, .slice none 0 0]) ?_ 4 _ rfl; (repeat refine kq_ ?_); refine blk_put (cs := #[.string ((rd_T34 l0 x11_1).f0), .bool ((rd_T34 l0 x11_1).f1), .int .i64 ((rd_T34 l0 x11_1).f2.f0), .int .i64 0, .string ⟨#[]⟩, .slice none 0 0, .slice none 0 0, .slice none 0 0]) ?_ 3 _ rfl; (repeat refine kq_ ?_); refine blk_put (cs := #[.string ((rd_T34 l0 x11_1).f0), .bool ((rd_T34 l0 x11_1).f1), .int .i64 0, .int .i64 0, .string ⟨#[]⟩, .slice none 0 0, .slice none 0 0, .slice none 0 0]) ?_ 2 _ rfl; (repeat refine kq_ ?_); refine blk_put (cs := #[.string ((rd_T34 l0 x11_1).f0), .bool false, .int .i64 0, .int .i64 0, .string ⟨#[]⟩, .slice none 0 0, .slice none 0 0, .slice none 0 0]) ?_ 1 _ rfl; (repeat refine kq_ ?_); refine blk_put (cs := #[.string ⟨#[]⟩, .bool false, .int .i64 0, .int .i64 0, .string ⟨#[]⟩, .slice none 0 0, .slice none 0 0, .slice none 0 0]) ?_ 0 _ rfl; (repeat refine kq_ ?_); exact BK515.out) hb); have n2_ := Aside0.mk (below_step (by repeat (first | (with_reducible first | exact HB.out | apply below_alloc | apply pw_below_drewN | apply below_drew1 | refine below_set ?_ GE515.out) | exact HB.out)) hb); clear HO_4; clear BK515; clear HB; have HO_4 := n0_; have BK515 := n1_; have HB := n2_; clear n0_ n1_ n2_; (try clear hb); (try clear hb2); (try clear hk); (try clear hi); obtain ⟨hcz17_0, hcz17_1, hcz17_2, hcz17_3, hcz17_4, hcz17_5, hcz17_6, hcz17_7⟩ := c8_ BK515.out; obtain ⟨hfz17_0, hfz17_1, hfz17_2, hfz17_3, hfz17_4, hfz17_5, hfz17_6, hfz17_7⟩ := f8_ BK515.out))
        go_ret2
        exact ⟨by first | rfl | (simp [errW_none, errW_some] <;> rfl) | (simp [*, errW_none, errW_some] <;> rfl) | (simp [q_ne_nil]; done), by repeat (first | (with_reducible first | exact HB.out | apply below_alloc | apply pw_below_drewN | apply below_drew1 | refine below_set ?_ GE515.out) | exact HB.out)⟩
      ·rw [if_neg c6] at H
       obtain ⟨c6b0, c6b1⟩ := eF_ c6
       simp only [Option.some.injEq, Prod.mk.injEq] at H
       obtain ⟨rfl, rfl⟩ := H
       have p514 : 0 ≤ (x11_1 : Int) := of_decide_eq_true (by assumption)
       have q514 : x11_1 < (l0.length : Int) := of_decide_eq_true (by assumption)
       obtain ⟨ad514, A514_5, c514_5, A514_6, c514_6, A514_7, c514_7, e514, hx514_0, hx514_1, hx514_2, hx514_3, hx514_4, hx514_5, hx514_6, hx514_7, hl514_5, hi514_5, hl514_6, hi514_6, hl514_7, hi514_7⟩ := at_T34 HR0.out x11_1 p514 q514
       cases e514
       replace hx514_0 := lb_ HB.out hx514_0
       replace hx514_1 := lb_ HB.out hx514_1
       replace hx514_2 := lb_ HB.out hx514_2
       replace hx514_3 := lb_ HB.out hx514_3
       replace hx514_4 := lb_ HB.out hx514_4
       replace hx514_5 := lb_ HB.out hx514_5
       replace hx514_6 := lb_ HB.out hx514_6
       replace hx514_7 := lb_ HB.out hx514_7
       have HR514_5 := Aside0.mk hi514_5
       have HC514_5 := Aside0.mk hl514_5
       clear hi514_5 hl514_5
       have HR514_6 := Aside0.mk hi514_6
       have HC514_6 := Aside0.mk hl514_6
       clear hi514_6 hl514_6
       have HR514_7 := Aside0.mk hi514_7
       have HC514_7 := Aside0.mk hl514_7
       clear hi514_7 hl514_7
       replace p514 := eq_true p514
       replace q514 := eq_true q514
       go_wp2_with (first | ((with_reducible refine gate_dst (N := 6) rfl ?_); refine box_event ?hg (N := 6) ?hd (cs := #[.string ⟨#[]⟩, .bool false, .int .i64 0, .int .i64 0, .string ⟨#[]⟩, .slice none 0 0, .slice none 0 0, .slice none 0 0]) (t := 34) ?hr ?_; (case hd => rfl); (case hg => rfl); (case hr => first | (go_simp; done) | (go_simp; rfl)); intro gb515 hg w18 hbox hb; have n0_ := Aside0.mk (Kd.R_below (rl_ HO_4.out) hb); have n1_ := Aside0.mk (below_step (bl_ HB.out) hb); have n2_ := Aside0.mk (hbox); have n3_ := Aside0.mk ((hg_ hg (bl_ HB.out))); have n4_ := Aside0.mk ((hg_ hg (bl_ HB.out))); clear HO_4; clear HB; have HO_4 := n0_; have HB := n1_; have BK515 := n2_; have GW515 := n3_; have GE515 := n4_; clear n0_ n1_ n2_ n3_ n4_; clear hb hbox hg; obtain ⟨hcz19_0, hcz19_1, hcz19_2, hcz19_3, hcz19_4, hcz19_5, hcz19_6, hcz19_7⟩ := c8_ BK515.out; obtain ⟨hfz19_0, hfz19_1, hfz19_2, hfz19_3, hfz19_4, hfz19_5, hfz19_6, hfz19_7⟩ := f8_ BK515.out) | ((with_reducible refine gate_callee (f := 32) rfl ?_); refine goesL_ (some 17) rfl rfl Tryz.func32 (by kernel_rfl) rfl #[.agg #[.string ((rd_T34 l0 x11_1).f0), .bool ((rd_T34 l0 x11_1).f1), .int .i64 ((rd_T34 l0 x11_1).f2.f0), .int .i64 ((rd_T34 l0 x11_1).f2.f1), .string ((rd_T34 l0 x11_1).f2.f2), .slice A514_5 ((rd_T34 l0 x11_1).f2.f3).length c514_5, .slice A514_6 ((rd_T34 l0 x11_1).f3).length c514_6, .slice A514_7 ((rd_T34 l0 x11_1).f4).length c514_7]] rfl (by simp only [List.map_toArray, List.map_cons, List.map_nil] <;> rfl) ?_; (with_reducible refine (sfield_text.calls k1 ((rd_T34 l0 x11_1).f0) ((rd_T34 l0 x11_1).f1) ((rd_T34 l0 x11_1).f2.f0) ((rd_T34 l0 x11_1).f2.f1) ((rd_T34 l0 x11_1).f2.f2) _ _ ((rd_T34 l0 x11_1).f2.f3) _ _ ((rd_T34 l0 x11_1).f3) _ _ ((rd_T34 l0 x11_1).f4) t516 t517 _ (tab_ hT_ ?hTab) ?side1 ?side2 ?side3 ?side4 ?side5 ?side6 A5.out).mono ?_); (case hTab => exact (by repeat (first | (with_reducible first | exact HB.out | apply below_alloc | apply pw_below_drewN | apply below_drew1 | refine below_set ?_ GE515.out) | exact HB.out))); (case side1 => exact Kd.C_below HR514_5.out (by repeat (first | (with_reducible first | exact HB.out | apply below_alloc | apply pw_below_drewN | apply below_drew1 | refine below_set ?_ GE515.out) | exact HB.out))); (case side2 => exact HC514_5.out); (case side3 => exact Kd.C_below HR514_6.out (by repeat (first | (with_reducible first | exact HB.out | apply below_alloc | apply pw_below_drewN | apply below_drew1 | refine below_set ?_ GE515.out) | exact HB.out))); (case side4 => exact HC514_6.out); (case side5 => exact Kd.C_below HR514_7.out (by repeat (first | (with_reducible first | exact HB.out | apply below_alloc | apply pw_below_drewN | apply below_drew1 | refine below_set ?_ GE515.out) | exact HB.out))); (case side6 => exact HC514_7.out); rintro e w20 ⟨rfl, hb⟩; refine ⟨_, rfl, ?_⟩; have n0_ := Aside0.mk (Kd.R_below (by (with_reducible repeat (first | apply Kd.R_alloc | apply Kd.R_drewN | apply Kd.R_drew)); exact (Kd.R_mono (Kd.R_far (p := ⟨gb515, 7, none⟩) (Kd.R_far (p := ⟨gb515, 6, none⟩) (Kd.R_far (p := ⟨gb515, 5, none⟩) (Kd.R_far (p := ⟨gb515, 4, none⟩) (Kd.R_far (p := ⟨gb515, 3, none⟩) (Kd.R_far (p := ⟨gb515, 2, none⟩) (Kd.R_far (p := ⟨gb515, 1, none⟩) (Kd.R_far (p := ⟨gb515, 0, none⟩) (Kd.R_types HO_4.out BK515.out (by decide)) (fun _ hk => hk.2) (.string ((rd_T34 l0 x11_1).f0))) (fun _ hk => hk.2) (.bool ((rd_T34 l0 x11_1).f1))) (fun _ hk => hk.2) (.int .i64 ((rd_T34 l0 x11_1).f2.f0))) (fun _ hk => hk.2) (.int .i64 ((rd_T34 l0 x11_1).f2.f1))) (fun _ hk => hk.2) (.string ((rd_T34 l0 x11_1).f2.f2))) (fun _ hk => hk.2) (.slice A514_5 ((rd_T34 l0 x11_1).f2.f3).length c514_5)) (fun _ hk => hk.2) (.slice A514_6 ((rd_T34 l0 x11_1).f3).length c514_6)) (fun _ hk => hk.2) (.slice A514_7 ((rd_T34 l0 x11_1).f4).length c514_7)) (fun _ h_ => h_.1))) hb); have n1_ := Aside0.mk (blk_below (g := gb515) (o := .cells #[.string ((rd_T34 l0 x11_1).f0), .bool ((rd_T34 l0 x11_1).f1), .int .i64 ((rd_T34 l0 x11_1).f2.f0), .int .i64 ((rd_T34 l0 x11_1).f2.f1), .string ((rd_T34 l0 x11_1).f2.f2), .slice A514_5 ((rd_T34 l0 x11_1).f2.f3).length c514_5, .slice A514_6 ((rd_T34 l0 x11_1).f3).length c514_6, .slice A514_7 ((rd_T34 l0 x11_1).f4).length c514_7] 34 (0, 0)) (by (repeat refine kq_ ?_); refine blk_put (cs := #[.string ((rd_T34 l0 x11_1).f0), .bool ((rd_T34 l0 x11_1).f1), .int .i64 ((rd_T34 l0 x11_1).f2.f0), .int .i64 ((rd_T34 l0 x11_1).f2.f1), .string ((rd_T34 l0 x11_1).f2.f2), .slice A514_5 ((rd_T34 l0 x11_1).f2.f3).length c514_5, .slice A514_6 ((rd_T34 l0 x11_1).f3).length c514_6, .slice none 0 0]) ?_ 7 _ rfl; (repeat refine kq_ ?_); refine blk_put (cs := #[.string ((rd_T34 l0 x11_1).f0), .bool ((rd_T34 l0 x11_1).f1), .int .i64 ((rd_T34 l0 x11_1).f2.f0), .int .i64 ((rd_T34 l0 x11_1).f2.f1), .string ((rd_T34 l0 x11_1).f2.f2), .slice A514_5 ((rd_T34 l0 x11_1).f2.f3).length c514_5, .slice none 0 0, .slice none 0 0]) ?_ 6 _ rfl; (repeat refine kq_ ?_); refine blk_put (cs := #[.string ((rd_T34 l0 x11_1).f0), .bool ((rd_T34 l0 x11_1).f1), .int .i64 ((rd_T34 l0 x11_1).f2.f0), .int .i64 ((rd_T34 l0 x11_1).f2.f1), .string ((rd_T34 l0 x11_1).f2.f2), .slice none 0 0, .slice none 0 0, .slice none 0 0]) ?_ 5 _ rfl; (repeat refine kq_ ?_); refine blk_put (cs := #[.string ((rd_T34 l0 x11_1).f0), .bool ((rd_T34 l0 x11_1).f1), .int .i64 ((rd_T34 l0 x11_1).f2.f0), .int .i64 ((rd_T34 l0 x11_1).f2.f1), .string ⟨#[]⟩, .slice none 0 0, .slice none 0 0, .slice none 0 0]) ?_ 4 _ rfl; (repeat refine kq_ ?_); refine blk_put (cs := #[.string ((rd_T34 l0 x11_1).f0), .bool ((rd_T34 l0 x11_1).f1), .int .i64 ((rd_T34 l0 x11_1).f2.f0), .int .i64 0, .string ⟨#[]⟩, .slice none 0 0, .slice none 0 0, .slice none 0 0]) ?_ 3 _ rfl; (repeat refine kq_ ?_); refine blk_put (cs := #[.string ((rd_T34 l0 x11_1).f0), .bool ((rd_T34 l0 x11_1).f1), .int .i64 0, .int .i64 0, .string ⟨#[]⟩, .slice none 0 0, .slice none 0 0, .slice none 0 0]) ?_ 2 _ rfl; (repeat refine kq_ ?_); refine blk_put (cs := #[.string ((rd_T34 l0 x11_1).f0), .bool false, .int .i64 0, .int .i64 0, .string ⟨#[]⟩, .slice none 0 0, .slice none 0 0, .slice none 0 0]) ?_ 1 _ rfl; (repeat refine kq_ ?_); refine blk_put (cs := #[.string ⟨#[]⟩, .bool false, .int .i64 0, .int .i64 0, .string ⟨#[]⟩, .slice none 0 0, .slice none 0 0, .slice none 0 0]) ?_ 0 _ rfl; (repeat refine kq_ ?_); exact BK515.out) hb); have n2_ := Aside0.mk (below_step (by repeat (first | (with_reducible first | exact HB.out | apply below_alloc | apply pw_below_drewN | apply below_drew1 | refine below_set ?_ GE515.out) | exact HB.out)) hb); clear HO_4; clear BK515; clear HB; have HO_4 := n0_; have BK515 := n1_; have HB := n2_; clear n0_ n1_ n2_; (try clear hb); (try clear hb2); (try clear hk); (try clear hi)))
       go_ret2
       exact ⟨by first | rfl | (simp [errW_none, errW_some] <;> rfl) | (simp [*, errW_none, errW_some] <;> rfl) | (simp [q_ne_nil]; done), by repeat (first | (with_reducible first | exact HB.out | apply below_alloc | apply pw_below_drewN | apply below_drew1 | refine below_set ?_ GE515.out) | exact HB.out)⟩
     ·rw [if_neg c4] at H
      exact absurd H (by simp)
    ·rw [if_neg c3] at H
     exact absurd H (by simp)
   ·rw [if_neg c2] at H
    have c2b0 : decide (x11_1 < (l0.length : Int)) = false := decide_eq_false c2
    clear c2
    replace H := Option.bind_eq_some_iff.mp H
    obtain ⟨t521, A210, H⟩ := H
    (try dsimp only at H)
    have A21 := Aside0.mk A210
    clear A210
    simp only [Option.some.injEq, Prod.mk.injEq] at H
    obtain ⟨rfl, rfl⟩ := H
    obtain ⟨Ao22, co22, eo22⟩ := Kd.R_slice HO_4.out
    subst eo22
    go_wp2_with (first | ((with_reducible refine gate_callee (f := 33) rfl ?_); refine goesL_ (some 33) rfl rfl Tryz.func33 (by kernel_rfl) rfl #[.slice Ao22 x4_1.length co22, .string ⟨#[44, 32]⟩] rfl (by simp only [List.map_toArray, List.map_cons, List.map_nil] <;> rfl) ?_; (with_reducible refine (strings_Join.calls _ _ x4_1 (⟨#[44, 32]⟩ : ByteArray) t521 _ ?side1 ?side2 A21.out).mono ?_); (case side1 => repeat (first | exact (Kd.R_reads' HO_4.out).2.2 | (with_reducible refine Kd.C_alloc ?_ _) | (with_reducible refine Kd.C_drewN ?_ _) | (with_reducible refine Kd.C_drew ?_))); (case side2 => exact (Kd.R_reads' HO_4.out).2.1); rintro e w23 ⟨rfl, hb⟩; refine ⟨_, rfl, ?_⟩; have n0_ := Aside0.mk (Kd.R_below (rl_ HO_4.out) hb); have n1_ := Aside0.mk (below_step (bl_ HB.out) hb); clear HO_4; clear HB; have HO_4 := n0_; have HB := n1_; clear n0_ n1_; (try clear hb); (try clear hb2); (try clear hk); (try clear hi)))
    go_ret2
    exact ⟨by first | rfl | (simp [errW_none, errW_some] <;> rfl) | (simp [*, errW_none, errW_some] <;> rfl) | (simp [q_ne_nil]; done), bl_ HB.out⟩
mutual
def glacisref05_decimal.j0 : Nat → Int → ByteArray → Option (ByteArray)
 | 0, _, _ => none
 | k + 1, x0, x3 => (strconv_Itoa.f (wrap64 (Int.tdiv (Int.tmod x0 1000) 100))).bind fun t522 => (if (Int.tmod (Int.tmod x0 1000) 100) = 0 then (glacisref05_decimal.j1 k x0 x3 (Int.tmod x0 1000) t522) else ((strconv_Itoa.f (Int.tmod (wrap64 (Int.tdiv (Int.tmod x0 1000) 10)) 10)).bind fun t523 => (if t522.size + t523.size ≤ 9223372036854775807 then (glacisref05_decimal.j1 k x0 x3 (Int.tmod x0 1000) (t522 ++ t523)) else (none))))
def glacisref05_decimal.j1 : Nat → Int → ByteArray → Int → ByteArray → Option (ByteArray)
 | 0, _, _, _, _ => none
 | k + 1, x0, x3, x4, x5 => if (Int.tmod x4 10) = 0 then ((strconv_Itoa.f (wrap64 (Int.tdiv x0 1000))).bind fun t524 => (if x3.size + t524.size ≤ 9223372036854775807 then (if (x3 ++ t524).size + 1 ≤ 9223372036854775807 then (if ((x3 ++ t524) ++ (⟨#[46]⟩ : ByteArray)).size + x5.size ≤ 9223372036854775807 then (some (((x3 ++ t524) ++ (⟨#[46]⟩ : ByteArray)) ++ x5)) else (none)) else (none)) else (none))) else ((strconv_Itoa.f (Int.tmod x4 10)).bind fun t525 => (if x5.size + t525.size ≤ 9223372036854775807 then ((strconv_Itoa.f (wrap64 (Int.tdiv x0 1000))).bind fun t526 => (if x3.size + t526.size ≤ 9223372036854775807 then (if (x3 ++ t526).size + 1 ≤ 9223372036854775807 then (if ((x3 ++ t526) ++ (⟨#[46]⟩ : ByteArray)).size + (x5 ++ t525).size ≤ 9223372036854775807 then (some (((x3 ++ t526) ++ (⟨#[46]⟩ : ByteArray)) ++ (x5 ++ t525))) else (none)) else (none)) else (none))) else (none)))
end
def glacisref05_decimal.f (k : Nat) (a0 : Int) : Option (ByteArray) := if a0 < 0 then (glacisref05_decimal.j0 k (wrap64 (-a0)) (⟨#[45]⟩ : ByteArray)) else (glacisref05_decimal.j0 k a0 (⟨#[]⟩ : ByteArray))
end Go.Proofs.YtjdbiicjfpgjkaaGreatDoor.Q
namespace Go.Proofs.YtjdbiicjfpgjkaaGreatDoor.Q
open Go.RowKit Go.Proofs.YtjdbiicjfpgjkaaGreatDoorW.PrintWords Go.Proofs.YtjdbiicjfpgjkaaGreatDoorW.PrintLast Go.Proofs.YtjdbiicjfpgjkaaGreatDoorW.PrintMore
set_option linter.unusedVariables false
set_option linter.unusedSimpArgs false
/-- Items as they are read at w0: their parameters lie there. -/
def kF (w0 : World) : Kd S31 where
  sz := 4
  E := []
  K := fun _ x cs => (k31).K w0 x cs
  M := fun _ _ _ x cs => (k31).K w0 x cs
  K_len := fun h => (k31).K_len h
  K_one := fun h => (k31).K_one h
  K_below := fun _ h => h
  K_of_M := fun h => h
  M_mono := fun _ h => h
  M_bound := fun h => h
  M_move := fun _ h => h
  M_lower := fun _ h => h
def fewP (p : S60) : Bool := decide (p.f0.size ≤ 200) && decide (p.f3.size ≤ 200)
def fewI (x : S31) : Bool := decide (x.f3.length ≤ 50) && (decide (x.f2.size ≤ 200) && x.f3.all fewP)
/-- A member's items, one way and another. -/
def allI (m : S34) : List S31 := m.f3 ++ [m.f2, ⟨0, 0, ⟨#[]⟩, m.f4⟩]
def fewM (m : S34) : Bool := decide (m.f3.length ≤ 50) && (decide (m.f4.length ≤ 50) && (decide (m.f0.size ≤ 200) && (allI m).all fewI))
def fewL (l : List S34) : Bool := decide (l.length ≤ 50) && l.all fewM
def glacislaw06_few.f (k : Nat) (l0 : List S34) : Option Bool := some (fewL l0)
def bigM (p : S34) : Bool := decide ((50 : Int) < (p.f3.length : Int)) || (decide ((50 : Int) < (p.f4.length : Int)) || decide ((200 : Int) < (p.f0.size : Int)))
def bigI (x : S31) : Bool := decide ((50 : Int) < (x.f3.length : Int)) || decide ((200 : Int) < (x.f2.size : Int))
def bigP (p : S60) : Bool := decide ((200 : Int) < (p.f0.size : Int)) || decide ((200 : Int) < (p.f3.size : Int))
theorem dec_le (a b : Nat) (c : Int) (hc : (b : Int) = c) : decide (a ≤ b) = !decide (c < (a : Int)) := by
  by_cases h : a ≤ b
  · rw [decide_eq_true h, decide_eq_false (by omega)]; rfl
  · rw [decide_eq_false h, decide_eq_true (by omega)]; rfl
theorem fewM_eq (m : S34) : fewM m = (!bigM m && (allI m).all fewI) := by
  unfold fewM bigM
  rw [dec_le _ 50 50 rfl, dec_le _ 50 50 rfl, dec_le _ 200 200 rfl]
  simp only [Bool.not_or, Bool.and_assoc]
theorem fewI_eq (x : S31) : fewI x = (!bigI x && x.f3.all fewP) := by
  unfold fewI bigI
  rw [dec_le _ 50 50 rfl, dec_le _ 200 200 rfl]
  simp only [Bool.not_or, Bool.and_assoc]
theorem fewP_eq (p : S60) : fewP p = !bigP p := by
  unfold fewP bigP
  rw [dec_le _ 200 200 rfl, dec_le _ 200 200 rfl]
  simp only [Bool.not_or]
theorem all_take {α : Type} (f : α → Bool) (l : List α) (n : Nat) (h : n < l.length) : (l.take (n + 1)).all f = ((l.take n).all f && f l[n]) := by
  rw [List.take_succ_eq_append_getElem h, List.all_append]; simp
theorem all_not {α : Type} (f : α → Bool) (l : List α) (n : Nat) (h : n < l.length) (hf : f l[n] = false) : l.all f = false := by
  cases e : l.all f with
  | false => rfl
  | true => rw [List.all_eq_true] at e; rw [e _ (List.getElem_mem h)] at hf; cases hf
theorem rd_fewM (l : List S34) (n : Nat) (h : n < l.length) : rd_T34 l (n : Int) = l[n] := by simp [rd_T34, List.getD_eq_getElem?_getD, h]
theorem rd_fewI (l : List S31) (n : Nat) (h : n < l.length) : rd_T31 l (n : Int) = l[n] := by simp [rd_T31, List.getD_eq_getElem?_getD, h]
theorem rd_fewP (l : List S60) (n : Nat) (h : n < l.length) : rd_T60 l (n : Int) = l[n] := by simp [rd_T60, List.getD_eq_getElem?_getD, h]
theorem lit_R {α : Type} (d : Kd α) (W : World) (e base : Nat) (xs : List α) (inner : List Value) {okp : Nat → Prop} (hrep : Reps (d.M W base okp) d.sz xs inner) (hbase : base ≤ W.heap.size) (hm : xs.length ≤ 9223372036854775807) :
    Kd.R d e (W.alloc (.cells inner.toArray e)) base (fun _ => True) (.slice (some ⟨W.heap.size, 0, none⟩) xs.length xs.length) xs := by
  refine ⟨fun _ _ => trivial, inner, ?_, ?_⟩
  · have h2 := World.ownsRow_lit (base := base) (e := e) (size := d.sz) W inner.toArray xs.length hbase (by simpa [maxLen] using hm) (by simpa using hrep.1)
    simpa using h2
  · refine hrep.imp_ (fun p c hp => d.M_mono (fun k hk => ⟨trivial, fun he => ?_⟩) (Kd.M_below (d.M_bound hp) (below_alloc (Below.refl _ _) _)))
    have h3 : k = W.heap.size := by simpa [Value.ownBlock] using he
    have := hk.2.2.1
    omega
/-- A row without items. -/
theorem lit_R0 (w0 W : World) (base : Nat) (hbase : base ≤ W.heap.size) : Kd.R (kF w0) 31 (W.alloc (.cells #[] 31)) base (fun _ => True) (.slice (some ⟨W.heap.size, 0, none⟩) 0 0) [] := lit_R (kF w0) W 31 base [] [] (okp := fun _ => False) (Reps.none _ _) hbase (by simp)
theorem R_cast {α : Type} {d : Kd α} {e : Nat} {W : World} {base : Nat} {ok : Nat → Prop} {v v' : Value} {xs : List α} (h : d.R e W base ok v xs) (hv : v' = v) : d.R e W base ok v' xs := hv ▸ h
theorem few_row {w W : World} {base : Nat} {ok : Nat → Prop} {v : Value} {l : List S31} (h : Kd.R (kF w) 31 W base ok v l) (hb : Below w.heap.size w W) : ∃ A c, v = .slice A l.length c ∧ l.length ≤ c ∧ Kd.C k31 W A l.length l := by
  obtain ⟨A, c, e, hl, hC⟩ := Kd.R_reads h
  exact ⟨A, c, e, hl, ReadsRow.imp_ hC (Below.refl _ _) (fun _ _ hp => (k31).K_below hb hp)⟩
/-- Two items in a block. -/
theorem two_row {w0 W : World} {b : Nat} {x y : S31} {v0 v1 v2 v3 u0 u1 u2 u3 : Value} (hc : (k31).K w0 x [v0, v1, v2, v3]) (hd : (k31).K w0 y [u0, u1, u2, u3]) (hb : W.heap[b]? = some (.cells #[v0, v1, v2, v3, u0, u1, u2, u3] 31 (0, 0))) : ReadsRow ((k31).K w0) 4 W (some ⟨b, 0, none⟩) 2 [x, y] := by
  refine ⟨rfl, by decide, fun _ => ⟨_, rfl, fun j p hj => ?_⟩⟩
  match j, hj with
  | 0, hj =>
    obtain rfl := Option.some.inj hj
    refine ⟨_, rfl, hc, fun i u hu => ?_⟩
    have hi : i < 4 := (List.getElem?_eq_some_iff.1 hu).1
    have : (⟨b, 0, none⟩ : Addr).add (0 * 4 + i) = ⟨b, i, none⟩ := by
      simp [Addr.add]
      try omega
    rw [this]
    match i, hi, hu with
    | 0, _, hu => exact (blk_cell hb 0).trans hu
    | 1, _, hu => exact (blk_cell hb 1).trans hu
    | 2, _, hu => exact (blk_cell hb 2).trans hu
    | 3, _, hu => exact (blk_cell hb 3).trans hu
  | 1, hj =>
    obtain rfl := Option.some.inj hj
    refine ⟨_, rfl, hd, fun i u hu => ?_⟩
    have hi : i < 4 := (List.getElem?_eq_some_iff.1 hu).1
    have : (⟨b, 0, none⟩ : Addr).add (1 * 4 + i) = ⟨b, 4 + i, none⟩ := by
      simp [Addr.add]
      try omega
    rw [this]
    match i, hi, hu with
    | 0, _, hu => exact (blk_cell hb 4).trans hu
    | 1, _, hu => exact (blk_cell hb 5).trans hu
    | 2, _, hu => exact (blk_cell hb 6).trans hu
    | 3, _, hu => exact (blk_cell hb 7).trans hu
theorem blk_o2 {W w1 : World} {o0 o8 : Obj} {row : Option Nat} (hg : ((W.alloc o0).alloc o8).drew.grownBy w1 row) (hr : row = some W.heap.size) : w1.heap[W.heap.size + 1]? = some o8 := by
  have h := blk_new (W.alloc o0) o8
  rw [World.size_alloc] at h
  exact blk_grown (blk_drew h) hg (by rw [hr]; simp)
theorem blk_o3 {W w1 : World} {o0 o8 : Obj} {row : Option Nat} (hg : ((W.alloc o8).alloc o0).drew.grownBy w1 row) (hr : row = some (W.heap.size + 1)) : w1.heap[W.heap.size]? = some o8 := by
  exact blk_grown (blk_drew (blk_alloc (blk_new W o8) o0)) hg (by rw [hr]; simp)
set_option maxHeartbeats 8000000 in
set_option maxRecDepth 100000 in
theorem glacislaw06_few.calls (k : Nat) (A0 : Option Addr) (c0 : Nat) (l0 : List S34) (r : Bool) (w : World) (hr0 : Kd.C k34 w A0 l0.length l0) (hc0 : l0.length ≤ c0) (h : glacislaw06_few.f k l0 = some r) :
    Calls Tryz.prog 16 #[.slice A0 l0.length c0] w fun e w' => e = .returned (.bool r) ∧ Below w.heap.size w w' := by
  have hu31 := Tryz.underlying31
  have hr := Option.some.inj h
  have HF := Aside0.mk hr
  have HR0 := Aside0.mk hr0
  clear h hr0 hr
  go_enter Tryz.func16, Tryz.ntmps16
  by_cases h50 : l0.length ≤ 50
  · have d1 : decide ((50 : Int) < (l0.length : Int)) = false := decide_eq_false (by omega)
    have HALL : Aside0 (fewL l0 = l0.all fewM) := ⟨by unfold fewL; rw [decide_eq_true h50]; rfl⟩
    go_wp2
    go_loopw [3, 4, 5, 6] (fun v3 v4 v5 v6 wr => ∃ n : Nat, n ≤ l0.length ∧ v3 = .int .i64 n ∧ Aside0 (Below w.heap.size w wr) ∧ Aside0 ((l0.take n).all fewM = true)) (fun v3 _ _ _ _ => l0.length - (intOf v3).toNat)
    case atStart => exact ⟨0, Nat.zero_le _, rfl, ⟨Below.refl _ _⟩, ⟨by rw [List.take_zero]; rfl⟩⟩
    case round =>
      obtain ⟨n, hn, rfl, HB, HT⟩ := hrel
      by_cases hlt : n < l0.length
      · have hltd : decide ((n : Int) < (l0.length : Int)) = true := decide_eq_true (by omega)
        obtain ⟨ad, A5, c5, A6, c6, A7, c7, hA, h0, h1, h2, h3, h4, h5, h6, h7, m5, g5, m6, g6, m7, g7⟩ := at_T34 HR0.out (n : Int) (by omega) (by omega)
        subst hA
        simp only [Int.toNat_natCast] at h0 h1 h2 h3 h4 h5 h6 h7
        replace h0 := pw_cell_below HB.out h0
        replace h1 := pw_cell_below HB.out h1
        replace h2 := pw_cell_below HB.out h2
        replace h3 := pw_cell_below HB.out h3
        replace h4 := pw_cell_below HB.out h4
        replace h5 := pw_cell_below HB.out h5
        replace h6 := pw_cell_below HB.out h6
        replace h7 := pw_cell_below HB.out h7
        have p1 : (0 ≤ (n : Int)) = True := eq_true (by omega)
        have p2 : ((n : Int) < (l0.length : Int)) = True := eq_true (by omega)
        have HQ := Aside0.mk (rd_fewM l0 n hlt)
        have HTK := Aside0.mk (all_take fewM l0 n hlt)
        have HNO := Aside0.mk (all_not fewM l0 n hlt)
        rw [← HQ.out] at HTK HNO
        clear HQ
        generalize rd_T34 l0 n = p at *
        have HX5 := Aside0.mk g5
        have HX6 := Aside0.mk g6
        have HX7 := Aside0.mk g7
        have HM5 := Aside0.mk m5
        have HM7 := Aside0.mk m7
        clear g5 g6 g7 m5 m6 m7
        go_upto_region 6 with (fail)
        obtain ⟨bd, hbd⟩ : ∃ bd, bigM p = bd := ⟨_, rfl⟩
        have HBD := Aside0.mk hbd
        clear hbd
        go_cut [40] (fun v40 wc => v40 = .bool bd ∧ wc = wr)
        case first =>
          cases e0 : decide ((50 : Int) < (p.f3.length : Int)) with
          | true =>
            go_wp2
            go_meet
            case rel => exact ⟨by rw [← HBD.out]; unfold bigM; rw [e0]; rfl, rfl⟩
          | false =>
            cases e1 : decide ((50 : Int) < (p.f4.length : Int)) with
            | true =>
              go_wp2
              go_meet
              case rel => exact ⟨by rw [← HBD.out]; unfold bigM; rw [e0, e1]; rfl, rfl⟩
            | false =>
              go_wp2
              go_meet
              case rel => exact ⟨by rw [← HBD.out]; unfold bigM; rw [e0, e1]; simp, rfl⟩
        case rest =>
          obtain ⟨rfl, rfl⟩ := hcut
          cases bd with
          | true =>
            have hres : r = false := by rw [← HF.out, HALL.out]; exact HNO.out (by rw [fewM_eq, HBD.out]; rfl)
            subst hres
            go_wp2
            go_ret
            exact ⟨rfl, HB.out⟩
          | false =>
            have hb := HBD.out
            unfold bigM at hb
            simp only [Bool.or_eq_false_iff, decide_eq_false_iff_not] at hb
            have HXb := Aside0.mk (Kd.C_below HX6.out HB.out)
            go_upto_region 8 with (fail)
            have G := Aside0.mk (fun W' (h : Below wc.heap.size wc W') => (⟨pw_cell_below h h2, pw_cell_below h h3, pw_cell_below h h4, pw_cell_below h h5, pw_cell_below h h6, pw_cell_below h h7⟩ : _ ∧ _ ∧ _ ∧ _ ∧ _ ∧ _))
            have KX := Aside0.mk (k31_mk w p.f2 HM5.out HX5.out)
            have KY : Aside0 ((k31).K w ⟨0, 0, ⟨#[]⟩, p.f4⟩ [.int .i64 0, .int .i64 0, .string ⟨#[]⟩, .slice A7 p.f4.length c7]) := ⟨k31_mk w ⟨0, 0, ⟨#[]⟩, p.f4⟩ HM7.out HX7.out⟩
            have HLN : Aside0 (p.f3.length ≤ 50) := ⟨by omega⟩
            go_cut [4] (fun v4 wd => Aside0 (Kd.R (kF w) 31 wd wc.heap.size (fun _ => True) v4 (allI p)) ∧ Aside0 (Below wc.heap.size wc wd))
            case first =>
              clear h0 h1 h2 h3 h4 h5 h6 h7
              go_region_held3 (fun w' => w'.cell? ⟨(ad.add (n * 8)).block, (ad.add (n * 8)).off + 2, none⟩ = some (.int .i64 p.f2.f0) ∧ w'.cell? ⟨(ad.add (n * 8)).block, (ad.add (n * 8)).off + 3, none⟩ = some (.int .i64 p.f2.f1) ∧ w'.cell? ⟨(ad.add (n * 8)).block, (ad.add (n * 8)).off + 4, none⟩ = some (.string p.f2.f2) ∧ w'.cell? ⟨(ad.add (n * 8)).block, (ad.add (n * 8)).off + 5, none⟩ = some (.slice A5 p.f2.f3.length c5) ∧ w'.cell? ⟨(ad.add (n * 8)).block, (ad.add (n * 8)).off + 6, none⟩ = some (.slice A6 p.f3.length c6) ∧ w'.cell? ⟨(ad.add (n * 8)).block, (ad.add (n * 8)).off + 7, none⟩ = some (.slice A7 p.f4.length c7)) (exact G.out _ (by repeat (first | (with_reducible assumption) | (with_reducible exact Below.refl _ _) | (with_reducible apply below_alloc) | (with_reducible apply below_drew)))) (first
                | ((fail_if_success (have hq_ := ho)); refine Kd.R_append_rows_step (kF w) (Rr := (k31).K w) (w0 := wc) wc.heap.size (by rfl) (.tmp 41) (.tmp 46) 32 31 (.agg #[(.int .i64 0), (.int .i64 0), (.string ⟨#[]⟩), (.slice none 0 0)]) 56 rfl Tryz.underlying32 info31 rfl (Nat.zero_lt_succ 3) (by omega) _ [] p.f3 A6 p.f3.length c6 (fun _ => True) (fun _ => False) (by rfl) (by rfl) ?aO ?aR (fun _ _ hk => hk) (fun _ hk => hk.elim) (fun _ _ => trivial) (by repeat (first | (with_reducible assumption) | (with_reducible exact Below.refl _ _) | (with_reducible apply below_alloc) | (with_reducible apply below_drew))) (below_size (by repeat (first | (with_reducible assumption) | (with_reducible exact Below.refl _ _) | (with_reducible apply below_alloc) | (with_reducible apply below_drew)))) ?aL ?_; (case aO => refine R_cast (v := ?_) ?_ ?_; rotate_left; (with_reducible repeat (first | apply Kd.R_drew)); (first | (with_reducible refine lit_R0 _ _ _ ?_) | (with_reducible refine Kd.R_alloc (lit_R0 _ _ _ ?_) _)); exact below_size (by repeat (first | (with_reducible assumption) | (with_reducible exact Below.refl _ _) | (with_reducible apply below_alloc) | (with_reducible apply below_drew))); (try simp only [World.size_alloc, World.size_drew]); rfl); (case aR => exact ReadsRow.imp_ HX6.out (below_then HB.out HB.out.size (by repeat (first | (with_reducible assumption) | (with_reducible exact Below.refl _ _) | (with_reducible apply below_alloc) | (with_reducible apply below_drew)))) (fun _ _ h => h)); (case aL => simp; omega); intro v47 w47 ho hb hg hat; rw [List.nil_append] at ho)
                | (have hq_ := ho; clear hq_; refine Kd.R_append_rows_step (kF w) (Rr := (k31).K w) (w0 := wc) wc.heap.size (by rfl) (.tmp 47) (.tmp 59) 32 31 (.agg #[(.int .i64 0), (.int .i64 0), (.string ⟨#[]⟩), (.slice none 0 0)]) 56 rfl Tryz.underlying32 info31 rfl (Nat.zero_lt_succ 3) (by omega) _ p.f3 [p.f2, ⟨0, 0, ⟨#[]⟩, p.f4⟩] _ 2 2 (fun _ => True) (fun _ => False) (by rfl) (by rfl) ?aO ?aR (fun _ _ hk => hk) (fun _ hk => hk.elim) (fun _ _ => trivial) (by repeat (first | (with_reducible assumption) | (with_reducible exact Below.refl _ _) | (with_reducible apply below_alloc) | (with_reducible apply below_drew))) (below_size (by repeat (first | (with_reducible assumption) | (with_reducible exact Below.refl _ _) | (with_reducible apply below_alloc) | (with_reducible apply below_drew)))) ?aL ?_; (case aO => refine R_cast (v := v47) ?_ ?_; (repeat (first | (with_reducible exact ho) | (with_reducible apply Kd.R_drew) | (with_reducible apply Kd.R_alloc))); rfl); (case aR => refine two_row KX.out KY.out ?_; first | (with_reducible exact blk_new _ _) | ((with_reducible refine blk_o2 hg ?_); rfl) | ((with_reducible refine blk_o3 hg ?_); rfl)); (case aL => have := HLN.out; simp; omega); intro v60 w60 ho2 hb2 hg2 hat2))
              all_goals (go_step; go_step; go_meet; (case rel => exact ⟨⟨ho2⟩, ⟨hb2⟩⟩))
            case rest =>
              rename World => w5
              obtain ⟨HR4, HBd⟩ := hcut
              have HBw := Aside0.mk (below_then HB.out HB.out.size HBd.out)
              obtain ⟨A4, c4, he4, hl4, hC4⟩ := few_row HR4.out HBw.out
              subst he4
              have HC4 := Aside0.mk hC4
              have HL4 : Aside0 ((allI p).length ≤ 52) := ⟨by have := HLN.out; unfold allI; simp only [List.length_append, List.length_cons, List.length_nil]; omega⟩
              have HFM : Aside0 (fewM p = (allI p).all fewI) := ⟨by rw [fewM_eq, HBD.out]; rfl⟩
              clear HR4 hC4 HX5 HX6 HX7 HM5 HM7 KX KY HXb G HLN h0 h1 h2 h3 h4 h5 h6 h7
              generalize allI p = al at *
              go_wp2
              go_loopw [5, 6] (fun v5 v6 wq => ∃ j : Nat, j ≤ al.length ∧ v5 = .int .i64 j ∧ Aside0 (Below w5.heap.size w5 wq) ∧ Aside0 ((al.take j).all fewI = true)) (fun v5 _ _ => al.length - (intOf v5).toNat)
              case atStart => exact ⟨0, Nat.zero_le _, rfl, ⟨Below.refl _ _⟩, ⟨by rw [List.take_zero]; rfl⟩⟩
              case round =>
                obtain ⟨j, hj, rfl, HBq, HTj⟩ := hrel
                have hal := HL4.out
                by_cases hjl : j < al.length
                · have hjd : decide ((j : Int) < (al.length : Int)) = true := decide_eq_true (by omega)
                  obtain ⟨ae, A3, c3, hA, i0, i1, i2, i3, m3, g3⟩ := at_T31 HC4.out (j : Int) (by omega) (by omega)
                  subst hA
                  simp only [Int.toNat_natCast] at i0 i1 i2 i3
                  have I2 := Aside0.mk (fun W (h : Below w5.heap.size w5 W) => pw_cell_below h i2)
                  have I3 := Aside0.mk (fun W (h : Below w5.heap.size w5 W) => pw_cell_below h i3)
                  clear i0 i1 i2 i3
                  have i2 := I2.out _ HBq.out
                  have i3 := I3.out _ HBq.out
                  have q1 : (0 ≤ (j : Int)) = True := eq_true (by omega)
                  have q2 : ((j : Int) < (al.length : Int)) = True := eq_true (by omega)
                  have HQ := Aside0.mk (rd_fewI al j hjl)
                  have HTK2 := Aside0.mk (all_take fewI al j hjl)
                  have HNO2 := Aside0.mk (all_not fewI al j hjl)
                  rw [← HQ.out] at HTK2 HNO2
                  clear HQ
                  generalize rd_T31 al j = x at *
                  have HG3 := Aside0.mk g3
                  have HM3 := Aside0.mk m3
                  clear g3 m3
                  go_upto_region 12 with (fail)
                  obtain ⟨be, hbe⟩ : ∃ be, bigI x = be := ⟨_, rfl⟩
                  have HBE := Aside0.mk hbe
                  clear hbe
                  go_cut [82] from 67 to 116 (fun v82 we => v82 = .bool be ∧ we = wr)
                  case first =>
                    cases e0 : decide ((50 : Int) < (x.f3.length : Int)) with
                    | true =>
                      go_wp2
                      go_meet
                      case rel => exact ⟨by rw [← HBE.out]; unfold bigI; rw [e0]; rfl, rfl⟩
                    | false =>
                      go_wp2
                      go_meet
                      case rel => exact ⟨by rw [← HBE.out]; unfold bigI; rw [e0]; simp, rfl⟩
                  case rest =>
                    obtain ⟨rfl, rfl⟩ := hcut
                    cases be with
                    | true =>
                      have hres : r = false := by rw [← HF.out, HALL.out]; exact HNO.out (by rw [HFM.out]; exact HNO2.out (by rw [fewI_eq, HBE.out]; rfl))
                      subst hres
                      go_wp2
                      go_ret
                      exact ⟨rfl, below_then HBw.out HBw.out.size HBq.out⟩
                    | false =>
                      have hb2 := HBE.out
                      unfold bigI at hb2
                      simp only [Bool.or_eq_false_iff, decide_eq_false_iff_not] at hb2
                      have HXL : Aside0 (x.f3.length ≤ 50) := ⟨by omega⟩
                      clear hb2 i2 i3
                      go_wp2
                      go_loopw [6] (fun v6 wu => ∃ m : Nat, m ≤ x.f3.length ∧ v6 = .int .i64 m ∧ Aside0 (Below w5.heap.size w5 wu) ∧ Aside0 ((x.f3.take m).all fewP = true)) (fun v6 _ => x.f3.length - (intOf v6).toNat)
                      case atStart => exact ⟨0, Nat.zero_le _, rfl, HBq, ⟨by rw [List.take_zero]; rfl⟩⟩
                      case round =>
                        obtain ⟨m, hm, rfl, HBu, HTm⟩ := hrel
                        have hxl := HXL.out
                        have i3 := I3.out _ HBu.out
                        by_cases hml : m < x.f3.length
                        · have hmd : decide ((m : Int) < (x.f3.length : Int)) = true := decide_eq_true (by omega)
                          obtain ⟨ap, hA, k0, k1, k2, k3⟩ := at_T60 (Kd.C_below HG3.out HBu.out) (m : Int) (by omega) (by omega)
                          subst hA
                          simp only [Int.toNat_natCast] at k0 k1 k2 k3
                          have s1 : (0 ≤ (m : Int)) = True := eq_true (by omega)
                          have s2 : ((m : Int) < (x.f3.length : Int)) = True := eq_true (by omega)
                          have HQ := Aside0.mk (rd_fewP x.f3 m hml)
                          have HTK3 := Aside0.mk (all_take fewP x.f3 m hml)
                          have HNO3 := Aside0.mk (all_not fewP x.f3 m hml)
                          rw [← HQ.out] at HTK3 HNO3
                          clear HQ k1 k2
                          generalize rd_T60 x.f3 m = q at *
                          go_upto_region 17 with (fail)
                          obtain ⟨bp, hbp⟩ : ∃ bp, bigP q = bp := ⟨_, rfl⟩
                          have HBP := Aside0.mk hbp
                          clear hbp
                          go_cut [116] from 93 to 116 (fun v116 we => v116 = .bool bp ∧ we = wr)
                          case first =>
                            cases e0 : decide ((200 : Int) < (q.f0.size : Int)) with
                            | true =>
                              go_wp2
                              go_meet
                              case rel => exact ⟨by rw [← HBP.out]; unfold bigP; rw [e0]; rfl, rfl⟩
                            | false =>
                              go_wp2
                              go_meet
                              case rel => exact ⟨by rw [← HBP.out]; unfold bigP; rw [e0]; simp, rfl⟩
                          case rest =>
                            obtain ⟨rfl, rfl⟩ := hcut
                            cases bp with
                            | true =>
                              have hres : r = false := by rw [← HF.out, HALL.out]; exact HNO.out (by rw [HFM.out]; exact HNO2.out (by rw [fewI_eq, HBE.out, HNO3.out (by rw [fewP_eq, HBP.out]; rfl)]; rfl))
                              subst hres
                              go_wp2
                              go_ret
                              exact ⟨rfl, below_then HBw.out HBw.out.size HBu.out⟩
                            | false =>
                              go_wp2
                              exact ⟨⟨m + 1, by omega, by go_num, HBu, ⟨by rw [HTK3.out, HTm.out, fewP_eq, HBP.out]; rfl⟩⟩, by simp [intOf]; omega⟩
                        · obtain rfl : m = x.f3.length := by omega
                          have hmd : decide ((x.f3.length : Int) < (x.f3.length : Int)) = false := decide_eq_false (by omega)
                          go_wp2
                          exact ⟨⟨j + 1, by omega, by go_num, HBu, ⟨by have h := HTm.out; rw [List.take_length] at h; rw [HTK2.out, HTj.out, fewI_eq, HBE.out, h]; rfl⟩⟩, by simp [intOf]; omega⟩
                · obtain rfl : j = al.length := by omega
                  have hjd : decide ((al.length : Int) < (al.length : Int)) = false := decide_eq_false (by omega)
                  go_wp2
                  exact ⟨⟨n + 1, by omega, by go_num, ⟨below_then HBw.out HBw.out.size HBq.out⟩, ⟨by have h := HTj.out; rw [List.take_length] at h; rw [HTK.out, HT.out, HFM.out, h]; rfl⟩⟩, by simp [intOf]; omega⟩
      · obtain rfl : n = l0.length := by omega
        have hltd : decide ((l0.length : Int) < (l0.length : Int)) = false := decide_eq_false (by omega)
        have hres : r = true := by rw [← HF.out, HALL.out]; have := HT.out; rwa [List.take_length] at this
        subst hres
        go_wp2
        go_ret
        exact ⟨rfl, HB.out⟩
  · have d1 : decide ((50 : Int) < (l0.length : Int)) = true := decide_eq_true (by omega)
    have hres : r = false := by rw [← HF.out]; unfold fewL; rw [decide_eq_false h50]; rfl
    subst hres
    go_wp2
    go_ret
    exact ⟨rfl, Below.refl _ _⟩
end Go.Proofs.YtjdbiicjfpgjkaaGreatDoor.Q
namespace Go.Proofs.YtjdbiicjfpgjkaaGreatDoor.Q
open Go.RowKit Go.Proofs.YtjdbiicjfpgjkaaGreatDoorW.PrintWords Go.Proofs.YtjdbiicjfpgjkaaGreatDoorW.PrintLast Go.Proofs.YtjdbiicjfpgjkaaGreatDoorW.PrintMore
set_option linter.unusedVariables false
set_option linter.unusedSimpArgs false
theorem nilJ {α : Type} (d : Kd α) (w : World) : Kd.C d w none 0 [] := ⟨rfl, by decide, fun h => absurd h (by decide)⟩
/-- A member in a block of her own. -/
theorem oneJ_row {w W : World} {b : Nat} {x : S34} {v0 v1 v2 v3 v4 v5 v6 v7 : Value} (hc : (k34).K w x [v0, v1, v2, v3, v4, v5, v6, v7]) (hb : W.heap[b]? = some (.cells #[v0, v1, v2, v3, v4, v5, v6, v7] 34 (0, 0))) (hw : Below w.heap.size w W) : Kd.C k34 W (some ⟨b, 0, none⟩) 1 [x] := by
  refine ⟨rfl, by decide, fun _ => ⟨_, rfl, fun j p hj => ?_⟩⟩
  match j, hj with
  | 0, hj =>
    obtain rfl := Option.some.inj hj
    refine ⟨_, rfl, (k34).K_below hw hc, fun i u hu => ?_⟩
    have hi : i < 8 := (List.getElem?_eq_some_iff.1 hu).1
    have : (⟨b, 0, none⟩ : Addr).add (0 * 8 + i) = ⟨b, i, none⟩ := by
      simp [Addr.add]
      try omega
    show W.cell? ((⟨b, 0, none⟩ : Addr).add (0 * 8 + i)) = some u
    rw [this]
    match i, hi, hu with
    | 0, _, hu => exact (blk_cell hb 0).trans hu
    | 1, _, hu => exact (blk_cell hb 1).trans hu
    | 2, _, hu => exact (blk_cell hb 2).trans hu
    | 3, _, hu => exact (blk_cell hb 3).trans hu
    | 4, _, hu => exact (blk_cell hb 4).trans hu
    | 5, _, hu => exact (blk_cell hb 5).trans hu
    | 6, _, hu => exact (blk_cell hb 6).trans hu
    | 7, _, hu => exact (blk_cell hb 7).trans hu
end Go.Proofs.YtjdbiicjfpgjkaaGreatDoor.Q
