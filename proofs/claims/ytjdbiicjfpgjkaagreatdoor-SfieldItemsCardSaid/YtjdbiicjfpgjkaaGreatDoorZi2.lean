/- The law SfieldItems: contracts, words and plain lemmas that its proof reaches, part 2. Its conditions: the row's own. -/
import Derived.Test.YtjdbiicjfpgjkaaGreatDoorZi1
namespace Go.Proofs.YtjdbiicjfpgjkaaGreatDoor.Q
open Go.RowKit Go.Proofs.YtjdbiicjfpgjkaaGreatDoorW.PrintWords Go.Proofs.YtjdbiicjfpgjkaaGreatDoorW.PrintLast Go.Proofs.YtjdbiicjfpgjkaaGreatDoorW.PrintMore
set_option linter.unusedVariables false
set_option linter.unusedSimpArgs false
open Go.Proofs.YtjdbiicjfpgjkaaGreatDoor.Sf
/-- A block of a row of parameters. -/
def LB (W : World) (b : Nat) (v : Value) : Prop := W.heap[b]? = some (.cells #[v] 29 (0, 0))
theorem LB.cell {W : World} {b : Nat} {v : Value} (h : LB W b v) : W.cell? ⟨b, 0, none⟩ = some v := (blk_cell h 0).trans rfl
theorem LB.set {W : World} {b : Nat} {v : Value} (h : LB W b v) (u : Value) : LB (W.setCell ⟨b, 0, none⟩ u) b u := by have := blk_set h 0 u; simpa [LB] using this
theorem LB.far {W : World} {b : Nat} {v : Value} (h : LB W b v) {p : Addr} (hp : b ≠ p.block) (u : Value) : LB (W.setCell p u) b v := blk_far h hp u
set_option maxRecDepth 100000 in
set_option maxHeartbeats 2000000 in
theorem params_catch_panicking (pe pk pr : Nat) (v1 : Value) (s2 : ByteArray) (n : Int) (w : World) (he : w.heap[pe]? = some (.cells #[.int .i64 n] 24 (0, 0))) (hk : LB w pk v1) (hr : SB w pr s2) :
    CallsD Tryz.prog 76 #[.pointer (some ⟨pe, 0, none⟩), .pointer (some ⟨pk, 0, none⟩), .pointer (some ⟨pr, 0, none⟩)] (.panicking [thrown false]) w fun e u' w' =>
      e = .returned (.tuple #[]) ∧ u' = .panicking [thrown true] ∧ w' = ((w.setCell ⟨pe, 0, none⟩ (.int .i64 50)).setCell ⟨pk, 0, none⟩ (.slice none 0 0)).setCell ⟨pr, 0, none⟩ (.string ⟨#[]⟩) := by
  have hne1 : pe ≠ pk := blk_ne he hk (by decide)
  have hne2 : pe ≠ pr := blk_ne he hr (by decide)
  have hne3 : pk ≠ pr := blk_ne hk hr (by decide)
  have hc0 : w.cell? ⟨pe, 0, none⟩ = some (.int .i64 n) := (blk_cell he 0).trans rfl
  have hf0 := blk_frozen he 0
  have hc1 := hk.cell
  have hf1 := blk_frozen hk 0
  have hc2 := hr.cell
  have hf2 := blk_frozen hr 0
  refine callsD_of_wpS Tryz.func76 rfl fun c₀ cs hu => ?_
  apply wpS_seq
  apply wpS_region
  simp [wpOpsS, go_sem, recoverD, hu, Tryz.ntmps76, Exit.thenS]
  refine (caught_some _).mono ?_
  rintro e w' ⟨rfl, rfl⟩
  simp [go_sem, hc0, hf0]
  refine wpS_of_wp ?_
  go_wp2
  simp [bodyPostS, results, Tryz.results76]
set_option maxRecDepth 100000 in
set_option maxHeartbeats 2000000 in
theorem params_catch_idle (pe pk pr : Nat) (n : Int) (w : World) (he : w.heap[pe]? = some (.cells #[.int .i64 n] 24 (0, 0))) :
    CallsD Tryz.prog 76 #[.pointer (some ⟨pe, 0, none⟩), .pointer (some ⟨pk, 0, none⟩), .pointer (some ⟨pr, 0, none⟩)] .returning w fun e u' w' =>
      e = .returned (.tuple #[]) ∧ u' = .returning ∧ w' = w.setCell ⟨pe, 0, none⟩ (.int .i64 0) := by
  have hc0 : w.cell? ⟨pe, 0, none⟩ = some (.int .i64 n) := (blk_cell he 0).trans rfl
  have hf0 := blk_frozen he 0
  refine callsD_of_wpS Tryz.func76 rfl fun c₀ cs hu => ?_
  apply wpS_seq
  apply wpS_region
  simp [wpOpsS, go_sem, recoverD, hu, Tryz.ntmps76, Exit.thenS]
  refine (caught_none _).mono ?_
  rintro e w' ⟨rfl, rfl⟩
  simp [go_sem, hc0, hf0]
  refine wpS_of_wp ?_
  go_wp2
  cases c₀
  simp_all [bodyPostS, results, Tryz.results76]
/-- Params' four blocks. -/
structure P4 (w W : World) (s : ByteArray) : Prop where
  row : LB W w.heap.size (.slice none 0 0)
  rest : SB W (w.heap.size + 1) ⟨#[]⟩
  err : EB W (w.heap.size + 1 + 1) 0
  rd : Rd W (w.heap.size + 1 + 1 + 1) s
  below : Below w.heap.size w W
theorem P4.new (w : World) (s : ByteArray) : P4 w ((((w.alloc (.cells #[.slice none 0 0] 29)).alloc (.cells #[.string ⟨#[]⟩] 9)).alloc (.cells #[.int .i64 0] 24)).alloc (.cells #[.string s] 82)) s where
  row := blk_alloc (blk_alloc (blk_alloc (by have := blk_new w (.cells #[.slice none 0 0] 29); simpa using this) _) _) _
  rest := blk_alloc (blk_alloc (by have := blk_new (w.alloc (.cells #[.slice none 0 0] 29)) (.cells #[.string ⟨#[]⟩] 9); simpa using this) _) _
  err := blk_alloc (by have := blk_new ((w.alloc (.cells #[.slice none 0 0] 29)).alloc (.cells #[.string ⟨#[]⟩] 9)) (.cells #[.int .i64 0] 24); simpa using this) _
  rd := by have := blk_new (((w.alloc (.cells #[.slice none 0 0] 29)).alloc (.cells #[.string ⟨#[]⟩] 9)).alloc (.cells #[.int .i64 0] 24)) (.cells #[.string s] 82); simpa [Rd] using this
  below := ((((Below.refl _ _).alloc (Nat.le_refl _) _).alloc (by simp) _).alloc (by simp; omega) _).alloc (by simp; omega) _
/-- What Params' results read as. -/
theorem params_results (w : World) (tmps : Array Value) (W : World) (u : ByteArray) (v : Value) (c : Int) (h2 : tmps.getD 2 undef = .pointer (some ⟨w.heap.size, 0, none⟩)) (h3 : tmps.getD 3 undef = .pointer (some ⟨w.heap.size + 1, 0, none⟩)) (h4 : tmps.getD 4 undef = .pointer (some ⟨w.heap.size + 1 + 1, 0, none⟩))
    (hI : LB W w.heap.size v) (hS : SB W (w.heap.size + 1) u) (hE : EB W (w.heap.size + 1 + 1) c) :
    (results Tryz.f47 tmps).run Tryz.prog W = .ok (.tuple #[v, .string u, .int .i64 c]) W := by
  have c3 := hI.cell
  have c4 := hS.cell
  have c5 := hE.cell
  have h2' : tmps[2]?.getD undef = .pointer (some ⟨w.heap.size, 0, none⟩) := by simpa using h2
  have h3' : tmps[3]?.getD undef = .pointer (some ⟨w.heap.size + 1, 0, none⟩) := by simpa using h3
  have h4' : tmps[4]?.getD undef = .pointer (some ⟨w.heap.size + 1 + 1, 0, none⟩) := by simpa using h4
  simp [results, Tryz.results47, go_sem, h2', h3', h4', c3, c4, c5]
def ParamsPost (s : ByteArray) (w : World) (e : Ending) (w' : World) : Prop :=
  (match rdParams s with
    | some (l, t) => ∃ u : Value, e = .returned (.tuple #[u, .string t, .int .i64 0]) ∧ Kd.R k60 60 w' w.heap.size (fun _ => True) u l
    | none => e = .returned (.tuple #[.slice none 0 0, .string ⟨#[]⟩, .int .i64 50])) ∧ Below w.heap.size w w'
theorem ParamsPost.dead {s : ByteArray} {w w' : World} (h : rdParams s = none) (hb : Below w.heap.size w w') : ParamsPost s w (.returned (.tuple #[.slice none 0 0, .string ⟨#[]⟩, .int .i64 50])) w' := by
  refine ⟨?_, hb⟩
  rw [h]
theorem ParamsPost.ok {s : ByteArray} {w w' : World} {l : List S60} {t : ByteArray} {u : Value} (h : rdParams s = some (l, t)) (hR : Kd.R k60 60 w' w.heap.size (fun _ => True) u l) (hb : Below w.heap.size w w') : ParamsPost s w (.returned (.tuple #[u, .string t, .int .i64 0])) w' := by
  refine ⟨?_, hb⟩
  rw [h]
  exact ⟨u, rfl, hR⟩
set_option maxRecDepth 100000 in
set_option maxHeartbeats 8000000 in
theorem Params_calls (s : ByteArray) (w : World) (hs : s.size ≤ 2199023255552) :
    Calls Tryz.prog 47 #[.string s] w fun e w' => ParamsPost s w e w' := by
  have hmf : ∀ (fn : Fn) (first cap : Array Value) (w : World), (Instr.makeFunc fn first cap).run Tryz.prog w = .ok (.func fn first cap) w := fun _ _ _ _ => rfl
  have h4 := Aside0.mk (P4.new w s)
  go_enter_defers Tryz.func47, Tryz.ntmps47
  go_upto_region 3 with (fail)
  generalize (((w.alloc (.cells #[.slice none 0 0] 29)).alloc (.cells #[.string ⟨#[]⟩] 9)).alloc (.cells #[.int .i64 0] 24)).alloc (.cells #[.string s] 82) = w3 at *
  have hPc := params_calls _ s w3 (by omega) h4.out.rd
  cases hM : rdParams s with
  | none =>
    have HF := Aside0.mk hM
    rw [hM] at hPc
    have hPa := Aside0.mk hPc
    clear hPc hM
    go_wp2_with (first | (go_at_call 51; refine hPa.out.mono ?_; rintro e w4 ⟨rfl, hB4⟩))
    have hI4 : LB w4 w.heap.size (.slice none 0 0) := hB4.blk h4.out.row (by omega)
    have hS4 : SB w4 (w.heap.size + 1) ⟨#[]⟩ := hB4.blk h4.out.rest (by omega)
    have hE4 : EB w4 (w.heap.size + 1 + 1) 0 := hB4.blk h4.out.err (by omega)
    have hb4 := hB4.toBelow h4.out.below (by omega)
    clear hB4
    refine leaves_cons (f := 76) (args := #[.pointer (some ⟨w.heap.size + 1 + 1, 0, none⟩), .pointer (some ⟨w.heap.size, 0, none⟩), .pointer (some ⟨w.heap.size + 1, 0, none⟩)]) (by simp) (by simp [go_sem]) ?_
    refine (params_catch_panicking _ _ _ _ _ _ _ hE4 hI4 hS4).mono ?_
    rintro e u' w'' ⟨rfl, rfl, rfl⟩
    have hI9 := ((hI4.far (p := ⟨w.heap.size + 1 + 1, 0, none⟩) (by simp only; omega) (.int .i64 50)).set (.slice none 0 0)).far (p := ⟨w.heap.size + 1, 0, none⟩) (by simp only; omega) (.string ⟨#[]⟩)
    have hS9 := ((hS4.far (p := ⟨w.heap.size + 1 + 1, 0, none⟩) (by simp only; omega) (.int .i64 50)).far (p := ⟨w.heap.size, 0, none⟩) (by simp only; omega) (.slice none 0 0)).set ⟨#[]⟩
    have hE9 := ((hE4.set 50).far (p := ⟨w.heap.size, 0, none⟩) (by simp only; omega) (.slice none 0 0)).far (p := ⟨w.heap.size + 1, 0, none⟩) (by simp only; omega) (.string ⟨#[]⟩)
    have hb9 := ((hb4.setCell (p := ⟨w.heap.size + 1 + 1, 0, none⟩) (by simp only; omega) (.int .i64 50)).setCell (p := ⟨w.heap.size, 0, none⟩) (by simp only; omega) (.slice none 0 0)).setCell (p := ⟨w.heap.size + 1, 0, none⟩) (by simp only; omega) (.string ⟨#[]⟩)
    generalize ((w4.setCell ⟨w.heap.size + 1 + 1, 0, none⟩ (.int .i64 50)).setCell ⟨w.heap.size, 0, none⟩ (.slice none 0 0)).setCell ⟨w.heap.size + 1, 0, none⟩ (.string ⟨#[]⟩) = w9 at *
    refine ⟨.tuple #[.slice none 0 0, .string ⟨#[]⟩, .int .i64 50], ?_, ?_⟩
    · exact params_results w _ w9 ⟨#[]⟩ (.slice none 0 0) 50 rfl rfl rfl hI9 hS9 hE9
    · exact ParamsPost.dead HF.out hb9
  | some lr =>
    obtain ⟨l, r⟩ := lr
    have HF := Aside0.mk hM
    rw [hM] at hPc
    have hPa := Aside0.mk hPc
    clear hPc hM
    go_upto_region 4 with (first | (go_at_call 51; refine hPa.out.mono ?_; rintro e w7 ⟨⟨v, rfl, hL7, hR7⟩, hB7⟩; obtain ⟨A7, c7, hv7⟩ := Kd.R_slice hL7; subst hv7; have hI7 : LB w7 w.heap.size (.slice none 0 0) := hB7.blk h4.out.row (by omega); have i3 := hI7.cell; have j3 := blk_frozen hI7 0))
    have hS7 : SB w7 (w.heap.size + 1) ⟨#[]⟩ := hB7.blk h4.out.rest (by omega)
    have hE7 : EB w7 (w.heap.size + 1 + 1) 0 := hB7.blk h4.out.err (by omega)
    have hb7 := hB7.toBelow h4.out.below (by omega)
    have hL8 := Kd.R_set (Kd.R_lower hL7 h4.out.below.size) hI7 (by decide) 0 (.slice A7 l.length c7)
    have hI8 := hI7.set (.slice A7 l.length c7)
    have hS8 := hS7.far (p := ⟨w.heap.size, 0, none⟩) (by simp only; omega) (.slice A7 l.length c7)
    have hE8 := hE7.far (p := ⟨w.heap.size, 0, none⟩) (by simp only; omega) (.slice A7 l.length c7)
    have hR8 := hR7.far (p := ⟨w.heap.size, 0, none⟩) (by simp only; omega) (.slice A7 l.length c7)
    have hb8 := hb7.setCell (p := ⟨w.heap.size, 0, none⟩) (by simp only; omega) (.slice A7 l.length c7)
    clear hL7 hI7 hS7 hE7 hR7 hb7 hB7 i3 j3 hPa
    generalize w7.setCell ⟨w.heap.size, 0, none⟩ (.slice A7 l.length c7) = w8 at *
    have i3 := hI8.cell
    have j3 := blk_frozen hI8 0
    have c1 := hS8.cell
    have f1 := blk_frozen hS8 0
    have c2 := hE8.cell
    have f2 := blk_frozen hE8 0
    have c3 := hR8.cell
    go_region
    have hL9 := Kd.R_set (Kd.R_set (Kd.R_set hL8 hI8 (by decide) 0 (.slice A7 l.length c7)) (show SB _ (w.heap.size + 1) ⟨#[]⟩ from SB.far hS8 (p := ⟨w.heap.size, 0, none⟩) (by simp only; omega) _) (by decide) 0 (.string r)) (show EB _ (w.heap.size + 1 + 1) 0 from EB.far (EB.far hE8 (p := ⟨w.heap.size, 0, none⟩) (by simp only; omega) (.slice A7 l.length c7)) (p := ⟨w.heap.size + 1, 0, none⟩) (by simp only; omega) (.string r)) (by decide) 0 (.int .i64 0)
    have hI9 := ((hI8.set (.slice A7 l.length c7)).far (p := ⟨w.heap.size + 1, 0, none⟩) (by simp only; omega) (.string r)).far (p := ⟨w.heap.size + 1 + 1, 0, none⟩) (by simp only; omega) (.int .i64 0)
    have hS9 := ((hS8.far (p := ⟨w.heap.size, 0, none⟩) (by simp only; omega) (.slice A7 l.length c7)).set r).far (p := ⟨w.heap.size + 1 + 1, 0, none⟩) (by simp only; omega) (.int .i64 0)
    have hE9 := ((hE8.far (p := ⟨w.heap.size, 0, none⟩) (by simp only; omega) (.slice A7 l.length c7)).far (p := ⟨w.heap.size + 1, 0, none⟩) (by simp only; omega) (.string r)).set 0
    have hb9 := ((hb8.setCell (p := ⟨w.heap.size, 0, none⟩) (by simp only; omega) (.slice A7 l.length c7)).setCell (p := ⟨w.heap.size + 1, 0, none⟩) (by simp only; omega) (.string r)).setCell (p := ⟨w.heap.size + 1 + 1, 0, none⟩) (by simp only; omega) (.int .i64 0)
    clear hL8 hI8 hS8 hE8 hR8 hb8 i3 j3 c1 f1 c2 f2 c3
    generalize ((w8.setCell ⟨w.heap.size, 0, none⟩ (.slice A7 l.length c7)).setCell ⟨w.heap.size + 1, 0, none⟩ (.string r)).setCell ⟨w.heap.size + 1 + 1, 0, none⟩ (.int .i64 0) = w9 at *
    have hLa := Kd.R_drew hL9
    have hIa : LB w9.drew w.heap.size (.slice A7 l.length c7) := hI9
    have hSa : SB w9.drew (w.heap.size + 1) r := hS9
    have hEa : EB w9.drew (w.heap.size + 1 + 1) 0 := hE9
    have hba : Below w.heap.size w w9.drew := below_drew1 hb9
    clear hL9 hI9 hS9 hE9 hb9
    generalize w9.drew = wa at *
    go_wp2
    refine leaves_cons (f := 76) (args := #[.pointer (some ⟨w.heap.size + 1 + 1, 0, none⟩), .pointer (some ⟨w.heap.size, 0, none⟩), .pointer (some ⟨w.heap.size + 1, 0, none⟩)]) (by simp) (by simp [go_sem]) ?_
    refine (params_catch_idle _ _ _ _ _ hEa).mono ?_
    rintro e u' w'' ⟨rfl, rfl, rfl⟩
    have hLb := Kd.R_mono (ok' := fun _ => True) (Kd.R_set hLa hEa (by decide) 0 (.int .i64 0)) (fun _ _ => trivial)
    have hIb := hIa.far (p := ⟨w.heap.size + 1 + 1, 0, none⟩) (by simp only; omega) (.int .i64 0)
    have hSb := hSa.far (p := ⟨w.heap.size + 1 + 1, 0, none⟩) (by simp only; omega) (.int .i64 0)
    have hEb := hEa.set 0
    have hbb := hba.setCell (p := ⟨w.heap.size + 1 + 1, 0, none⟩) (by simp only; omega) (.int .i64 0)
    clear hLa hIa hSa hEa hba
    generalize wa.setCell ⟨w.heap.size + 1 + 1, 0, none⟩ (.int .i64 0) = wb at *
    refine ⟨.tuple #[.slice A7 l.length c7, .string r, .int .i64 0], ?_, ?_⟩
    · exact params_results w _ wb r (.slice A7 l.length c7) 0 rfl rfl rfl hIb hSb hEb
    · exact ParamsPost.ok HF.out hLb hbb
def sfitem_Params.f (a0 : ByteArray) : Option (List S60 × ByteArray × Int) :=
  if a0.size ≤ 2199023255552 then (match rdParams a0 with | some (l, t) => some (l, t, 0) | none => some ([], ⟨#[]⟩, 50)) else none
theorem sfitem_Params.calls (a0 : ByteArray) (r1 : List S60) (r2 : ByteArray) (r3 : Int) (w : World) (h : sfitem_Params.f a0 = some (r1, r2, r3)) :
    Calls Tryz.prog 47 #[.string a0] w fun e w' => ∃ v1_ : Value, e = .returned (.tuple #[v1_, .string r2, .int .i64 r3]) ∧ Kd.R k60 60 w' w.heap.size (fun _ => True) v1_ r1 ∧ Below w.heap.size w w' := by
  unfold sfitem_Params.f at h
  by_cases hs : a0.size ≤ 2199023255552
  · rw [if_pos hs] at h
    refine (Params_calls a0 w hs).mono ?_
    intro e w' hp
    unfold ParamsPost at hp
    cases hN : rdParams a0 with
    | none =>
      rw [hN] at h hp
      simp only [Option.some.injEq, Prod.mk.injEq] at h
      obtain ⟨rfl, rfl, rfl⟩ := h
      exact ⟨.slice none 0 0, hp.1, Kd.R_nil _ _ _ _ _, hp.2⟩
    | some y =>
      obtain ⟨l, t⟩ := y
      rw [hN] at h hp
      simp only [Option.some.injEq, Prod.mk.injEq] at h
      obtain ⟨rfl, rfl, rfl⟩ := h
      obtain ⟨⟨u, he, hR⟩, hb⟩ := hp
      exact ⟨u, he, hR, hb⟩
  · rw [if_neg hs] at h; cases h
def sfield_inner.l0 : Nat → ByteArray → ByteArray → Bool → Int → Int → ByteArray → List (S31) → Option (ByteArray × Bool × Int × Int × ByteArray × (List (S60)) × (List (S31)) × (List (S60)) × ByteArray × Int)
 | 0, _, _, _, _, _, _, _ => none
 | k + 1, x0, x106000, x106001, x106002, x106003, x106004, x106006 => (strings_TrimLeft.f x0 (⟨#[32]⟩ : ByteArray)).bind fun t106 => ((strings_CutPrefix.f t106 (⟨#[41]⟩ : ByteArray)).bind fun bt107 => (if bt107.2 = true then ((sfitem_Params.f bt107.1).bind fun bt109 => (some (x106000, x106001, x106002, x106003, x106004, ([] : List (S60)), x106006, bt109.1, bt109.2.1, bt109.2.2))) else ((sfitem_Next.f t106).bind fun bt114 => (if bt114.2.2.2.2.2 = 0 then (if (x106006.length : Int) > 0 then (if t106.toList = x0.toList then (some (x106000, x106001, x106002, x106003, x106004, ([] : List (S60)), x106006, ([] : List (S60)), (⟨#[]⟩ : ByteArray), 50)) else (if x106006.length < 2513169434916 then (sfield_inner.l0 k bt114.2.2.2.2.1 x106000 x106001 x106002 x106003 x106004 (x106006 ++ [(⟨bt114.1, bt114.2.1, bt114.2.2.1, bt114.2.2.2.1⟩ : S31)])) else (none))) else (if x106006.length < 2513169434916 then (sfield_inner.l0 k bt114.2.2.2.2.1 x106000 x106001 x106002 x106003 x106004 (x106006 ++ [(⟨bt114.1, bt114.2.1, bt114.2.2.1, bt114.2.2.2.1⟩ : S31)])) else (none))) else (some (x106000, x106001, x106002, x106003, x106004, ([] : List (S60)), x106006, ([] : List (S60)), (⟨#[]⟩ : ByteArray), 50))))))
def sfield_inner.f (k : Nat) (a0 : ByteArray) : Option (ByteArray × Bool × Int × Int × ByteArray × (List (S60)) × (List (S31)) × (List (S60)) × ByteArray × Int) := sfield_inner.l0 k a0 (⟨#[]⟩ : ByteArray) true 0 0 (⟨#[]⟩ : ByteArray) ([] : List (S31))
theorem sfield_inner.mono_l : ∀ k, (∀ y0 y1 y2 y3 y4 y5 y6, LeO (sfield_inner.l0 k y0 y1 y2 y3 y4 y5 y6) (sfield_inner.l0 (k + 1) y0 y1 y2 y3 y4 y5 y6))
 | 0 => fun _ _ _ _ _ _ _ r h => by simp [sfield_inner.l0] at h
 | k + 1 => by
  have ih0 := sfield_inner.mono_l k
  ·intro y0 y1 y2 y3 y4 y5 y6
   unfold sfield_inner.l0
   repeat' first
   | (with_reducible exact ih0 _ _ _ _ _ _ _)
   | (with_reducible exact LeO.refl _)
   | (with_reducible exact LeO.none _)
   | (with_reducible refine LeO.ite ?_ ?_)
   | (with_reducible refine LeO.bind ?_ (fun _ => ?_))
   | exact ih0 _ _ _ _ _ _ _
   | exact LeO.none _
   | refine LeO.ite ?_ ?_
   | refine LeO.bind ?_ (fun _ => ?_)
theorem sfield_inner.mono : ∀ a0 k, LeO (sfield_inner.f k a0) (sfield_inner.f (k + 1) a0) := by
 intro a0 k
 have ih0 := sfield_inner.mono_l k
 unfold sfield_inner.f
 repeat' first
   | (with_reducible exact ih0 _ _ _ _ _ _ _)
   | (with_reducible exact LeO.refl _)
   | (with_reducible exact LeO.none _)
   | (with_reducible refine LeO.ite ?_ ?_)
   | (with_reducible refine LeO.bind ?_ (fun _ => ?_))
   | exact ih0 _ _ _ _ _ _ _
   | exact LeO.none _
   | refine LeO.ite ?_ ?_
   | refine LeO.bind ?_ (fun _ => ?_)
set_option maxHeartbeats 8000000 in
set_option maxRecDepth 100000 in
theorem sfield_inner.calls (k : Nat) (a0 : ByteArray) (r1 : ByteArray) (r2 : Bool) (r3 : Int) (r4 : Int) (r5 : ByteArray) (r6 : List (S60)) (r7 : List (S31)) (r8 : List (S60)) (r9 : ByteArray) (r10 : Int) (w : World) (h : sfield_inner.f k a0 = some (r1, r2, r3, r4, r5, r6, r7, r8, r9, r10)) :
  Calls Tryz.prog 42 #[.string a0] w fun e w' => ∃ v5_ v6_ v7_ : Value, e = .returned (.tuple #[.agg #[.string r1, .bool r2, .int .i64 r3, .int .i64 r4, .string r5, v5_, v6_, v7_], .string r9, .int .i64 r10]) ∧ Kd.R k60 60 w' w.heap.size (fun k_ => some k_ ≠ (v7_ : Value).ownBlock) v5_ r6 ∧ Kd.S k31 31 w' w.heap.size (fun k_ => some k_ ≠ (v5_ : Value).ownBlock ∧ some k_ ≠ (v7_ : Value).ownBlock) v6_ r7 ∧ Kd.R k60 60 w' w.heap.size (fun k_ => some k_ ≠ (v5_ : Value).ownBlock) v7_ r8 ∧ Below w.heap.size w w' := by
 have hu34 := Tryz.underlying34
 have hu31 := Tryz.underlying31
 have HB := Aside0.mk (Below.refl w.heap.size w)
 have H : (sfield_inner.l0 k a0 (⟨#[]⟩ : ByteArray) true 0 0 (⟨#[]⟩ : ByteArray) ([] : List (S31))) = some (r1, r2, r3, r4, r5, r6, r7, r8, r9, r10) := h
 clear h
 have H' := Aside0.mk H
 clear H
 go_enter Tryz.func42, Tryz.ntmps42
 go_wp2_with (first | ((with_reducible refine gate_dst (N := 2) rfl ?_); (try (refine gate_guard (by rfl) ?_; dsimp only)); refine box_event ?hg (N := 2) ?hd (cs := #[.string ⟨#[]⟩, .bool false, .int .i64 0, .int .i64 0, .string ⟨#[]⟩, .slice none 0 0, .slice none 0 0, .slice none 0 0]) (t := 34) ?hr ?_; (case hd => rfl); (case hg => rfl); (case hr => first | (go_simp; done) | (go_simp; rfl)); intro gb104 hg w2 hbox hb; have n0_ := Aside0.mk (below_step (bl_ HB.out) hb); have n1_ := Aside0.mk (hbox); have n2_ := Aside0.mk ((hg_ hg (bl_ HB.out))); have n3_ := Aside0.mk ((hg_ hg (bl_ HB.out))); clear HB; have HB := n0_; have BK104 := n1_; have GW104 := n2_; have GE104 := n3_; clear n0_ n1_ n2_ n3_; clear hb hbox hg) | ((with_reducible refine gate_dst (N := 5) rfl ?_); (try (refine gate_guard (by rfl) ?_; dsimp only)); refine box_event ?hg (N := 5) ?hd (cs := #[.string ⟨#[]⟩, .bool false, .int .i64 0, .int .i64 0, .string ⟨#[]⟩, .slice none 0 0, .slice none 0 0, .slice none 0 0]) (t := 34) ?hr ?_; (case hd => rfl); (case hg => rfl); (case hr => first | (go_simp; done) | (go_simp; rfl)); intro gb105 hg w3 hbox hb; have n0_ := Aside0.mk (blk_below (g := gb104) (o := .cells #[.string ⟨#[]⟩, .bool false, .int .i64 0, .int .i64 0, .string ⟨#[]⟩, .slice none 0 0, .slice none 0 0, .slice none 0 0] 34 (0, 0)) (kl_ BK104.out) hb); have n1_ := Aside0.mk (below_step (bl_ HB.out) hb); have n2_ := Aside0.mk (hbox); have n3_ := Aside0.mk ((hg_ hg (bl_ HB.out))); have n4_ := Aside0.mk ((hg_ hg (bl_ HB.out))); have n5_ := Aside0.mk ((by rw [hg]; exact Nat.ne_of_lt (blk_lt (g := gb104) (o := .cells #[.string ⟨#[]⟩, .bool false, .int .i64 0, .int .i64 0, .string ⟨#[]⟩, .slice none 0 0, .slice none 0 0, .slice none 0 0] 34 (0, 0)) (kl_ BK104.out)) : gb104 ≠ gb105)); have n6_ := Aside0.mk ((by rw [hg]; exact Nat.ne_of_gt (blk_lt (g := gb104) (o := .cells #[.string ⟨#[]⟩, .bool false, .int .i64 0, .int .i64 0, .string ⟨#[]⟩, .slice none 0 0, .slice none 0 0, .slice none 0 0] 34 (0, 0)) (kl_ BK104.out)) : gb105 ≠ gb104)); clear BK104; clear HB; have BK104 := n0_; have HB := n1_; have BK105 := n2_; have GW105 := n3_; have GE105 := n4_; have NB104_105 := n5_; have NB105_104 := n6_; clear n0_ n1_ n2_ n3_ n4_ n5_ n6_; clear hb hbox hg; have hnb4 := NB105_104.out; have hnc4 := NB104_105.out; obtain ⟨hcz5_0, hcz5_1, hcz5_2, hcz5_3, hcz5_4, hcz5_5, hcz5_6, hcz5_7⟩ := c8_ BK105.out; obtain ⟨hfz5_0, hfz5_1, hfz5_2, hfz5_3, hfz5_4, hfz5_5, hfz5_6, hfz5_7⟩ := f8_ BK105.out))
 go_loopg [0] k (fun kq v0 w' => ∃ (x0_1 : ByteArray) (x105000_1 : ByteArray) (x105001_1 : Bool) (x105002_1 : Int) (x105003_1 : Int) (x105004_1 : ByteArray) (x106006_1 : List (S31)) (u106006 : Value), v0 = .string x0_1 ∧ Aside0 (sfield_inner.l0 kq x0_1 (⟨#[]⟩ : ByteArray) true 0 0 (⟨#[]⟩ : ByteArray) x106006_1 = some (r1, r2, r3, r4, r5, r6, r7, r8, r9, r10)) ∧ Aside0 (kq ≤ k) ∧ Aside0 (Kd.S k31 31 w' w.heap.size (fun _ => True) u106006 x106006_1) ∧ Aside0 (w'.heap[gb104]? = some (.cells #[.string x105000_1, .bool x105001_1, .int .i64 x105002_1, .int .i64 x105003_1, .string x105004_1, (.slice none 0 0), (.slice none 0 0), (.slice none 0 0)] 34 (0, 0))) ∧ Aside0 (w'.heap[gb105]? = some (.cells #[.string ⟨#[]⟩, .bool true, .int .i64 0, .int .i64 0, .string ⟨#[]⟩, (.slice none 0 0), u106006, (.slice none 0 0)] 34 (0, 0))) ∧ Aside0 (Below w.heap.size w w'))
 case atStart => exact ⟨(a0), ((⟨#[]⟩ : ByteArray)), (false), (0), (0), ((⟨#[]⟩ : ByteArray)), (([] : List (S31))), (.slice none 0 0), (by first | rfl | simp [*]), H', ⟨Nat.le_refl _⟩, ⟨by first | exact Kd.S_nil _ _ _ _ _ | exact Kd.N_nil _ _ _ _ _ | exact Kd.V_nil _ _ _ _ _ | exact Kd.Q_nil _ _ _ _ _ | exact Kd.R_nil _ _ _ _ _⟩, ⟨by repeat (first | refine blk_far ?_ NB104_105.out _ | exact BK104.out)⟩, ⟨by (repeat refine kq_ ?_); refine blk_put (cs := #[.string ⟨#[]⟩, .bool true, .int .i64 0, .int .i64 0, .string ⟨#[]⟩, .slice none 0 0, .slice none 0 0, .slice none 0 0]) ?_ 7 _ rfl; (repeat refine kq_ ?_); refine blk_put (cs := #[.string ⟨#[]⟩, .bool true, .int .i64 0, .int .i64 0, .string ⟨#[]⟩, .slice none 0 0, .slice none 0 0, .slice none 0 0]) ?_ 6 _ rfl; (repeat refine kq_ ?_); refine blk_put (cs := #[.string ⟨#[]⟩, .bool true, .int .i64 0, .int .i64 0, .string ⟨#[]⟩, .slice none 0 0, .slice none 0 0, .slice none 0 0]) ?_ 5 _ rfl; (repeat refine kq_ ?_); refine blk_put (cs := #[.string ⟨#[]⟩, .bool true, .int .i64 0, .int .i64 0, .string ⟨#[]⟩, .slice none 0 0, .slice none 0 0, .slice none 0 0]) ?_ 4 _ rfl; (repeat refine kq_ ?_); refine blk_put (cs := #[.string ⟨#[]⟩, .bool true, .int .i64 0, .int .i64 0, .string ⟨#[]⟩, .slice none 0 0, .slice none 0 0, .slice none 0 0]) ?_ 3 _ rfl; (repeat refine kq_ ?_); refine blk_put (cs := #[.string ⟨#[]⟩, .bool true, .int .i64 0, .int .i64 0, .string ⟨#[]⟩, .slice none 0 0, .slice none 0 0, .slice none 0 0]) ?_ 2 _ rfl; (repeat refine kq_ ?_); refine blk_put (cs := #[.string ⟨#[]⟩, .bool false, .int .i64 0, .int .i64 0, .string ⟨#[]⟩, .slice none 0 0, .slice none 0 0, .slice none 0 0]) ?_ 1 _ rfl; (repeat refine kq_ ?_); refine blk_put (cs := #[.string ⟨#[]⟩, .bool false, .int .i64 0, .int .i64 0, .string ⟨#[]⟩, .slice none 0 0, .slice none 0 0, .slice none 0 0]) ?_ 0 _ rfl; (repeat refine kq_ ?_); exact BK105.out⟩, ⟨by repeat (first | (with_reducible first | exact HB.out | apply below_alloc | apply pw_below_drewN | apply below_drew1 | refine below_set ?_ GE104.out | refine below_set ?_ GE105.out) | exact HB.out)⟩⟩
 case round =>
  clear H'
  try clear p2
  try clear c4
  try clear hcz5_0
  try clear hcz5_1
  try clear hcz5_2
  try clear hcz5_3
  try clear hcz5_4
  try clear hcz5_5
  try clear hcz5_6
  try clear hcz5_7
  try clear hfz5_0
  try clear hfz5_1
  try clear hfz5_2
  try clear hfz5_3
  try clear hfz5_4
  try clear hfz5_5
  try clear hfz5_6
  try clear hfz5_7
  obtain ⟨x0_1, x105000_1, x105001_1, x105002_1, x105003_1, x105004_1, x106006_1, u106006, rfl, HA, HK1, HO_106006, BK104, BK105, HB⟩ := hrel
  cases gk with
  | zero => exact absurd HA.out (by simp [sfield_inner.l0])
  | succ k1 =>
   have H := HA.out
   clear HA
   simp only [sfield_inner.l0] at H
   replace H := Option.bind_eq_some_iff.mp H
   obtain ⟨t106, A60, H⟩ := H
   (try dsimp only at H)
   have A6 := Aside0.mk A60
   clear A60
   replace H := Option.bind_eq_some_iff.mp H
   obtain ⟨⟨t107, t108⟩, A70, H⟩ := H
   (try dsimp only at H)
   have A7 := Aside0.mk A70
   clear A70
   by_cases c8 : t108 = true
   ·subst c8
    rw [if_pos rfl] at H
    replace H := Option.bind_eq_some_iff.mp H
    obtain ⟨⟨t109, t110, t111⟩, A90, H⟩ := H
    (try dsimp only at H)
    have A9 := Aside0.mk A90
    clear A90
    simp only [Option.some.injEq, Prod.mk.injEq] at H
    obtain ⟨rfl, rfl, rfl, rfl, rfl, rfl, rfl, rfl, rfl, rfl⟩ := H
    go_wp2_with (first | ((with_reducible refine gate_callee (f := 40) rfl ?_); refine goesL_ (some 17) rfl rfl Tryz.func40 (by kernel_rfl) rfl #[.string x0_1, .string ⟨#[32]⟩] rfl (by simp only [List.map_toArray, List.map_cons, List.map_nil] <;> rfl) ?_; (with_reducible refine (strings_TrimLeft.calls x0_1 (⟨#[32]⟩ : ByteArray) t106 _ A6.out).mono ?_); rintro e w10 ⟨rfl, hb⟩; refine ⟨_, rfl, ?_⟩; have n0_ := Aside0.mk (Kd.S_below (sl_ HO_106006.out) hb); have n1_ := Aside0.mk (blk_below (kl_ BK104.out) hb); have n2_ := Aside0.mk (blk_below (g := gb105) (o := .cells #[.string ⟨#[]⟩, .bool true, .int .i64 0, .int .i64 0, .string ⟨#[]⟩, .slice none 0 0, u106006, .slice none 0 0] 34 (0, 0)) (kl_ BK105.out) hb); have n3_ := Aside0.mk (below_step (bl_ HB.out) hb); clear HO_106006; clear BK104; clear BK105; clear HB; have HO_106006 := n0_; have BK104 := n1_; have BK105 := n2_; have HB := n3_; clear n0_ n1_ n2_ n3_; (try clear hb); (try clear hb2); (try clear hk); (try clear hi)) | ((with_reducible refine gate_callee (f := 41) rfl ?_); refine goesL_ (some 20) rfl rfl Tryz.func41 (by kernel_rfl) rfl #[.string t106, .string ⟨#[41]⟩] rfl (by simp only [List.map_toArray, List.map_cons, List.map_nil] <;> rfl) ?_; (with_reducible refine (strings_CutPrefix.calls t106 (⟨#[41]⟩ : ByteArray) t107 true _ A7.out).mono ?_); rintro e w' ⟨rfl, ⟨nd, rfl⟩⟩; refine ⟨_, rfl, ?_⟩; (try (rw [drewN_self w10]; generalize hq_ : World.drewN w10 _ = w10; have l_ := lq_ hq_; have n0_ := Aside0.mk (sl_ (W := w10) HO_106006.out); have n1_ := Aside0.mk (kl_ (W := w10) BK104.out); have n2_ := Aside0.mk (kl_ (W := w10) BK105.out); have n3_ := Aside0.mk (bl_ (W := w10) HB.out); clear HO_106006 BK104 BK105 HB hq_ l_; have HO_106006 := n0_; have BK104 := n1_; have BK105 := n2_; have HB := n3_; clear n0_ n1_ n2_ n3_))) | ((with_reducible refine gate_callee (f := 47) rfl ?_); refine goesL_ (some 26) rfl rfl Tryz.func47 (by kernel_rfl) rfl #[.string t107] rfl (by simp only [List.map_toArray, List.map_cons, List.map_nil] <;> rfl) ?_; (with_reducible refine (sfitem_Params.calls t107 t109 t110 t111 _ A9.out).mono ?_); rintro e w11 ⟨v112, rfl, ho0, hb⟩; refine ⟨_, rfl, ?_⟩; have n0_ := Aside0.mk (Kd.S_elder' (sl_ HO_106006.out) (Kd.R_base ho0) hb); have n1_ := Aside0.mk (Kd.R_lower ho0 (below_size (bl_ HB.out))); have n2_ := Aside0.mk (blk_below (kl_ BK104.out) hb); have n3_ := Aside0.mk (blk_below (g := gb105) (o := .cells #[.string ⟨#[]⟩, .bool true, .int .i64 0, .int .i64 0, .string ⟨#[]⟩, .slice none 0 0, u106006, .slice none 0 0] 34 (0, 0)) (kl_ BK105.out) hb); have n4_ := Aside0.mk (below_step (bl_ HB.out) hb); clear HO_106006; clear BK104; clear BK105; clear HB; have HO_106006 := n0_; have HO113 := n1_; have BK104 := n2_; have BK105 := n3_; have HB := n4_; clear n0_ n1_ n2_ n3_ n4_; (try clear hb); (try clear hb2); (try clear hk); (try clear hi); (try clear ho0); obtain ⟨Ao12, co12, eo12⟩ := Kd.R_slice HO113.out; subst eo12; have hnb13 := NB105_104.out; have hnc13 := NB104_105.out; obtain ⟨hcz14_0, hcz14_1, hcz14_2, hcz14_3, hcz14_4, hcz14_5, hcz14_6, hcz14_7⟩ := c8_ BK105.out; obtain ⟨hfz14_0, hfz14_1, hfz14_2, hfz14_3, hfz14_4, hfz14_5, hfz14_6, hfz14_7⟩ := f8_ BK105.out; obtain ⟨hcz15_0, hcz15_1, hcz15_2, hcz15_3, hcz15_4, hcz15_5, hcz15_6, hcz15_7⟩ := c8_ BK104.out; obtain ⟨hfz15_0, hfz15_1, hfz15_2, hfz15_3, hfz15_4, hfz15_5, hfz15_6, hfz15_7⟩ := f8_ BK104.out; obtain ⟨Ao16, co16, eo16⟩ := Kd.S_slice HO_106006.out; subst eo16))
    refine bodyPost_ret (results_ctt rfl _ _ gb104 34 #[.string ⟨#[]⟩, .bool true, .int .i64 0, .int .i64 0, .string ⟨#[]⟩, .slice none 0 0, .slice Ao16 x106006_1.length co16, .slice Ao12 t109.length co12] (0, 0) _ rfl (by (repeat refine kq_ ?_); refine blk_put (cs := #[.string ⟨#[]⟩, .bool true, .int .i64 0, .int .i64 0, .string ⟨#[]⟩, .slice none 0 0, .slice Ao16 x106006_1.length co16, .slice none 0 0]) ?_ 7 _ rfl; (repeat refine kq_ ?_); refine blk_put (cs := #[.string ⟨#[]⟩, .bool true, .int .i64 0, .int .i64 0, .string ⟨#[]⟩, .slice none 0 0, .slice none 0 0, .slice none 0 0]) ?_ 6 _ rfl; (repeat refine kq_ ?_); refine blk_put (cs := #[.string ⟨#[]⟩, .bool true, .int .i64 0, .int .i64 0, .string ⟨#[]⟩, .slice none 0 0, .slice none 0 0, .slice none 0 0]) ?_ 5 _ rfl; (repeat refine kq_ ?_); refine blk_put (cs := #[.string ⟨#[]⟩, .bool true, .int .i64 0, .int .i64 0, .string x105004_1, .slice none 0 0, .slice none 0 0, .slice none 0 0]) ?_ 4 _ rfl; (repeat refine kq_ ?_); refine blk_put (cs := #[.string ⟨#[]⟩, .bool true, .int .i64 0, .int .i64 x105003_1, .string x105004_1, .slice none 0 0, .slice none 0 0, .slice none 0 0]) ?_ 3 _ rfl; (repeat refine kq_ ?_); refine blk_put (cs := #[.string ⟨#[]⟩, .bool true, .int .i64 x105002_1, .int .i64 x105003_1, .string x105004_1, .slice none 0 0, .slice none 0 0, .slice none 0 0]) ?_ 2 _ rfl; (repeat refine kq_ ?_); refine blk_put (cs := #[.string ⟨#[]⟩, .bool x105001_1, .int .i64 x105002_1, .int .i64 x105003_1, .string x105004_1, .slice none 0 0, .slice none 0 0, .slice none 0 0]) ?_ 1 _ rfl; (repeat refine kq_ ?_); refine blk_put (cs := #[.string x105000_1, .bool x105001_1, .int .i64 x105002_1, .int .i64 x105003_1, .string x105004_1, .slice none 0 0, .slice none 0 0, .slice none 0 0]) ?_ 0 _ rfl; (repeat refine kq_ ?_); refine blk_far ?_ NB104_105.out _; (repeat refine kq_ ?_); exact BK104.out) Tryz.underlying34 rfl (by kernel_rfl)) rfl ?_
    exact ⟨_, _, _, by first | rfl | (simp [errW_none, errW_some] <;> rfl) | (simp [*, errW_none, errW_some] <;> rfl) | (simp [q_ne_nil]; done), by first | exact Kd.R_nil _ _ _ _ _ | exact Kd.S_nil _ _ _ _ _, by (with_reducible repeat (first | apply Kd.S_alloc | apply Kd.S_drewN | apply Kd.S_drew)); exact Kd.S_mono (Kd.S_far (p := ⟨gb104, 7, none⟩) (Kd.S_far (p := ⟨gb104, 6, none⟩) (Kd.S_far (p := ⟨gb104, 5, none⟩) (Kd.S_far (p := ⟨gb104, 4, none⟩) (Kd.S_far (p := ⟨gb104, 3, none⟩) (Kd.S_far (p := ⟨gb104, 2, none⟩) (Kd.S_far (p := ⟨gb104, 1, none⟩) (Kd.S_far (p := ⟨gb104, 0, none⟩) (Kd.S_far (p := ⟨gb105, 7, none⟩) (Kd.S_types (Kd.S_types HO_106006.out BK105.out (by decide)) BK104.out (by decide)) (fun _ hk => hk.1.2) (.slice Ao12 t109.length co12)) (fun _ hk => hk.2) (.string ⟨#[]⟩)) (fun _ hk => hk.2) (.bool true)) (fun _ hk => hk.2) (.int .i64 0)) (fun _ hk => hk.2) (.int .i64 0)) (fun _ hk => hk.2) (.string ⟨#[]⟩)) (fun _ hk => hk.2) (.slice none 0 0)) (fun _ hk => hk.2) (.slice Ao16 x106006_1.length co16)) (fun _ hk => hk.2) (.slice Ao12 t109.length co12)) (fun _ hk => ⟨(by simp [Value.ownBlock]), hk.1.1.2⟩), by (with_reducible repeat (first | apply Kd.R_alloc | apply Kd.R_drewN | apply Kd.R_drew)); exact Kd.R_mono (Kd.R_far (p := ⟨gb104, 7, none⟩) (Kd.R_far (p := ⟨gb104, 6, none⟩) (Kd.R_far (p := ⟨gb104, 5, none⟩) (Kd.R_far (p := ⟨gb104, 4, none⟩) (Kd.R_far (p := ⟨gb104, 3, none⟩) (Kd.R_far (p := ⟨gb104, 2, none⟩) (Kd.R_far (p := ⟨gb104, 1, none⟩) (Kd.R_far (p := ⟨gb104, 0, none⟩) (Kd.R_far (p := ⟨gb105, 7, none⟩) (Kd.R_types (Kd.R_types HO113.out BK105.out (by decide)) BK104.out (by decide)) (fun _ hk => hk.1.2) (.slice Ao12 t109.length co12)) (fun _ hk => hk.2) (.string ⟨#[]⟩)) (fun _ hk => hk.2) (.bool true)) (fun _ hk => hk.2) (.int .i64 0)) (fun _ hk => hk.2) (.int .i64 0)) (fun _ hk => hk.2) (.string ⟨#[]⟩)) (fun _ hk => hk.2) (.slice none 0 0)) (fun _ hk => hk.2) (.slice Ao16 x106006_1.length co16)) (fun _ hk => hk.2) (.slice Ao12 t109.length co12)) (fun _ hk => (by simp [Value.ownBlock])), by repeat (first | (with_reducible first | exact HB.out | apply below_alloc | apply pw_below_drewN | apply below_drew1 | refine below_set ?_ GE104.out | refine below_set ?_ GE105.out) | exact HB.out)⟩
   ·replace c8 := Bool.eq_false_iff.mpr c8
    subst c8
    rw [if_neg (show ¬ (false = true) by decide)] at H
    replace H := Option.bind_eq_some_iff.mp H
    obtain ⟨⟨t114, t115, t116, t117, t120, t121⟩, A170, H⟩ := H
    (try dsimp only at H)
    have A17 := Aside0.mk A170
    clear A170
    by_cases c18 : t121 = 0
    ·rw [if_pos c18] at H
     obtain ⟨c18b0, c18b1⟩ := eT_ c18
     clear c18
     by_cases c19 : (x106006_1.length : Int) > 0
     ·rw [if_pos c19] at H
      have c19b0 : decide (0 < (x106006_1.length : Int)) = true := decide_eq_true c19
      have c19b1 : decide (0 < x106006_1.length) = true := decide_eq_true (by omega)
      clear c19
      by_cases c20 : t106.toList = x0_1.toList
      ·rw [if_pos c20] at H
       obtain ⟨c20b0, c20b1⟩ := eT_ c20
       clear c20
       simp only [Option.some.injEq, Prod.mk.injEq] at H
       obtain ⟨rfl, rfl, rfl, rfl, rfl, rfl, rfl, rfl, rfl, rfl⟩ := H
       go_wp2_with (first | ((with_reducible refine gate_callee (f := 40) rfl ?_); refine goesL_ (some 17) rfl rfl Tryz.func40 (by kernel_rfl) rfl #[.string x0_1, .string ⟨#[32]⟩] rfl (by simp only [List.map_toArray, List.map_cons, List.map_nil] <;> rfl) ?_; (with_reducible refine (strings_TrimLeft.calls x0_1 (⟨#[32]⟩ : ByteArray) t106 _ A6.out).mono ?_); rintro e w21 ⟨rfl, hb⟩; refine ⟨_, rfl, ?_⟩; have n0_ := Aside0.mk (Kd.S_below (sl_ HO_106006.out) hb); have n1_ := Aside0.mk (blk_below (kl_ BK104.out) hb); have n2_ := Aside0.mk (blk_below (g := gb105) (o := .cells #[.string ⟨#[]⟩, .bool true, .int .i64 0, .int .i64 0, .string ⟨#[]⟩, .slice none 0 0, u106006, .slice none 0 0] 34 (0, 0)) (kl_ BK105.out) hb); have n3_ := Aside0.mk (below_step (bl_ HB.out) hb); clear HO_106006; clear BK104; clear BK105; clear HB; have HO_106006 := n0_; have BK104 := n1_; have BK105 := n2_; have HB := n3_; clear n0_ n1_ n2_ n3_; (try clear hb); (try clear hb2); (try clear hk); (try clear hi)) | ((with_reducible refine gate_callee (f := 41) rfl ?_); refine goesL_ (some 20) rfl rfl Tryz.func41 (by kernel_rfl) rfl #[.string t106, .string ⟨#[41]⟩] rfl (by simp only [List.map_toArray, List.map_cons, List.map_nil] <;> rfl) ?_; (with_reducible refine (strings_CutPrefix.calls t106 (⟨#[41]⟩ : ByteArray) t107 false _ A7.out).mono ?_); rintro e w' ⟨rfl, ⟨nd, rfl⟩⟩; refine ⟨_, rfl, ?_⟩; (try (rw [drewN_self w21]; generalize hq_ : World.drewN w21 _ = w21; have l_ := lq_ hq_; have n0_ := Aside0.mk (sl_ (W := w21) HO_106006.out); have n1_ := Aside0.mk (kl_ (W := w21) BK104.out); have n2_ := Aside0.mk (kl_ (W := w21) BK105.out); have n3_ := Aside0.mk (bl_ (W := w21) HB.out); clear HO_106006 BK104 BK105 HB hq_ l_; have HO_106006 := n0_; have BK104 := n1_; have BK105 := n2_; have HB := n3_; clear n0_ n1_ n2_ n3_))) | ((with_reducible refine gate_callee (f := 30) rfl ?_); refine goesL_ (some 37) rfl rfl Tryz.func30 (by kernel_rfl) rfl #[.string t106] rfl (by simp only [List.map_toArray, List.map_cons, List.map_nil] <;> rfl) ?_; (with_reducible refine (sfitem_Next.calls t106 t114 t115 t116 t117 t120 t121 _ A17.out).mono ?_); rintro e w22 ⟨v118, rfl, ho0, hb⟩; refine ⟨_, rfl, ?_⟩; have n0_ := Aside0.mk (Kd.S_elder' (sl_ HO_106006.out) (Kd.R_base ho0) hb); have n1_ := Aside0.mk (Kd.R_lower ho0 (below_size (bl_ HB.out))); have n2_ := Aside0.mk (blk_below (kl_ BK104.out) hb); have n3_ := Aside0.mk (blk_below (g := gb105) (o := .cells #[.string ⟨#[]⟩, .bool true, .int .i64 0, .int .i64 0, .string ⟨#[]⟩, .slice none 0 0, u106006, .slice none 0 0] 34 (0, 0)) (kl_ BK105.out) hb); have n4_ := Aside0.mk (below_step (bl_ HB.out) hb); clear HO_106006; clear BK104; clear BK105; clear HB; have HO_106006 := n0_; have HO119 := n1_; have BK104 := n2_; have BK105 := n3_; have HB := n4_; clear n0_ n1_ n2_ n3_ n4_; (try clear hb); (try clear hb2); (try clear hk); (try clear hi); (try clear ho0)) | ((with_reducible refine gate_dst (N := 12) rfl ?_); (try (refine gate_guard (by rfl) ?_; dsimp only)); refine box_event ?hg (N := 12) ?hd (cs := #[.int .i64 0, .int .i64 0, .string ⟨#[]⟩, .slice none 0 0]) (t := 31) ?hr ?_; (case hd => rfl); (case hg => rfl); (case hr => first | (go_simp; done) | (go_simp; rfl)); intro gb122 hg w23 hbox hb; have n0_ := Aside0.mk (Kd.S_below (Kd.S_elderB (sl_ HO_106006.out) gb122 (Nat.le_of_eq hg.symm)) hb); have n1_ := Aside0.mk (Kd.R_below (rl_ HO119.out) hb); have n2_ := Aside0.mk (blk_below (kl_ BK104.out) hb); have n3_ := Aside0.mk (blk_below (g := gb105) (o := .cells #[.string ⟨#[]⟩, .bool true, .int .i64 0, .int .i64 0, .string ⟨#[]⟩, .slice none 0 0, u106006, .slice none 0 0] 34 (0, 0)) (kl_ BK105.out) hb); have n4_ := Aside0.mk (below_step (bl_ HB.out) hb); have n5_ := Aside0.mk (hbox); have n6_ := Aside0.mk ((hg_ hg (bl_ HB.out))); have n7_ := Aside0.mk ((hg_ hg (bl_ HB.out))); have n8_ := Aside0.mk ((by rw [hg]; exact Nat.ne_of_lt (blk_lt (kl_ BK104.out)) : gb104 ≠ gb122)); have n9_ := Aside0.mk ((by rw [hg]; exact Nat.ne_of_gt (blk_lt (kl_ BK104.out)) : gb122 ≠ gb104)); have n10_ := Aside0.mk ((by rw [hg]; exact Nat.ne_of_lt (blk_lt (g := gb105) (o := .cells #[.string ⟨#[]⟩, .bool true, .int .i64 0, .int .i64 0, .string ⟨#[]⟩, .slice none 0 0, u106006, .slice none 0 0] 34 (0, 0)) (kl_ BK105.out)) : gb105 ≠ gb122)); have n11_ := Aside0.mk ((by rw [hg]; exact Nat.ne_of_gt (blk_lt (g := gb105) (o := .cells #[.string ⟨#[]⟩, .bool true, .int .i64 0, .int .i64 0, .string ⟨#[]⟩, .slice none 0 0, u106006, .slice none 0 0] 34 (0, 0)) (kl_ BK105.out)) : gb122 ≠ gb105)); clear HO_106006; clear HO119; clear BK104; clear BK105; clear HB; have HO_106006 := n0_; have HO119 := n1_; have BK104 := n2_; have BK105 := n3_; have HB := n4_; have BK122 := n5_; have GW122 := n6_; have GE122 := n7_; have NB104_122 := n8_; have NB122_104 := n9_; have NB105_122 := n10_; have NB122_105 := n11_; clear n0_ n1_ n2_ n3_ n4_ n5_ n6_ n7_ n8_ n9_ n10_ n11_; clear hb hbox hg; have hnb24 := NB122_104.out; have hnc24 := NB104_122.out; have hnb25 := NB122_105.out; have hnc25 := NB105_122.out; obtain ⟨hcz26_0, hcz26_1, hcz26_2, hcz26_3⟩ := c4_ BK122.out; obtain ⟨hfz26_0, hfz26_1, hfz26_2, hfz26_3⟩ := f4_ BK122.out; obtain ⟨Ao27, co27, eo27⟩ := Kd.R_slice HO119.out; subst eo27; have hnb28 := NB105_104.out; have hnc28 := NB104_105.out; obtain ⟨hcz29_0, hcz29_1, hcz29_2, hcz29_3, hcz29_4, hcz29_5, hcz29_6, hcz29_7⟩ := c8_ BK105.out; obtain ⟨hfz29_0, hfz29_1, hfz29_2, hfz29_3, hfz29_4, hfz29_5, hfz29_6, hfz29_7⟩ := f8_ BK105.out; obtain ⟨Ao30, co30, eo30⟩ := Kd.S_slice HO_106006.out; subst eo30; obtain ⟨hcz31_0, hcz31_1, hcz31_2, hcz31_3, hcz31_4, hcz31_5, hcz31_6, hcz31_7⟩ := c8_ BK104.out; obtain ⟨hfz31_0, hfz31_1, hfz31_2, hfz31_3, hfz31_4, hfz31_5, hfz31_6, hfz31_7⟩ := f8_ BK104.out))
       refine bodyPost_ret (results_ctt rfl _ _ gb104 34 #[.string ⟨#[]⟩, .bool true, .int .i64 0, .int .i64 0, .string ⟨#[]⟩, .slice none 0 0, .slice Ao30 x106006_1.length co30, .slice none 0 0] (0, 0) _ rfl (by (repeat refine kq_ ?_); refine blk_put (cs := #[.string ⟨#[]⟩, .bool true, .int .i64 0, .int .i64 0, .string ⟨#[]⟩, .slice none 0 0, .slice Ao30 x106006_1.length co30, .slice none 0 0]) ?_ 7 _ rfl; (repeat refine kq_ ?_); refine blk_put (cs := #[.string ⟨#[]⟩, .bool true, .int .i64 0, .int .i64 0, .string ⟨#[]⟩, .slice none 0 0, .slice none 0 0, .slice none 0 0]) ?_ 6 _ rfl; (repeat refine kq_ ?_); refine blk_put (cs := #[.string ⟨#[]⟩, .bool true, .int .i64 0, .int .i64 0, .string ⟨#[]⟩, .slice none 0 0, .slice none 0 0, .slice none 0 0]) ?_ 5 _ rfl; (repeat refine kq_ ?_); refine blk_put (cs := #[.string ⟨#[]⟩, .bool true, .int .i64 0, .int .i64 0, .string x105004_1, .slice none 0 0, .slice none 0 0, .slice none 0 0]) ?_ 4 _ rfl; (repeat refine kq_ ?_); refine blk_put (cs := #[.string ⟨#[]⟩, .bool true, .int .i64 0, .int .i64 x105003_1, .string x105004_1, .slice none 0 0, .slice none 0 0, .slice none 0 0]) ?_ 3 _ rfl; (repeat refine kq_ ?_); refine blk_put (cs := #[.string ⟨#[]⟩, .bool true, .int .i64 x105002_1, .int .i64 x105003_1, .string x105004_1, .slice none 0 0, .slice none 0 0, .slice none 0 0]) ?_ 2 _ rfl; (repeat refine kq_ ?_); refine blk_put (cs := #[.string ⟨#[]⟩, .bool x105001_1, .int .i64 x105002_1, .int .i64 x105003_1, .string x105004_1, .slice none 0 0, .slice none 0 0, .slice none 0 0]) ?_ 1 _ rfl; (repeat refine kq_ ?_); refine blk_put (cs := #[.string x105000_1, .bool x105001_1, .int .i64 x105002_1, .int .i64 x105003_1, .string x105004_1, .slice none 0 0, .slice none 0 0, .slice none 0 0]) ?_ 0 _ rfl; repeat (first | refine blk_far ?_ NB104_122.out _ | exact BK104.out)) Tryz.underlying34 rfl (by kernel_rfl)) rfl ?_
       exact ⟨_, _, _, by first | rfl | (simp [errW_none, errW_some] <;> rfl) | (simp [*, errW_none, errW_some] <;> rfl) | (simp [q_ne_nil]; done), by first | exact Kd.R_nil _ _ _ _ _ | exact Kd.S_nil _ _ _ _ _, by (with_reducible repeat (first | apply Kd.S_alloc | apply Kd.S_drewN | apply Kd.S_drew)); exact Kd.S_mono (Kd.S_far (p := ⟨gb104, 7, none⟩) (Kd.S_far (p := ⟨gb104, 6, none⟩) (Kd.S_far (p := ⟨gb104, 5, none⟩) (Kd.S_far (p := ⟨gb104, 4, none⟩) (Kd.S_far (p := ⟨gb104, 3, none⟩) (Kd.S_far (p := ⟨gb104, 2, none⟩) (Kd.S_far (p := ⟨gb104, 1, none⟩) (Kd.S_far (p := ⟨gb104, 0, none⟩) (Kd.S_far (p := ⟨gb122, 3, none⟩) (Kd.S_far (p := ⟨gb122, 2, none⟩) (Kd.S_far (p := ⟨gb122, 1, none⟩) (Kd.S_far (p := ⟨gb122, 0, none⟩) (Kd.S_types (Kd.S_mono HO_106006.out (fun k_ hk => (⟨hk, hk.2⟩ : _ ∧ k_ ≠ gb122))) BK104.out (by decide)) (fun _ hk => hk.1.2) (.int .i64 t114)) (fun _ hk => hk.1.2) (.int .i64 t115)) (fun _ hk => hk.1.2) (.string t116)) (fun _ hk => hk.1.2) (.slice Ao27 t117.length co27)) (fun _ hk => hk.2) (.string ⟨#[]⟩)) (fun _ hk => hk.2) (.bool true)) (fun _ hk => hk.2) (.int .i64 0)) (fun _ hk => hk.2) (.int .i64 0)) (fun _ hk => hk.2) (.string ⟨#[]⟩)) (fun _ hk => hk.2) (.slice none 0 0)) (fun _ hk => hk.2) (.slice Ao30 x106006_1.length co30)) (fun _ hk => hk.2) (.slice none 0 0)) (fun _ hk => ⟨(by simp [Value.ownBlock]), (by simp [Value.ownBlock])⟩), by first | exact Kd.R_nil _ _ _ _ _ | exact Kd.S_nil _ _ _ _ _, by repeat (first | (with_reducible first | exact HB.out | apply below_alloc | apply pw_below_drewN | apply below_drew1 | refine below_set ?_ GE104.out | refine below_set ?_ GE105.out | refine below_set ?_ GE122.out) | exact HB.out)⟩
      ·rw [if_neg c20] at H
       obtain ⟨c20b0, c20b1⟩ := eF_ c20
       by_cases c32 : x106006_1.length < 2513169434916
       ·rw [if_pos c32] at H
        have LMc32 := Aside0.mk c32
        clear c32
        obtain ⟨y123, hy123⟩ : ∃ y_ : List (S31), y_ = (x106006_1 ++ [(⟨t114, t115, t116, t117⟩ : S31)]) := ⟨_, rfl⟩
        replace H : (sfield_inner.l0 k1 t120 (⟨#[]⟩ : ByteArray) true 0 0 (⟨#[]⟩ : ByteArray) y123) = some (r1, r2, r3, r4, r5, r6, r7, r8, r9, r10) := by first | (rw [hy123]; with_reducible exact H) | (have H2_ := (Option.bind_some _ _).symm.trans H; rw [hy123]; with_reducible exact H2_) | (have H2_ := (Option.bind_some _ _).symm.trans H; with_reducible exact H2_) | with_reducible exact H | (rw [hy123]; exact H) | exact H
        have Ny123 := Aside0.mk hy123
        clear hy123
        have H' := Aside0.mk H
        clear H
        go_wp2_with (first | ((with_reducible refine gate_callee (f := 40) rfl ?_); refine goesL_ (some 17) rfl rfl Tryz.func40 (by kernel_rfl) rfl #[.string x0_1, .string ⟨#[32]⟩] rfl (by simp only [List.map_toArray, List.map_cons, List.map_nil] <;> rfl) ?_; (with_reducible refine (strings_TrimLeft.calls x0_1 (⟨#[32]⟩ : ByteArray) t106 _ A6.out).mono ?_); rintro e w33 ⟨rfl, hb⟩; refine ⟨_, rfl, ?_⟩; have n0_ := Aside0.mk (Kd.S_below (sl_ HO_106006.out) hb); have n1_ := Aside0.mk (blk_below (kl_ BK104.out) hb); have n2_ := Aside0.mk (blk_below (g := gb105) (o := .cells #[.string ⟨#[]⟩, .bool true, .int .i64 0, .int .i64 0, .string ⟨#[]⟩, .slice none 0 0, u106006, .slice none 0 0] 34 (0, 0)) (kl_ BK105.out) hb); have n3_ := Aside0.mk (below_step (bl_ HB.out) hb); clear HO_106006; clear BK104; clear BK105; clear HB; have HO_106006 := n0_; have BK104 := n1_; have BK105 := n2_; have HB := n3_; clear n0_ n1_ n2_ n3_; (try clear hb); (try clear hb2); (try clear hk); (try clear hi)) | ((with_reducible refine gate_callee (f := 41) rfl ?_); refine goesL_ (some 20) rfl rfl Tryz.func41 (by kernel_rfl) rfl #[.string t106, .string ⟨#[41]⟩] rfl (by simp only [List.map_toArray, List.map_cons, List.map_nil] <;> rfl) ?_; (with_reducible refine (strings_CutPrefix.calls t106 (⟨#[41]⟩ : ByteArray) t107 false _ A7.out).mono ?_); rintro e w' ⟨rfl, ⟨nd, rfl⟩⟩; refine ⟨_, rfl, ?_⟩; (try (rw [drewN_self w33]; generalize hq_ : World.drewN w33 _ = w33; have l_ := lq_ hq_; have n0_ := Aside0.mk (sl_ (W := w33) HO_106006.out); have n1_ := Aside0.mk (kl_ (W := w33) BK104.out); have n2_ := Aside0.mk (kl_ (W := w33) BK105.out); have n3_ := Aside0.mk (bl_ (W := w33) HB.out); clear HO_106006 BK104 BK105 HB hq_ l_; have HO_106006 := n0_; have BK104 := n1_; have BK105 := n2_; have HB := n3_; clear n0_ n1_ n2_ n3_))) | ((with_reducible refine gate_callee (f := 30) rfl ?_); refine goesL_ (some 37) rfl rfl Tryz.func30 (by kernel_rfl) rfl #[.string t106] rfl (by simp only [List.map_toArray, List.map_cons, List.map_nil] <;> rfl) ?_; (with_reducible refine (sfitem_Next.calls t106 t114 t115 t116 t117 t120 t121 _ A17.out).mono ?_); rintro e w34 ⟨v118, rfl, ho0, hb⟩; refine ⟨_, rfl, ?_⟩; have n0_ := Aside0.mk (Kd.S_elder' (sl_ HO_106006.out) (Kd.R_base ho0) hb); have n1_ := Aside0.mk (Kd.R_lower ho0 (below_size (bl_ HB.out))); have n2_ := Aside0.mk (blk_below (kl_ BK104.out) hb); have n3_ := Aside0.mk (blk_below (g := gb105) (o := .cells #[.string ⟨#[]⟩, .bool true, .int .i64 0, .int .i64 0, .string ⟨#[]⟩, .slice none 0 0, u106006, .slice none 0 0] 34 (0, 0)) (kl_ BK105.out) hb); have n4_ := Aside0.mk (below_step (bl_ HB.out) hb); clear HO_106006; clear BK104; clear BK105; clear HB; have HO_106006 := n0_; have HO119 := n1_; have BK104 := n2_; have BK105 := n3_; have HB := n4_; clear n0_ n1_ n2_ n3_ n4_; (try clear hb); (try clear hb2); (try clear hk); (try clear hi); (try clear ho0)) | ((with_reducible refine gate_dst (N := 12) rfl ?_); (try (refine gate_guard (by rfl) ?_; dsimp only)); refine box_event ?hg (N := 12) ?hd (cs := #[.int .i64 0, .int .i64 0, .string ⟨#[]⟩, .slice none 0 0]) (t := 31) ?hr ?_; (case hd => rfl); (case hg => rfl); (case hr => first | (go_simp; done) | (go_simp; rfl)); intro gb122 hg w35 hbox hb; have n0_ := Aside0.mk (Kd.S_below (Kd.S_elderB (sl_ HO_106006.out) gb122 (Nat.le_of_eq hg.symm)) hb); have n1_ := Aside0.mk (Kd.R_below (rl_ HO119.out) hb); have n2_ := Aside0.mk (blk_below (kl_ BK104.out) hb); have n3_ := Aside0.mk (blk_below (g := gb105) (o := .cells #[.string ⟨#[]⟩, .bool true, .int .i64 0, .int .i64 0, .string ⟨#[]⟩, .slice none 0 0, u106006, .slice none 0 0] 34 (0, 0)) (kl_ BK105.out) hb); have n4_ := Aside0.mk (below_step (bl_ HB.out) hb); have n5_ := Aside0.mk (hbox); have n6_ := Aside0.mk ((hg_ hg (bl_ HB.out))); have n7_ := Aside0.mk ((hg_ hg (bl_ HB.out))); have n8_ := Aside0.mk ((by rw [hg]; exact Nat.ne_of_lt (blk_lt (kl_ BK104.out)) : gb104 ≠ gb122)); have n9_ := Aside0.mk ((by rw [hg]; exact Nat.ne_of_gt (blk_lt (kl_ BK104.out)) : gb122 ≠ gb104)); have n10_ := Aside0.mk ((by rw [hg]; exact Nat.ne_of_lt (blk_lt (g := gb105) (o := .cells #[.string ⟨#[]⟩, .bool true, .int .i64 0, .int .i64 0, .string ⟨#[]⟩, .slice none 0 0, u106006, .slice none 0 0] 34 (0, 0)) (kl_ BK105.out)) : gb105 ≠ gb122)); have n11_ := Aside0.mk ((by rw [hg]; exact Nat.ne_of_gt (blk_lt (g := gb105) (o := .cells #[.string ⟨#[]⟩, .bool true, .int .i64 0, .int .i64 0, .string ⟨#[]⟩, .slice none 0 0, u106006, .slice none 0 0] 34 (0, 0)) (kl_ BK105.out)) : gb122 ≠ gb105)); clear HO_106006; clear HO119; clear BK104; clear BK105; clear HB; have HO_106006 := n0_; have HO119 := n1_; have BK104 := n2_; have BK105 := n3_; have HB := n4_; have BK122 := n5_; have GW122 := n6_; have GE122 := n7_; have NB104_122 := n8_; have NB122_104 := n9_; have NB105_122 := n10_; have NB122_105 := n11_; clear n0_ n1_ n2_ n3_ n4_ n5_ n6_ n7_ n8_ n9_ n10_ n11_; clear hb hbox hg; have hnb36 := NB122_104.out; have hnc36 := NB104_122.out; have hnb37 := NB122_105.out; have hnc37 := NB105_122.out; obtain ⟨hcz38_0, hcz38_1, hcz38_2, hcz38_3⟩ := c4_ BK122.out; obtain ⟨hfz38_0, hfz38_1, hfz38_2, hfz38_3⟩ := f4_ BK122.out; obtain ⟨Ao39, co39, eo39⟩ := Kd.R_slice HO119.out; subst eo39) | ((with_reducible refine gate_store (t := 31) (p := 12) rfl ?_); refine store_event (t := 31) (p := 12) (v := ?vo_w40) (w1 := ((((w35.setCell ⟨gb122, 0, none⟩ (.int .i64 t114)).setCell ⟨gb122, 1, none⟩ (.int .i64 t115)).setCell ⟨gb122, 2, none⟩ (.string t116)).setCell ⟨gb122, 3, none⟩ (.slice Ao39 t117.length co39))) ?hg ?ho ?hn ?hr ?_; (case ho => rfl); (case hg => rfl); (case hn => rfl); (case hr => first | (go_simp; done) | (go_simp; rfl)); intro w40 hw; have n0_ : Aside0 (Kd.S k31 31 w40 w.heap.size (fun k_ => some k_ ≠ (.slice Ao39 t117.length co39 : Value).ownBlock ∧ k_ ≠ gb122) u106006 x106006_1) := ⟨(by rw [hw]; exact (by (with_reducible repeat (first | apply Kd.S_alloc | apply Kd.S_drewN | apply Kd.S_drew)); exact Kd.S_mono (Kd.S_far (p := ⟨gb122, 3, none⟩) (Kd.S_far (p := ⟨gb122, 2, none⟩) (Kd.S_far (p := ⟨gb122, 1, none⟩) (Kd.S_far (p := ⟨gb122, 0, none⟩) (Kd.S_mono HO_106006.out (fun k_ hk => (⟨hk, hk.2⟩ : _ ∧ k_ ≠ gb122))) (fun _ hk => hk.2) (.int .i64 t114)) (fun _ hk => hk.2) (.int .i64 t115)) (fun _ hk => hk.2) (.string t116)) (fun _ hk => hk.2) (.slice Ao39 t117.length co39)) (fun _ hk => ⟨hk.1.1.2, hk.1.2⟩)))⟩; have n1_ : Aside0 (Kd.R k60 60 w40 w.heap.size (fun _ => True) (.slice Ao39 t117.length co39) t117) := ⟨(by rw [hw]; exact (by (with_reducible repeat (first | apply Kd.R_alloc | apply Kd.R_drewN | apply Kd.R_drew)); exact Kd.R_mono (Kd.R_far (p := ⟨gb122, 3, none⟩) (Kd.R_far (p := ⟨gb122, 2, none⟩) (Kd.R_far (p := ⟨gb122, 1, none⟩) (Kd.R_far (p := ⟨gb122, 0, none⟩) (Kd.R_types HO119.out BK122.out (by decide)) (fun _ hk => hk.2) (.int .i64 t114)) (fun _ hk => hk.2) (.int .i64 t115)) (fun _ hk => hk.2) (.string t116)) (fun _ hk => hk.2) (.slice Ao39 t117.length co39)) (fun _ hk => trivial)))⟩; have n2_ : Aside0 (w40.heap[gb104]? = some (.cells #[.string x105000_1, .bool x105001_1, .int .i64 x105002_1, .int .i64 x105003_1, .string x105004_1, .slice none 0 0, .slice none 0 0, .slice none 0 0] 34 (0, 0))) := ⟨(by rw [hw]; exact (by repeat (first | refine blk_far ?_ NB104_122.out _ | exact BK104.out)))⟩; have n3_ : Aside0 (w40.heap[gb105]? = some (.cells #[.string ⟨#[]⟩, .bool true, .int .i64 0, .int .i64 0, .string ⟨#[]⟩, .slice none 0 0, u106006, .slice none 0 0] 34 (0, 0))) := ⟨(by rw [hw]; exact (by repeat (first | refine blk_far ?_ NB105_122.out _ | exact BK105.out)))⟩; have n4_ : Aside0 (w40.heap[gb122]? = some (.cells #[.int .i64 t114, .int .i64 t115, .string t116, .slice Ao39 t117.length co39] 31 (0, 0))) := ⟨(by rw [hw]; exact (by (repeat refine kq_ ?_); refine blk_put (cs := #[.int .i64 t114, .int .i64 t115, .string t116, .slice none 0 0]) ?_ 3 _ rfl; (repeat refine kq_ ?_); refine blk_put (cs := #[.int .i64 t114, .int .i64 t115, .string ⟨#[]⟩, .slice none 0 0]) ?_ 2 _ rfl; (repeat refine kq_ ?_); refine blk_put (cs := #[.int .i64 t114, .int .i64 0, .string ⟨#[]⟩, .slice none 0 0]) ?_ 1 _ rfl; (repeat refine kq_ ?_); refine blk_put (cs := #[.int .i64 0, .int .i64 0, .string ⟨#[]⟩, .slice none 0 0]) ?_ 0 _ rfl; (repeat refine kq_ ?_); exact BK122.out))⟩; have n5_ : Aside0 (Below w.heap.size w w40) := ⟨(by rw [hw]; exact (by repeat (first | (with_reducible first | exact HB.out | apply below_alloc | apply pw_below_drewN | apply below_drew1 | refine below_set ?_ GE104.out | refine below_set ?_ GE105.out | refine below_set ?_ GE122.out) | exact HB.out)))⟩; clear hw; clear HO_106006; clear HO119; clear BK104; clear BK105; clear BK122; clear HB; have HO_106006 := n0_; have HO119 := n1_; have BK104 := n2_; have BK105 := n3_; have BK122 := n4_; have HB := n5_; clear n0_ n1_ n2_ n3_ n4_ n5_; have hnb41 := NB105_104.out; have hnc41 := NB104_105.out; obtain ⟨hcz42_0, hcz42_1, hcz42_2, hcz42_3, hcz42_4, hcz42_5, hcz42_6, hcz42_7⟩ := c8_ BK105.out; obtain ⟨hfz42_0, hfz42_1, hfz42_2, hfz42_3, hfz42_4, hfz42_5, hfz42_6, hfz42_7⟩ := f8_ BK105.out; obtain ⟨Ao43, co43, eo43⟩ := Kd.S_slice HO_106006.out; subst eo43; obtain ⟨hcz44_0, hcz44_1, hcz44_2, hcz44_3⟩ := c4_ BK122.out; obtain ⟨hfz44_0, hfz44_1, hfz44_2, hfz44_3⟩ := f4_ BK122.out) | ((with_reducible refine gate_builtin (b := .append) (xs := #[.tmp 56, .tmp 58]) rfl ?_); (try (refine gate_guard (by rfl) ?_; dsimp only)); at_builtin; refine Kd.S_append k31 (w0 := w) w.heap.size rfl (.tmp 56) (.tmp 58) 32 31 (.agg #[(.int .i64 0), (.int .i64 0), (.string ⟨#[]⟩), (.slice none 0 0)]) 56 rfl Tryz.underlying32 info31 rfl (by decide) (by omega) (.slice Ao43 x106006_1.length co43) x106006_1 (⟨t114, t115, t116, t117⟩ : S31) [.int .i64 t114, .int .i64 t115, .string t116, .slice Ao39 t117.length co39] (fun k_ => k_ ≠ gb122) (fun k_ => some k_ = (.slice Ao39 t117.length co39 : Value).ownBlock) rfl rfl ?aP (fun k_ hk_ => ((Kd.R_mono (ok' := fun k_ => ((fun k_ => k_ ≠ gb122)) k_ ∧ some k_ ≠ (.slice Ao43 x106006_1.length co43 : Value).ownBlock) (Kd.R_types (Kd.R_apart' (HO119.out) (Kd.S_typed HO_106006.out) (by decide)) BK122.out (by decide)) (fun k_ hk => ⟨hk.2, hk.1.2⟩))).1 k_ hk_.symm) ?aF ?aO ?aB ?aS ?aL ?_; (case aP => exact k31_mkM _ _ _ (⟨t114, t115, t116, t117⟩ : S31) (Kd.R_mono (Kd.R_tight rfl (Kd.R_mono (ok' := fun k_ => ((fun k_ => k_ ≠ gb122)) k_ ∧ some k_ ≠ (.slice Ao43 x106006_1.length co43 : Value).ownBlock) (Kd.R_types (Kd.R_apart' (HO119.out) (Kd.S_typed HO_106006.out) (by decide)) BK122.out (by decide)) (fun k_ hk => ⟨hk.2, hk.1.2⟩))) (fun _ h_ => h_))); (case aB => exact (bl_ HB.out)); (case aF => exact (fun k_ hk => Kd.freshB (kl_ BK122.out) k_ hk)); (case aO => exact (by (with_reducible repeat (first | apply Kd.S_alloc | apply Kd.S_drewN | apply Kd.S_drew)); exact Kd.S_mono HO_106006.out (fun k_ hk => ⟨hk.2, fun e_ => hk.1 e_⟩))); (case aS => exact (below_size (bl_ HB.out))); (case aL => have := LMc32.out; omega); intro v124 w45 ho hb hg hat; rw [← Ny123.out] at ho; have n0_ := Aside0.mk (blk_grown (kl_ BK104.out) hg (Kd.S_ne HO_106006.out BK104.out (by decide))); have n1_ := Aside0.mk (blk_grown (g := gb105) (o := .cells #[.string ⟨#[]⟩, .bool true, .int .i64 0, .int .i64 0, .string ⟨#[]⟩, .slice none 0 0, .slice Ao43 x106006_1.length co43, .slice none 0 0] 34 (0, 0)) (kl_ BK105.out) hg (Kd.S_ne HO_106006.out BK105.out (by decide))); have n2_ := Aside0.mk (blk_grown (kl_ BK122.out) hg (Kd.S_away HO_106006.out (fun _ hk => hk.2))); have n3_ := Aside0.mk (hb); have n4_ := Aside0.mk (ho); clear BK104; clear BK105; clear BK122; clear HB; clear HO_106006; clear HO119; have BK104 := n0_; have BK105 := n1_; have BK122 := n2_; have HB := n3_; have HO125 := n4_; clear n0_ n1_ n2_ n3_ n4_; clear ho hb hg hat; obtain ⟨Ao46, co46, eo46⟩ := Kd.S_slice HO125.out; subst eo46; obtain ⟨hcz47_0, hcz47_1, hcz47_2, hcz47_3, hcz47_4, hcz47_5, hcz47_6, hcz47_7⟩ := c8_ BK105.out; obtain ⟨hfz47_0, hfz47_1, hfz47_2, hfz47_3, hfz47_4, hfz47_5, hfz47_6, hfz47_7⟩ := f8_ BK105.out))
        go_roundg k1
        case measure => have := HK1.out; omega
        case rel => exact ⟨(t120), (x105000_1), (x105001_1), (x105002_1), (x105003_1), (x105004_1), (y123), (.slice Ao46 y123.length co46), (by first | rfl | simp [*]), H', ⟨by have := HK1.out; omega⟩, ⟨by (with_reducible repeat (first | apply Kd.S_alloc | apply Kd.S_drewN | apply Kd.S_drew)); exact Kd.S_mono (Kd.S_far (p := ⟨gb105, 6, none⟩) (Kd.S_types HO125.out BK105.out (by decide)) (fun _ hk => hk.2) (.slice Ao46 y123.length co46)) (fun _ hk => trivial)⟩, ⟨by (repeat refine kq_ ?_); refine blk_far ?_ NB104_105.out _; (repeat refine kq_ ?_); exact BK104.out⟩, ⟨by (repeat refine kq_ ?_); refine blk_put (cs := #[.string ⟨#[]⟩, .bool true, .int .i64 0, .int .i64 0, .string ⟨#[]⟩, .slice none 0 0, .slice Ao43 x106006_1.length co43, .slice none 0 0]) ?_ 6 _ rfl; (repeat refine kq_ ?_); exact BK105.out⟩, ⟨by repeat (first | (with_reducible first | exact HB.out | apply below_alloc | apply pw_below_drewN | apply below_drew1 | refine below_set ?_ GE104.out | refine below_set ?_ GE105.out | refine below_set ?_ GE122.out) | exact HB.out)⟩⟩
       ·rw [if_neg c32] at H
        exact absurd H (by simp)
     ·rw [if_neg c19] at H
      have c19b0 : decide (0 < (x106006_1.length : Int)) = false := decide_eq_false c19
      have c19b1 : decide (0 < x106006_1.length) = false := decide_eq_false (by omega)
      clear c19
      by_cases c48 : x106006_1.length < 2513169434916
      ·rw [if_pos c48] at H
       have LMc48 := Aside0.mk c48
       clear c48
       obtain ⟨y126, hy126⟩ : ∃ y_ : List (S31), y_ = (x106006_1 ++ [(⟨t114, t115, t116, t117⟩ : S31)]) := ⟨_, rfl⟩
       replace H : (sfield_inner.l0 k1 t120 (⟨#[]⟩ : ByteArray) true 0 0 (⟨#[]⟩ : ByteArray) y126) = some (r1, r2, r3, r4, r5, r6, r7, r8, r9, r10) := by first | (rw [hy126]; with_reducible exact H) | (have H2_ := (Option.bind_some _ _).symm.trans H; rw [hy126]; with_reducible exact H2_) | (have H2_ := (Option.bind_some _ _).symm.trans H; with_reducible exact H2_) | with_reducible exact H | (rw [hy126]; exact H) | exact H
       have Ny126 := Aside0.mk hy126
       clear hy126
       have H' := Aside0.mk H
       clear H
       go_wp2_with (first | ((with_reducible refine gate_callee (f := 40) rfl ?_); refine goesL_ (some 17) rfl rfl Tryz.func40 (by kernel_rfl) rfl #[.string x0_1, .string ⟨#[32]⟩] rfl (by simp only [List.map_toArray, List.map_cons, List.map_nil] <;> rfl) ?_; (with_reducible refine (strings_TrimLeft.calls x0_1 (⟨#[32]⟩ : ByteArray) t106 _ A6.out).mono ?_); rintro e w49 ⟨rfl, hb⟩; refine ⟨_, rfl, ?_⟩; have n0_ := Aside0.mk (Kd.S_below (sl_ HO_106006.out) hb); have n1_ := Aside0.mk (blk_below (kl_ BK104.out) hb); have n2_ := Aside0.mk (blk_below (g := gb105) (o := .cells #[.string ⟨#[]⟩, .bool true, .int .i64 0, .int .i64 0, .string ⟨#[]⟩, .slice none 0 0, u106006, .slice none 0 0] 34 (0, 0)) (kl_ BK105.out) hb); have n3_ := Aside0.mk (below_step (bl_ HB.out) hb); clear HO_106006; clear BK104; clear BK105; clear HB; have HO_106006 := n0_; have BK104 := n1_; have BK105 := n2_; have HB := n3_; clear n0_ n1_ n2_ n3_; (try clear hb); (try clear hb2); (try clear hk); (try clear hi)) | ((with_reducible refine gate_callee (f := 41) rfl ?_); refine goesL_ (some 20) rfl rfl Tryz.func41 (by kernel_rfl) rfl #[.string t106, .string ⟨#[41]⟩] rfl (by simp only [List.map_toArray, List.map_cons, List.map_nil] <;> rfl) ?_; (with_reducible refine (strings_CutPrefix.calls t106 (⟨#[41]⟩ : ByteArray) t107 false _ A7.out).mono ?_); rintro e w' ⟨rfl, ⟨nd, rfl⟩⟩; refine ⟨_, rfl, ?_⟩; (try (rw [drewN_self w49]; generalize hq_ : World.drewN w49 _ = w49; have l_ := lq_ hq_; have n0_ := Aside0.mk (sl_ (W := w49) HO_106006.out); have n1_ := Aside0.mk (kl_ (W := w49) BK104.out); have n2_ := Aside0.mk (kl_ (W := w49) BK105.out); have n3_ := Aside0.mk (bl_ (W := w49) HB.out); clear HO_106006 BK104 BK105 HB hq_ l_; have HO_106006 := n0_; have BK104 := n1_; have BK105 := n2_; have HB := n3_; clear n0_ n1_ n2_ n3_))) | ((with_reducible refine gate_callee (f := 30) rfl ?_); refine goesL_ (some 37) rfl rfl Tryz.func30 (by kernel_rfl) rfl #[.string t106] rfl (by simp only [List.map_toArray, List.map_cons, List.map_nil] <;> rfl) ?_; (with_reducible refine (sfitem_Next.calls t106 t114 t115 t116 t117 t120 t121 _ A17.out).mono ?_); rintro e w50 ⟨v118, rfl, ho0, hb⟩; refine ⟨_, rfl, ?_⟩; have n0_ := Aside0.mk (Kd.S_elder' (sl_ HO_106006.out) (Kd.R_base ho0) hb); have n1_ := Aside0.mk (Kd.R_lower ho0 (below_size (bl_ HB.out))); have n2_ := Aside0.mk (blk_below (kl_ BK104.out) hb); have n3_ := Aside0.mk (blk_below (g := gb105) (o := .cells #[.string ⟨#[]⟩, .bool true, .int .i64 0, .int .i64 0, .string ⟨#[]⟩, .slice none 0 0, u106006, .slice none 0 0] 34 (0, 0)) (kl_ BK105.out) hb); have n4_ := Aside0.mk (below_step (bl_ HB.out) hb); clear HO_106006; clear BK104; clear BK105; clear HB; have HO_106006 := n0_; have HO119 := n1_; have BK104 := n2_; have BK105 := n3_; have HB := n4_; clear n0_ n1_ n2_ n3_ n4_; (try clear hb); (try clear hb2); (try clear hk); (try clear hi); (try clear ho0)) | ((with_reducible refine gate_dst (N := 12) rfl ?_); (try (refine gate_guard (by rfl) ?_; dsimp only)); refine box_event ?hg (N := 12) ?hd (cs := #[.int .i64 0, .int .i64 0, .string ⟨#[]⟩, .slice none 0 0]) (t := 31) ?hr ?_; (case hd => rfl); (case hg => rfl); (case hr => first | (go_simp; done) | (go_simp; rfl)); intro gb122 hg w51 hbox hb; have n0_ := Aside0.mk (Kd.S_below (Kd.S_elderB (sl_ HO_106006.out) gb122 (Nat.le_of_eq hg.symm)) hb); have n1_ := Aside0.mk (Kd.R_below (rl_ HO119.out) hb); have n2_ := Aside0.mk (blk_below (kl_ BK104.out) hb); have n3_ := Aside0.mk (blk_below (g := gb105) (o := .cells #[.string ⟨#[]⟩, .bool true, .int .i64 0, .int .i64 0, .string ⟨#[]⟩, .slice none 0 0, u106006, .slice none 0 0] 34 (0, 0)) (kl_ BK105.out) hb); have n4_ := Aside0.mk (below_step (bl_ HB.out) hb); have n5_ := Aside0.mk (hbox); have n6_ := Aside0.mk ((hg_ hg (bl_ HB.out))); have n7_ := Aside0.mk ((hg_ hg (bl_ HB.out))); have n8_ := Aside0.mk ((by rw [hg]; exact Nat.ne_of_lt (blk_lt (kl_ BK104.out)) : gb104 ≠ gb122)); have n9_ := Aside0.mk ((by rw [hg]; exact Nat.ne_of_gt (blk_lt (kl_ BK104.out)) : gb122 ≠ gb104)); have n10_ := Aside0.mk ((by rw [hg]; exact Nat.ne_of_lt (blk_lt (g := gb105) (o := .cells #[.string ⟨#[]⟩, .bool true, .int .i64 0, .int .i64 0, .string ⟨#[]⟩, .slice none 0 0, u106006, .slice none 0 0] 34 (0, 0)) (kl_ BK105.out)) : gb105 ≠ gb122)); have n11_ := Aside0.mk ((by rw [hg]; exact Nat.ne_of_gt (blk_lt (g := gb105) (o := .cells #[.string ⟨#[]⟩, .bool true, .int .i64 0, .int .i64 0, .string ⟨#[]⟩, .slice none 0 0, u106006, .slice none 0 0] 34 (0, 0)) (kl_ BK105.out)) : gb122 ≠ gb105)); clear HO_106006; clear HO119; clear BK104; clear BK105; clear HB; have HO_106006 := n0_; have HO119 := n1_; have BK104 := n2_; have BK105 := n3_; have HB := n4_; have BK122 := n5_; have GW122 := n6_; have GE122 := n7_; have NB104_122 := n8_; have NB122_104 := n9_; have NB105_122 := n10_; have NB122_105 := n11_; clear n0_ n1_ n2_ n3_ n4_ n5_ n6_ n7_ n8_ n9_ n10_ n11_; clear hb hbox hg; have hnb52 := NB122_104.out; have hnc52 := NB104_122.out; have hnb53 := NB122_105.out; have hnc53 := NB105_122.out; obtain ⟨hcz54_0, hcz54_1, hcz54_2, hcz54_3⟩ := c4_ BK122.out; obtain ⟨hfz54_0, hfz54_1, hfz54_2, hfz54_3⟩ := f4_ BK122.out; obtain ⟨Ao55, co55, eo55⟩ := Kd.R_slice HO119.out; subst eo55) | ((with_reducible refine gate_store (t := 31) (p := 12) rfl ?_); refine store_event (t := 31) (p := 12) (v := ?vo_w56) (w1 := ((((w51.setCell ⟨gb122, 0, none⟩ (.int .i64 t114)).setCell ⟨gb122, 1, none⟩ (.int .i64 t115)).setCell ⟨gb122, 2, none⟩ (.string t116)).setCell ⟨gb122, 3, none⟩ (.slice Ao55 t117.length co55))) ?hg ?ho ?hn ?hr ?_; (case ho => rfl); (case hg => rfl); (case hn => rfl); (case hr => first | (go_simp; done) | (go_simp; rfl)); intro w56 hw; have n0_ : Aside0 (Kd.S k31 31 w56 w.heap.size (fun k_ => some k_ ≠ (.slice Ao55 t117.length co55 : Value).ownBlock ∧ k_ ≠ gb122) u106006 x106006_1) := ⟨(by rw [hw]; exact (by (with_reducible repeat (first | apply Kd.S_alloc | apply Kd.S_drewN | apply Kd.S_drew)); exact Kd.S_mono (Kd.S_far (p := ⟨gb122, 3, none⟩) (Kd.S_far (p := ⟨gb122, 2, none⟩) (Kd.S_far (p := ⟨gb122, 1, none⟩) (Kd.S_far (p := ⟨gb122, 0, none⟩) (Kd.S_mono HO_106006.out (fun k_ hk => (⟨hk, hk.2⟩ : _ ∧ k_ ≠ gb122))) (fun _ hk => hk.2) (.int .i64 t114)) (fun _ hk => hk.2) (.int .i64 t115)) (fun _ hk => hk.2) (.string t116)) (fun _ hk => hk.2) (.slice Ao55 t117.length co55)) (fun _ hk => ⟨hk.1.1.2, hk.1.2⟩)))⟩; have n1_ : Aside0 (Kd.R k60 60 w56 w.heap.size (fun _ => True) (.slice Ao55 t117.length co55) t117) := ⟨(by rw [hw]; exact (by (with_reducible repeat (first | apply Kd.R_alloc | apply Kd.R_drewN | apply Kd.R_drew)); exact Kd.R_mono (Kd.R_far (p := ⟨gb122, 3, none⟩) (Kd.R_far (p := ⟨gb122, 2, none⟩) (Kd.R_far (p := ⟨gb122, 1, none⟩) (Kd.R_far (p := ⟨gb122, 0, none⟩) (Kd.R_types HO119.out BK122.out (by decide)) (fun _ hk => hk.2) (.int .i64 t114)) (fun _ hk => hk.2) (.int .i64 t115)) (fun _ hk => hk.2) (.string t116)) (fun _ hk => hk.2) (.slice Ao55 t117.length co55)) (fun _ hk => trivial)))⟩; have n2_ : Aside0 (w56.heap[gb104]? = some (.cells #[.string x105000_1, .bool x105001_1, .int .i64 x105002_1, .int .i64 x105003_1, .string x105004_1, .slice none 0 0, .slice none 0 0, .slice none 0 0] 34 (0, 0))) := ⟨(by rw [hw]; exact (by repeat (first | refine blk_far ?_ NB104_122.out _ | exact BK104.out)))⟩; have n3_ : Aside0 (w56.heap[gb105]? = some (.cells #[.string ⟨#[]⟩, .bool true, .int .i64 0, .int .i64 0, .string ⟨#[]⟩, .slice none 0 0, u106006, .slice none 0 0] 34 (0, 0))) := ⟨(by rw [hw]; exact (by repeat (first | refine blk_far ?_ NB105_122.out _ | exact BK105.out)))⟩; have n4_ : Aside0 (w56.heap[gb122]? = some (.cells #[.int .i64 t114, .int .i64 t115, .string t116, .slice Ao55 t117.length co55] 31 (0, 0))) := ⟨(by rw [hw]; exact (by (repeat refine kq_ ?_); refine blk_put (cs := #[.int .i64 t114, .int .i64 t115, .string t116, .slice none 0 0]) ?_ 3 _ rfl; (repeat refine kq_ ?_); refine blk_put (cs := #[.int .i64 t114, .int .i64 t115, .string ⟨#[]⟩, .slice none 0 0]) ?_ 2 _ rfl; (repeat refine kq_ ?_); refine blk_put (cs := #[.int .i64 t114, .int .i64 0, .string ⟨#[]⟩, .slice none 0 0]) ?_ 1 _ rfl; (repeat refine kq_ ?_); refine blk_put (cs := #[.int .i64 0, .int .i64 0, .string ⟨#[]⟩, .slice none 0 0]) ?_ 0 _ rfl; (repeat refine kq_ ?_); exact BK122.out))⟩; have n5_ : Aside0 (Below w.heap.size w w56) := ⟨(by rw [hw]; exact (by repeat (first | (with_reducible first | exact HB.out | apply below_alloc | apply pw_below_drewN | apply below_drew1 | refine below_set ?_ GE104.out | refine below_set ?_ GE105.out | refine below_set ?_ GE122.out) | exact HB.out)))⟩; clear hw; clear HO_106006; clear HO119; clear BK104; clear BK105; clear BK122; clear HB; have HO_106006 := n0_; have HO119 := n1_; have BK104 := n2_; have BK105 := n3_; have BK122 := n4_; have HB := n5_; clear n0_ n1_ n2_ n3_ n4_ n5_; have hnb57 := NB105_104.out; have hnc57 := NB104_105.out; obtain ⟨hcz58_0, hcz58_1, hcz58_2, hcz58_3, hcz58_4, hcz58_5, hcz58_6, hcz58_7⟩ := c8_ BK105.out; obtain ⟨hfz58_0, hfz58_1, hfz58_2, hfz58_3, hfz58_4, hfz58_5, hfz58_6, hfz58_7⟩ := f8_ BK105.out; obtain ⟨Ao59, co59, eo59⟩ := Kd.S_slice HO_106006.out; subst eo59; obtain ⟨hcz60_0, hcz60_1, hcz60_2, hcz60_3⟩ := c4_ BK122.out; obtain ⟨hfz60_0, hfz60_1, hfz60_2, hfz60_3⟩ := f4_ BK122.out) | ((with_reducible refine gate_builtin (b := .append) (xs := #[.tmp 56, .tmp 58]) rfl ?_); (try (refine gate_guard (by rfl) ?_; dsimp only)); at_builtin; refine Kd.S_append k31 (w0 := w) w.heap.size rfl (.tmp 56) (.tmp 58) 32 31 (.agg #[(.int .i64 0), (.int .i64 0), (.string ⟨#[]⟩), (.slice none 0 0)]) 56 rfl Tryz.underlying32 info31 rfl (by decide) (by omega) (.slice Ao59 x106006_1.length co59) x106006_1 (⟨t114, t115, t116, t117⟩ : S31) [.int .i64 t114, .int .i64 t115, .string t116, .slice Ao55 t117.length co55] (fun k_ => k_ ≠ gb122) (fun k_ => some k_ = (.slice Ao55 t117.length co55 : Value).ownBlock) rfl rfl ?aP (fun k_ hk_ => ((Kd.R_mono (ok' := fun k_ => ((fun k_ => k_ ≠ gb122)) k_ ∧ some k_ ≠ (.slice Ao59 x106006_1.length co59 : Value).ownBlock) (Kd.R_types (Kd.R_apart' (HO119.out) (Kd.S_typed HO_106006.out) (by decide)) BK122.out (by decide)) (fun k_ hk => ⟨hk.2, hk.1.2⟩))).1 k_ hk_.symm) ?aF ?aO ?aB ?aS ?aL ?_; (case aP => exact k31_mkM _ _ _ (⟨t114, t115, t116, t117⟩ : S31) (Kd.R_mono (Kd.R_tight rfl (Kd.R_mono (ok' := fun k_ => ((fun k_ => k_ ≠ gb122)) k_ ∧ some k_ ≠ (.slice Ao59 x106006_1.length co59 : Value).ownBlock) (Kd.R_types (Kd.R_apart' (HO119.out) (Kd.S_typed HO_106006.out) (by decide)) BK122.out (by decide)) (fun k_ hk => ⟨hk.2, hk.1.2⟩))) (fun _ h_ => h_))); (case aB => exact (bl_ HB.out)); (case aF => exact (fun k_ hk => Kd.freshB (kl_ BK122.out) k_ hk)); (case aO => exact (by (with_reducible repeat (first | apply Kd.S_alloc | apply Kd.S_drewN | apply Kd.S_drew)); exact Kd.S_mono HO_106006.out (fun k_ hk => ⟨hk.2, fun e_ => hk.1 e_⟩))); (case aS => exact (below_size (bl_ HB.out))); (case aL => have := LMc48.out; omega); intro v127 w61 ho hb hg hat; rw [← Ny126.out] at ho; have n0_ := Aside0.mk (blk_grown (kl_ BK104.out) hg (Kd.S_ne HO_106006.out BK104.out (by decide))); have n1_ := Aside0.mk (blk_grown (g := gb105) (o := .cells #[.string ⟨#[]⟩, .bool true, .int .i64 0, .int .i64 0, .string ⟨#[]⟩, .slice none 0 0, .slice Ao59 x106006_1.length co59, .slice none 0 0] 34 (0, 0)) (kl_ BK105.out) hg (Kd.S_ne HO_106006.out BK105.out (by decide))); have n2_ := Aside0.mk (blk_grown (kl_ BK122.out) hg (Kd.S_away HO_106006.out (fun _ hk => hk.2))); have n3_ := Aside0.mk (hb); have n4_ := Aside0.mk (ho); clear BK104; clear BK105; clear BK122; clear HB; clear HO_106006; clear HO119; have BK104 := n0_; have BK105 := n1_; have BK122 := n2_; have HB := n3_; have HO128 := n4_; clear n0_ n1_ n2_ n3_ n4_; clear ho hb hg hat; obtain ⟨Ao62, co62, eo62⟩ := Kd.S_slice HO128.out; subst eo62; obtain ⟨hcz63_0, hcz63_1, hcz63_2, hcz63_3, hcz63_4, hcz63_5, hcz63_6, hcz63_7⟩ := c8_ BK105.out; obtain ⟨hfz63_0, hfz63_1, hfz63_2, hfz63_3, hfz63_4, hfz63_5, hfz63_6, hfz63_7⟩ := f8_ BK105.out))
       go_roundg k1
       case measure => have := HK1.out; omega
       case rel => exact ⟨(t120), (x105000_1), (x105001_1), (x105002_1), (x105003_1), (x105004_1), (y126), (.slice Ao62 y126.length co62), (by first | rfl | simp [*]), H', ⟨by have := HK1.out; omega⟩, ⟨by (with_reducible repeat (first | apply Kd.S_alloc | apply Kd.S_drewN | apply Kd.S_drew)); exact Kd.S_mono (Kd.S_far (p := ⟨gb105, 6, none⟩) (Kd.S_types HO128.out BK105.out (by decide)) (fun _ hk => hk.2) (.slice Ao62 y126.length co62)) (fun _ hk => trivial)⟩, ⟨by (repeat refine kq_ ?_); refine blk_far ?_ NB104_105.out _; (repeat refine kq_ ?_); exact BK104.out⟩, ⟨by (repeat refine kq_ ?_); refine blk_put (cs := #[.string ⟨#[]⟩, .bool true, .int .i64 0, .int .i64 0, .string ⟨#[]⟩, .slice none 0 0, .slice Ao59 x106006_1.length co59, .slice none 0 0]) ?_ 6 _ rfl; (repeat refine kq_ ?_); exact BK105.out⟩, ⟨by repeat (first | (with_reducible first | exact HB.out | apply below_alloc | apply pw_below_drewN | apply below_drew1 | refine below_set ?_ GE104.out | refine below_set ?_ GE105.out | refine below_set ?_ GE122.out) | exact HB.out)⟩⟩
      ·rw [if_neg c48] at H
       exact absurd H (by simp)
    ·rw [if_neg c18] at H
     obtain ⟨c18b0, c18b1⟩ := eF_ c18
     simp only [Option.some.injEq, Prod.mk.injEq] at H
     obtain ⟨rfl, rfl, rfl, rfl, rfl, rfl, rfl, rfl, rfl, rfl⟩ := H
     go_wp2_with (first | ((with_reducible refine gate_callee (f := 40) rfl ?_); refine goesL_ (some 17) rfl rfl Tryz.func40 (by kernel_rfl) rfl #[.string x0_1, .string ⟨#[32]⟩] rfl (by simp only [List.map_toArray, List.map_cons, List.map_nil] <;> rfl) ?_; (with_reducible refine (strings_TrimLeft.calls x0_1 (⟨#[32]⟩ : ByteArray) t106 _ A6.out).mono ?_); rintro e w64 ⟨rfl, hb⟩; refine ⟨_, rfl, ?_⟩; have n0_ := Aside0.mk (Kd.S_below (sl_ HO_106006.out) hb); have n1_ := Aside0.mk (blk_below (kl_ BK104.out) hb); have n2_ := Aside0.mk (blk_below (g := gb105) (o := .cells #[.string ⟨#[]⟩, .bool true, .int .i64 0, .int .i64 0, .string ⟨#[]⟩, .slice none 0 0, u106006, .slice none 0 0] 34 (0, 0)) (kl_ BK105.out) hb); have n3_ := Aside0.mk (below_step (bl_ HB.out) hb); clear HO_106006; clear BK104; clear BK105; clear HB; have HO_106006 := n0_; have BK104 := n1_; have BK105 := n2_; have HB := n3_; clear n0_ n1_ n2_ n3_; (try clear hb); (try clear hb2); (try clear hk); (try clear hi)) | ((with_reducible refine gate_callee (f := 41) rfl ?_); refine goesL_ (some 20) rfl rfl Tryz.func41 (by kernel_rfl) rfl #[.string t106, .string ⟨#[41]⟩] rfl (by simp only [List.map_toArray, List.map_cons, List.map_nil] <;> rfl) ?_; (with_reducible refine (strings_CutPrefix.calls t106 (⟨#[41]⟩ : ByteArray) t107 false _ A7.out).mono ?_); rintro e w' ⟨rfl, ⟨nd, rfl⟩⟩; refine ⟨_, rfl, ?_⟩; (try (rw [drewN_self w64]; generalize hq_ : World.drewN w64 _ = w64; have l_ := lq_ hq_; have n0_ := Aside0.mk (sl_ (W := w64) HO_106006.out); have n1_ := Aside0.mk (kl_ (W := w64) BK104.out); have n2_ := Aside0.mk (kl_ (W := w64) BK105.out); have n3_ := Aside0.mk (bl_ (W := w64) HB.out); clear HO_106006 BK104 BK105 HB hq_ l_; have HO_106006 := n0_; have BK104 := n1_; have BK105 := n2_; have HB := n3_; clear n0_ n1_ n2_ n3_))) | ((with_reducible refine gate_callee (f := 30) rfl ?_); refine goesL_ (some 37) rfl rfl Tryz.func30 (by kernel_rfl) rfl #[.string t106] rfl (by simp only [List.map_toArray, List.map_cons, List.map_nil] <;> rfl) ?_; (with_reducible refine (sfitem_Next.calls t106 t114 t115 t116 t117 t120 t121 _ A17.out).mono ?_); rintro e w65 ⟨v118, rfl, ho0, hb⟩; refine ⟨_, rfl, ?_⟩; have n0_ := Aside0.mk (Kd.S_elder' (sl_ HO_106006.out) (Kd.R_base ho0) hb); have n1_ := Aside0.mk (Kd.R_lower ho0 (below_size (bl_ HB.out))); have n2_ := Aside0.mk (blk_below (kl_ BK104.out) hb); have n3_ := Aside0.mk (blk_below (g := gb105) (o := .cells #[.string ⟨#[]⟩, .bool true, .int .i64 0, .int .i64 0, .string ⟨#[]⟩, .slice none 0 0, u106006, .slice none 0 0] 34 (0, 0)) (kl_ BK105.out) hb); have n4_ := Aside0.mk (below_step (bl_ HB.out) hb); clear HO_106006; clear BK104; clear BK105; clear HB; have HO_106006 := n0_; have HO119 := n1_; have BK104 := n2_; have BK105 := n3_; have HB := n4_; clear n0_ n1_ n2_ n3_ n4_; (try clear hb); (try clear hb2); (try clear hk); (try clear hi); (try clear ho0)) | ((with_reducible refine gate_dst (N := 12) rfl ?_); (try (refine gate_guard (by rfl) ?_; dsimp only)); refine box_event ?hg (N := 12) ?hd (cs := #[.int .i64 0, .int .i64 0, .string ⟨#[]⟩, .slice none 0 0]) (t := 31) ?hr ?_; (case hd => rfl); (case hg => rfl); (case hr => first | (go_simp; done) | (go_simp; rfl)); intro gb122 hg w66 hbox hb; have n0_ := Aside0.mk (Kd.S_below (Kd.S_elderB (sl_ HO_106006.out) gb122 (Nat.le_of_eq hg.symm)) hb); have n1_ := Aside0.mk (Kd.R_below (rl_ HO119.out) hb); have n2_ := Aside0.mk (blk_below (kl_ BK104.out) hb); have n3_ := Aside0.mk (blk_below (g := gb105) (o := .cells #[.string ⟨#[]⟩, .bool true, .int .i64 0, .int .i64 0, .string ⟨#[]⟩, .slice none 0 0, u106006, .slice none 0 0] 34 (0, 0)) (kl_ BK105.out) hb); have n4_ := Aside0.mk (below_step (bl_ HB.out) hb); have n5_ := Aside0.mk (hbox); have n6_ := Aside0.mk ((hg_ hg (bl_ HB.out))); have n7_ := Aside0.mk ((hg_ hg (bl_ HB.out))); have n8_ := Aside0.mk ((by rw [hg]; exact Nat.ne_of_lt (blk_lt (kl_ BK104.out)) : gb104 ≠ gb122)); have n9_ := Aside0.mk ((by rw [hg]; exact Nat.ne_of_gt (blk_lt (kl_ BK104.out)) : gb122 ≠ gb104)); have n10_ := Aside0.mk ((by rw [hg]; exact Nat.ne_of_lt (blk_lt (g := gb105) (o := .cells #[.string ⟨#[]⟩, .bool true, .int .i64 0, .int .i64 0, .string ⟨#[]⟩, .slice none 0 0, u106006, .slice none 0 0] 34 (0, 0)) (kl_ BK105.out)) : gb105 ≠ gb122)); have n11_ := Aside0.mk ((by rw [hg]; exact Nat.ne_of_gt (blk_lt (g := gb105) (o := .cells #[.string ⟨#[]⟩, .bool true, .int .i64 0, .int .i64 0, .string ⟨#[]⟩, .slice none 0 0, u106006, .slice none 0 0] 34 (0, 0)) (kl_ BK105.out)) : gb122 ≠ gb105)); clear HO_106006; clear HO119; clear BK104; clear BK105; clear HB; have HO_106006 := n0_; have HO119 := n1_; have BK104 := n2_; have BK105 := n3_; have HB := n4_; have BK122 := n5_; have GW122 := n6_; have GE122 := n7_; have NB104_122 := n8_; have NB122_104 := n9_; have NB105_122 := n10_; have NB122_105 := n11_; clear n0_ n1_ n2_ n3_ n4_ n5_ n6_ n7_ n8_ n9_ n10_ n11_; clear hb hbox hg; have hnb67 := NB122_104.out; have hnc67 := NB104_122.out; have hnb68 := NB122_105.out; have hnc68 := NB105_122.out; obtain ⟨hcz69_0, hcz69_1, hcz69_2, hcz69_3⟩ := c4_ BK122.out; obtain ⟨hfz69_0, hfz69_1, hfz69_2, hfz69_3⟩ := f4_ BK122.out; obtain ⟨Ao70, co70, eo70⟩ := Kd.R_slice HO119.out; subst eo70; have hnb71 := NB105_104.out; have hnc71 := NB104_105.out; obtain ⟨hcz72_0, hcz72_1, hcz72_2, hcz72_3, hcz72_4, hcz72_5, hcz72_6, hcz72_7⟩ := c8_ BK105.out; obtain ⟨hfz72_0, hfz72_1, hfz72_2, hfz72_3, hfz72_4, hfz72_5, hfz72_6, hfz72_7⟩ := f8_ BK105.out; obtain ⟨hcz73_0, hcz73_1, hcz73_2, hcz73_3, hcz73_4, hcz73_5, hcz73_6, hcz73_7⟩ := c8_ BK104.out; obtain ⟨hfz73_0, hfz73_1, hfz73_2, hfz73_3, hfz73_4, hfz73_5, hfz73_6, hfz73_7⟩ := f8_ BK104.out; obtain ⟨Ao74, co74, eo74⟩ := Kd.S_slice HO_106006.out; subst eo74))
     refine bodyPost_ret (results_ctt rfl _ _ gb104 34 #[.string ⟨#[]⟩, .bool true, .int .i64 0, .int .i64 0, .string ⟨#[]⟩, .slice none 0 0, .slice Ao74 x106006_1.length co74, .slice none 0 0] (0, 0) _ rfl (by (repeat refine kq_ ?_); refine blk_put (cs := #[.string ⟨#[]⟩, .bool true, .int .i64 0, .int .i64 0, .string ⟨#[]⟩, .slice none 0 0, .slice Ao74 x106006_1.length co74, .slice none 0 0]) ?_ 7 _ rfl; (repeat refine kq_ ?_); refine blk_put (cs := #[.string ⟨#[]⟩, .bool true, .int .i64 0, .int .i64 0, .string ⟨#[]⟩, .slice none 0 0, .slice none 0 0, .slice none 0 0]) ?_ 6 _ rfl; (repeat refine kq_ ?_); refine blk_put (cs := #[.string ⟨#[]⟩, .bool true, .int .i64 0, .int .i64 0, .string ⟨#[]⟩, .slice none 0 0, .slice none 0 0, .slice none 0 0]) ?_ 5 _ rfl; (repeat refine kq_ ?_); refine blk_put (cs := #[.string ⟨#[]⟩, .bool true, .int .i64 0, .int .i64 0, .string x105004_1, .slice none 0 0, .slice none 0 0, .slice none 0 0]) ?_ 4 _ rfl; (repeat refine kq_ ?_); refine blk_put (cs := #[.string ⟨#[]⟩, .bool true, .int .i64 0, .int .i64 x105003_1, .string x105004_1, .slice none 0 0, .slice none 0 0, .slice none 0 0]) ?_ 3 _ rfl; (repeat refine kq_ ?_); refine blk_put (cs := #[.string ⟨#[]⟩, .bool true, .int .i64 x105002_1, .int .i64 x105003_1, .string x105004_1, .slice none 0 0, .slice none 0 0, .slice none 0 0]) ?_ 2 _ rfl; (repeat refine kq_ ?_); refine blk_put (cs := #[.string ⟨#[]⟩, .bool x105001_1, .int .i64 x105002_1, .int .i64 x105003_1, .string x105004_1, .slice none 0 0, .slice none 0 0, .slice none 0 0]) ?_ 1 _ rfl; (repeat refine kq_ ?_); refine blk_put (cs := #[.string x105000_1, .bool x105001_1, .int .i64 x105002_1, .int .i64 x105003_1, .string x105004_1, .slice none 0 0, .slice none 0 0, .slice none 0 0]) ?_ 0 _ rfl; repeat (first | refine blk_far ?_ NB104_122.out _ | exact BK104.out)) Tryz.underlying34 rfl (by kernel_rfl)) rfl ?_
     exact ⟨_, _, _, by first | rfl | (simp [errW_none, errW_some] <;> rfl) | (simp [*, errW_none, errW_some] <;> rfl) | (simp [q_ne_nil]; done), by first | exact Kd.R_nil _ _ _ _ _ | exact Kd.S_nil _ _ _ _ _, by (with_reducible repeat (first | apply Kd.S_alloc | apply Kd.S_drewN | apply Kd.S_drew)); exact Kd.S_mono (Kd.S_far (p := ⟨gb104, 7, none⟩) (Kd.S_far (p := ⟨gb104, 6, none⟩) (Kd.S_far (p := ⟨gb104, 5, none⟩) (Kd.S_far (p := ⟨gb104, 4, none⟩) (Kd.S_far (p := ⟨gb104, 3, none⟩) (Kd.S_far (p := ⟨gb104, 2, none⟩) (Kd.S_far (p := ⟨gb104, 1, none⟩) (Kd.S_far (p := ⟨gb104, 0, none⟩) (Kd.S_far (p := ⟨gb122, 3, none⟩) (Kd.S_far (p := ⟨gb122, 2, none⟩) (Kd.S_far (p := ⟨gb122, 1, none⟩) (Kd.S_far (p := ⟨gb122, 0, none⟩) (Kd.S_types (Kd.S_mono HO_106006.out (fun k_ hk => (⟨hk, hk.2⟩ : _ ∧ k_ ≠ gb122))) BK104.out (by decide)) (fun _ hk => hk.1.2) (.int .i64 t114)) (fun _ hk => hk.1.2) (.int .i64 t115)) (fun _ hk => hk.1.2) (.string t116)) (fun _ hk => hk.1.2) (.slice Ao70 t117.length co70)) (fun _ hk => hk.2) (.string ⟨#[]⟩)) (fun _ hk => hk.2) (.bool true)) (fun _ hk => hk.2) (.int .i64 0)) (fun _ hk => hk.2) (.int .i64 0)) (fun _ hk => hk.2) (.string ⟨#[]⟩)) (fun _ hk => hk.2) (.slice none 0 0)) (fun _ hk => hk.2) (.slice Ao74 x106006_1.length co74)) (fun _ hk => hk.2) (.slice none 0 0)) (fun _ hk => ⟨(by simp [Value.ownBlock]), (by simp [Value.ownBlock])⟩), by first | exact Kd.R_nil _ _ _ _ _ | exact Kd.S_nil _ _ _ _ _, by repeat (first | (with_reducible first | exact HB.out | apply below_alloc | apply pw_below_drewN | apply below_drew1 | refine below_set ?_ GE104.out | refine below_set ?_ GE105.out | refine below_set ?_ GE122.out) | exact HB.out)⟩
def sfield_member.f (k : Nat) (a0 : ByteArray) : Option (ByteArray × Bool × Int × Int × ByteArray × (List (S60)) × (List (S31)) × (List (S60)) × ByteArray × Int) := (strings_CutPrefix.f a0 (⟨#[40]⟩ : ByteArray)).bind fun bt130 => (if bt130.2 = true then ((sfield_inner.f k bt130.1).bind fun bt132 => (some (bt132.1, bt132.2.1, bt132.2.2.1, bt132.2.2.2.1, bt132.2.2.2.2.1, bt132.2.2.2.2.2.1, bt132.2.2.2.2.2.2.1, bt132.2.2.2.2.2.2.2.1, bt132.2.2.2.2.2.2.2.2.1, bt132.2.2.2.2.2.2.2.2.2))) else ((sfitem_Next.f a0).bind fun bt148 => (some ((⟨#[]⟩ : ByteArray), false, bt148.1, bt148.2.1, bt148.2.2.1, bt148.2.2.2.1, ([] : List (S31)), ([] : List (S60)), bt148.2.2.2.2.1, bt148.2.2.2.2.2))))
theorem sfield_member.mono : ∀ a0 k, LeO (sfield_member.f k a0) (sfield_member.f (k + 1) a0) := by
 intro a0 k
 unfold sfield_member.f
 repeat' first
   | (with_reducible exact sfield_inner.mono _ _)
   | (with_reducible exact LeO.refl _)
   | (with_reducible exact LeO.none _)
   | (with_reducible refine LeO.ite ?_ ?_)
   | (with_reducible refine LeO.bind ?_ (fun _ => ?_))
   | exact sfield_inner.mono _ _
   | exact LeO.none _
   | refine LeO.ite ?_ ?_
   | refine LeO.bind ?_ (fun _ => ?_)
set_option maxHeartbeats 8000000 in
set_option maxRecDepth 100000 in
theorem sfield_member.calls (k : Nat) (a0 : ByteArray) (r1 : ByteArray) (r2 : Bool) (r3 : Int) (r4 : Int) (r5 : ByteArray) (r6 : List (S60)) (r7 : List (S31)) (r8 : List (S60)) (r9 : ByteArray) (r10 : Int) (w : World) (h : sfield_member.f k a0 = some (r1, r2, r3, r4, r5, r6, r7, r8, r9, r10)) :
  Calls Tryz.prog 24 #[.string a0] w fun e w' => ∃ v5_ v6_ v7_ : Value, e = .returned (.tuple #[.agg #[.string r1, .bool r2, .int .i64 r3, .int .i64 r4, .string r5, v5_, v6_, v7_], .string r9, .int .i64 r10]) ∧ Kd.R k60 60 w' w.heap.size (fun k_ => some k_ ≠ (v7_ : Value).ownBlock) v5_ r6 ∧ Kd.S k31 31 w' w.heap.size (fun k_ => some k_ ≠ (v5_ : Value).ownBlock ∧ some k_ ≠ (v7_ : Value).ownBlock) v6_ r7 ∧ Kd.R k60 60 w' w.heap.size (fun k_ => some k_ ≠ (v5_ : Value).ownBlock) v7_ r8 ∧ Below w.heap.size w w' := by
 have hu34 := Tryz.underlying34
 have hu31 := Tryz.underlying31
 have HB := Aside0.mk (Below.refl w.heap.size w)
 have H : ((strings_CutPrefix.f a0 (⟨#[40]⟩ : ByteArray)).bind fun bt130 => (if bt130.2 = true then ((sfield_inner.f k bt130.1).bind fun bt132 => (some (bt132.1, bt132.2.1, bt132.2.2.1, bt132.2.2.2.1, bt132.2.2.2.2.1, bt132.2.2.2.2.2.1, bt132.2.2.2.2.2.2.1, bt132.2.2.2.2.2.2.2.1, bt132.2.2.2.2.2.2.2.2.1, bt132.2.2.2.2.2.2.2.2.2))) else ((sfitem_Next.f a0).bind fun bt148 => (some ((⟨#[]⟩ : ByteArray), false, bt148.1, bt148.2.1, bt148.2.2.1, bt148.2.2.2.1, ([] : List (S31)), ([] : List (S60)), bt148.2.2.2.2.1, bt148.2.2.2.2.2))))) = some (r1, r2, r3, r4, r5, r6, r7, r8, r9, r10) := h
 clear h
 replace H := Option.bind_eq_some_iff.mp H
 obtain ⟨⟨t130, t131⟩, A20, H⟩ := H
 (try dsimp only at H)
 have A2 := Aside0.mk A20
 clear A20
 by_cases c3 : t131 = true
 ·subst c3
  rw [if_pos rfl] at H
  replace H := Option.bind_eq_some_iff.mp H
  obtain ⟨⟨t132, t133, t134, t135, t136, t137, t140, t143, t146, t147⟩, A40, H⟩ := H
  (try dsimp only at H)
  have A4 := Aside0.mk A40
  clear A40
  simp only [Option.some.injEq, Prod.mk.injEq] at H
  obtain ⟨rfl, rfl, rfl, rfl, rfl, rfl, rfl, rfl, rfl, rfl⟩ := H
  go_enter Tryz.func24, Tryz.ntmps24
  go_wp2_with (first | ((with_reducible refine gate_dst (N := 2) rfl ?_); refine box_event ?hg (N := 2) ?hd (cs := #[.string ⟨#[]⟩, .bool false, .int .i64 0, .int .i64 0, .string ⟨#[]⟩, .slice none 0 0, .slice none 0 0, .slice none 0 0]) (t := 34) ?hr ?_; (case hd => rfl); (case hg => rfl); (case hr => first | (go_simp; done) | (go_simp; rfl)); intro gb129 hg w5 hbox hb; have n0_ := Aside0.mk (below_step (bl_ HB.out) hb); have n1_ := Aside0.mk (hbox); have n2_ := Aside0.mk ((hg_ hg (bl_ HB.out))); have n3_ := Aside0.mk ((hg_ hg (bl_ HB.out))); clear HB; have HB := n0_; have BK129 := n1_; have GW129 := n2_; have GE129 := n3_; clear n0_ n1_ n2_ n3_; clear hb hbox hg) | ((with_reducible refine gate_callee (f := 41) rfl ?_); refine goesL_ (some 12) rfl rfl Tryz.func41 (by kernel_rfl) rfl #[.string a0, .string ⟨#[40]⟩] rfl (by simp only [List.map_toArray, List.map_cons, List.map_nil] <;> rfl) ?_; (with_reducible refine (strings_CutPrefix.calls a0 (⟨#[40]⟩ : ByteArray) t130 true _ A2.out).mono ?_); rintro e w' ⟨rfl, ⟨nd, rfl⟩⟩; refine ⟨_, rfl, ?_⟩; (try (rw [drewN_self w5]; generalize hq_ : World.drewN w5 _ = w5; have l_ := lq_ hq_; have n0_ := Aside0.mk (kl_ (W := w5) BK129.out); have n1_ := Aside0.mk (bl_ (W := w5) HB.out); clear BK129 HB hq_ l_; have BK129 := n0_; have HB := n1_; clear n0_ n1_))) | ((with_reducible refine gate_callee (f := 42) rfl ?_); refine goesL_ (some 17) rfl rfl Tryz.func42 (by kernel_rfl) rfl #[.string t130] rfl (by simp only [List.map_toArray, List.map_cons, List.map_nil] <;> rfl) ?_; (with_reducible refine (sfield_inner.calls k t130 t132 t133 t134 t135 t136 t137 t140 t143 t146 t147 _ A4.out).mono ?_); rintro e w6 ⟨v138, v141, v144, rfl, ho0, ho1, ho2, hb⟩; refine ⟨_, rfl, ?_⟩; have n0_ := Aside0.mk (Kd.R_lower ho0 (below_size (bl_ HB.out))); have n1_ := Aside0.mk (Kd.S_lower ho1 (below_size (bl_ HB.out))); have n2_ := Aside0.mk (Kd.R_lower ho2 (below_size (bl_ HB.out))); have n3_ := Aside0.mk (blk_below (g := gb129) (o := .cells #[.string ⟨#[]⟩, .bool false, .int .i64 0, .int .i64 0, .string ⟨#[]⟩, .slice none 0 0, .slice none 0 0, .slice none 0 0] 34 (0, 0)) (kl_ BK129.out) hb); have n4_ := Aside0.mk (below_step (bl_ HB.out) hb); clear BK129; clear HB; have HO139 := n0_; have HO142 := n1_; have HO145 := n2_; have BK129 := n3_; have HB := n4_; clear n0_ n1_ n2_ n3_ n4_; (try clear hb); (try clear hb2); (try clear hk); (try clear hi); (try clear ho0); (try clear ho1); (try clear ho2); obtain ⟨hcz7_0, hcz7_1, hcz7_2, hcz7_3, hcz7_4, hcz7_5, hcz7_6, hcz7_7⟩ := c8_ BK129.out; obtain ⟨hfz7_0, hfz7_1, hfz7_2, hfz7_3, hfz7_4, hfz7_5, hfz7_6, hfz7_7⟩ := f8_ BK129.out; obtain ⟨Ao8, co8, eo8⟩ := Kd.R_slice HO139.out; subst eo8; obtain ⟨Ao9, co9, eo9⟩ := Kd.S_slice HO142.out; subst eo9; obtain ⟨Ao10, co10, eo10⟩ := Kd.R_slice HO145.out; subst eo10))
  refine bodyPost_ret (results_ctt rfl _ _ gb129 34 #[.string t132, .bool t133, .int .i64 t134, .int .i64 t135, .string t136, .slice Ao8 t137.length co8, .slice Ao9 t140.length co9, .slice Ao10 t143.length co10] (0, 0) _ rfl (by (repeat refine kq_ ?_); refine blk_put (cs := #[.string t132, .bool t133, .int .i64 t134, .int .i64 t135, .string t136, .slice Ao8 t137.length co8, .slice Ao9 t140.length co9, .slice none 0 0]) ?_ 7 _ rfl; (repeat refine kq_ ?_); refine blk_put (cs := #[.string t132, .bool t133, .int .i64 t134, .int .i64 t135, .string t136, .slice Ao8 t137.length co8, .slice none 0 0, .slice none 0 0]) ?_ 6 _ rfl; (repeat refine kq_ ?_); refine blk_put (cs := #[.string t132, .bool t133, .int .i64 t134, .int .i64 t135, .string t136, .slice none 0 0, .slice none 0 0, .slice none 0 0]) ?_ 5 _ rfl; (repeat refine kq_ ?_); refine blk_put (cs := #[.string t132, .bool t133, .int .i64 t134, .int .i64 t135, .string ⟨#[]⟩, .slice none 0 0, .slice none 0 0, .slice none 0 0]) ?_ 4 _ rfl; (repeat refine kq_ ?_); refine blk_put (cs := #[.string t132, .bool t133, .int .i64 t134, .int .i64 0, .string ⟨#[]⟩, .slice none 0 0, .slice none 0 0, .slice none 0 0]) ?_ 3 _ rfl; (repeat refine kq_ ?_); refine blk_put (cs := #[.string t132, .bool t133, .int .i64 0, .int .i64 0, .string ⟨#[]⟩, .slice none 0 0, .slice none 0 0, .slice none 0 0]) ?_ 2 _ rfl; (repeat refine kq_ ?_); refine blk_put (cs := #[.string t132, .bool false, .int .i64 0, .int .i64 0, .string ⟨#[]⟩, .slice none 0 0, .slice none 0 0, .slice none 0 0]) ?_ 1 _ rfl; (repeat refine kq_ ?_); refine blk_put (cs := #[.string ⟨#[]⟩, .bool false, .int .i64 0, .int .i64 0, .string ⟨#[]⟩, .slice none 0 0, .slice none 0 0, .slice none 0 0]) ?_ 0 _ rfl; (repeat refine kq_ ?_); exact BK129.out) Tryz.underlying34 rfl (by kernel_rfl)) rfl ?_
  exact ⟨_, _, _, by first | rfl | (simp [errW_none, errW_some] <;> rfl) | (simp [*, errW_none, errW_some] <;> rfl) | (simp [q_ne_nil]; done), by (with_reducible repeat (first | apply Kd.R_alloc | apply Kd.R_drewN | apply Kd.R_drew)); exact Kd.R_mono (Kd.R_far (p := ⟨gb129, 7, none⟩) (Kd.R_far (p := ⟨gb129, 6, none⟩) (Kd.R_far (p := ⟨gb129, 5, none⟩) (Kd.R_far (p := ⟨gb129, 4, none⟩) (Kd.R_far (p := ⟨gb129, 3, none⟩) (Kd.R_far (p := ⟨gb129, 2, none⟩) (Kd.R_far (p := ⟨gb129, 1, none⟩) (Kd.R_far (p := ⟨gb129, 0, none⟩) (Kd.R_types HO139.out BK129.out (by decide)) (fun _ hk => hk.2) (.string t132)) (fun _ hk => hk.2) (.bool t133)) (fun _ hk => hk.2) (.int .i64 t134)) (fun _ hk => hk.2) (.int .i64 t135)) (fun _ hk => hk.2) (.string t136)) (fun _ hk => hk.2) (.slice Ao8 t137.length co8)) (fun _ hk => hk.2) (.slice Ao9 t140.length co9)) (fun _ hk => hk.2) (.slice Ao10 t143.length co10)) (fun _ hk => hk.1), by (with_reducible repeat (first | apply Kd.S_alloc | apply Kd.S_drewN | apply Kd.S_drew)); exact Kd.S_mono (Kd.S_far (p := ⟨gb129, 7, none⟩) (Kd.S_far (p := ⟨gb129, 6, none⟩) (Kd.S_far (p := ⟨gb129, 5, none⟩) (Kd.S_far (p := ⟨gb129, 4, none⟩) (Kd.S_far (p := ⟨gb129, 3, none⟩) (Kd.S_far (p := ⟨gb129, 2, none⟩) (Kd.S_far (p := ⟨gb129, 1, none⟩) (Kd.S_far (p := ⟨gb129, 0, none⟩) (Kd.S_types HO142.out BK129.out (by decide)) (fun _ hk => hk.2) (.string t132)) (fun _ hk => hk.2) (.bool t133)) (fun _ hk => hk.2) (.int .i64 t134)) (fun _ hk => hk.2) (.int .i64 t135)) (fun _ hk => hk.2) (.string t136)) (fun _ hk => hk.2) (.slice Ao8 t137.length co8)) (fun _ hk => hk.2) (.slice Ao9 t140.length co9)) (fun _ hk => hk.2) (.slice Ao10 t143.length co10)) (fun _ hk => ⟨hk.1.1, hk.1.2⟩), by (with_reducible repeat (first | apply Kd.R_alloc | apply Kd.R_drewN | apply Kd.R_drew)); exact Kd.R_mono (Kd.R_far (p := ⟨gb129, 7, none⟩) (Kd.R_far (p := ⟨gb129, 6, none⟩) (Kd.R_far (p := ⟨gb129, 5, none⟩) (Kd.R_far (p := ⟨gb129, 4, none⟩) (Kd.R_far (p := ⟨gb129, 3, none⟩) (Kd.R_far (p := ⟨gb129, 2, none⟩) (Kd.R_far (p := ⟨gb129, 1, none⟩) (Kd.R_far (p := ⟨gb129, 0, none⟩) (Kd.R_types HO145.out BK129.out (by decide)) (fun _ hk => hk.2) (.string t132)) (fun _ hk => hk.2) (.bool t133)) (fun _ hk => hk.2) (.int .i64 t134)) (fun _ hk => hk.2) (.int .i64 t135)) (fun _ hk => hk.2) (.string t136)) (fun _ hk => hk.2) (.slice Ao8 t137.length co8)) (fun _ hk => hk.2) (.slice Ao9 t140.length co9)) (fun _ hk => hk.2) (.slice Ao10 t143.length co10)) (fun _ hk => hk.1), by repeat (first | (with_reducible first | exact HB.out | apply below_alloc | apply pw_below_drewN | apply below_drew1 | refine below_set ?_ GE129.out) | exact HB.out)⟩
 ·replace c3 := Bool.eq_false_iff.mpr c3
  subst c3
  rw [if_neg (show ¬ (false = true) by decide)] at H
  replace H := Option.bind_eq_some_iff.mp H
  obtain ⟨⟨t148, t149, t150, t151, t154, t155⟩, A110, H⟩ := H
  (try dsimp only at H)
  have A11 := Aside0.mk A110
  clear A110
  simp only [Option.some.injEq, Prod.mk.injEq] at H
  obtain ⟨rfl, rfl, rfl, rfl, rfl, rfl, rfl, rfl, rfl, rfl⟩ := H
  go_enter Tryz.func24, Tryz.ntmps24
  go_wp2_with (first | ((with_reducible refine gate_dst (N := 2) rfl ?_); refine box_event ?hg (N := 2) ?hd (cs := #[.string ⟨#[]⟩, .bool false, .int .i64 0, .int .i64 0, .string ⟨#[]⟩, .slice none 0 0, .slice none 0 0, .slice none 0 0]) (t := 34) ?hr ?_; (case hd => rfl); (case hg => rfl); (case hr => first | (go_simp; done) | (go_simp; rfl)); intro gb129 hg w12 hbox hb; have n0_ := Aside0.mk (below_step (bl_ HB.out) hb); have n1_ := Aside0.mk (hbox); have n2_ := Aside0.mk ((hg_ hg (bl_ HB.out))); have n3_ := Aside0.mk ((hg_ hg (bl_ HB.out))); clear HB; have HB := n0_; have BK129 := n1_; have GW129 := n2_; have GE129 := n3_; clear n0_ n1_ n2_ n3_; clear hb hbox hg) | ((with_reducible refine gate_callee (f := 41) rfl ?_); refine goesL_ (some 12) rfl rfl Tryz.func41 (by kernel_rfl) rfl #[.string a0, .string ⟨#[40]⟩] rfl (by simp only [List.map_toArray, List.map_cons, List.map_nil] <;> rfl) ?_; (with_reducible refine (strings_CutPrefix.calls a0 (⟨#[40]⟩ : ByteArray) t130 false _ A2.out).mono ?_); rintro e w' ⟨rfl, ⟨nd, rfl⟩⟩; refine ⟨_, rfl, ?_⟩; (try (rw [drewN_self w12]; generalize hq_ : World.drewN w12 _ = w12; have l_ := lq_ hq_; have n0_ := Aside0.mk (kl_ (W := w12) BK129.out); have n1_ := Aside0.mk (bl_ (W := w12) HB.out); clear BK129 HB hq_ l_; have BK129 := n0_; have HB := n1_; clear n0_ n1_))) | ((with_reducible refine gate_callee (f := 30) rfl ?_); refine goesL_ (some 23) rfl rfl Tryz.func30 (by kernel_rfl) rfl #[.string a0] rfl (by simp only [List.map_toArray, List.map_cons, List.map_nil] <;> rfl) ?_; (with_reducible refine (sfitem_Next.calls a0 t148 t149 t150 t151 t154 t155 _ A11.out).mono ?_); rintro e w13 ⟨v152, rfl, ho0, hb⟩; refine ⟨_, rfl, ?_⟩; have n0_ := Aside0.mk (Kd.R_lower ho0 (below_size (bl_ HB.out))); have n1_ := Aside0.mk (blk_below (g := gb129) (o := .cells #[.string ⟨#[]⟩, .bool false, .int .i64 0, .int .i64 0, .string ⟨#[]⟩, .slice none 0 0, .slice none 0 0, .slice none 0 0] 34 (0, 0)) (kl_ BK129.out) hb); have n2_ := Aside0.mk (below_step (bl_ HB.out) hb); clear BK129; clear HB; have HO153 := n0_; have BK129 := n1_; have HB := n2_; clear n0_ n1_ n2_; (try clear hb); (try clear hb2); (try clear hk); (try clear hi); (try clear ho0)) | ((with_reducible refine gate_dst (N := 7) rfl ?_); refine box_event ?hg (N := 7) ?hd (cs := #[.int .i64 0, .int .i64 0, .string ⟨#[]⟩, .slice none 0 0]) (t := 31) ?hr ?_; (case hd => rfl); (case hg => rfl); (case hr => first | (go_simp; done) | (go_simp; rfl)); intro gb156 hg w14 hbox hb; have n0_ := Aside0.mk (Kd.R_below (rl_ HO153.out) hb); have n1_ := Aside0.mk (blk_below (g := gb129) (o := .cells #[.string ⟨#[]⟩, .bool false, .int .i64 0, .int .i64 0, .string ⟨#[]⟩, .slice none 0 0, .slice none 0 0, .slice none 0 0] 34 (0, 0)) (kl_ BK129.out) hb); have n2_ := Aside0.mk (below_step (bl_ HB.out) hb); have n3_ := Aside0.mk (hbox); have n4_ := Aside0.mk ((hg_ hg (bl_ HB.out))); have n5_ := Aside0.mk ((hg_ hg (bl_ HB.out))); have n6_ := Aside0.mk ((by rw [hg]; exact Nat.ne_of_lt (blk_lt (g := gb129) (o := .cells #[.string ⟨#[]⟩, .bool false, .int .i64 0, .int .i64 0, .string ⟨#[]⟩, .slice none 0 0, .slice none 0 0, .slice none 0 0] 34 (0, 0)) (kl_ BK129.out)) : gb129 ≠ gb156)); have n7_ := Aside0.mk ((by rw [hg]; exact Nat.ne_of_gt (blk_lt (g := gb129) (o := .cells #[.string ⟨#[]⟩, .bool false, .int .i64 0, .int .i64 0, .string ⟨#[]⟩, .slice none 0 0, .slice none 0 0, .slice none 0 0] 34 (0, 0)) (kl_ BK129.out)) : gb156 ≠ gb129)); clear HO153; clear BK129; clear HB; have HO153 := n0_; have BK129 := n1_; have HB := n2_; have BK156 := n3_; have GW156 := n4_; have GE156 := n5_; have NB129_156 := n6_; have NB156_129 := n7_; clear n0_ n1_ n2_ n3_ n4_ n5_ n6_ n7_; clear hb hbox hg; have hnb15 := NB156_129.out; have hnc15 := NB129_156.out; obtain ⟨hcz16_0, hcz16_1, hcz16_2, hcz16_3⟩ := c4_ BK156.out; obtain ⟨hfz16_0, hfz16_1, hfz16_2, hfz16_3⟩ := f4_ BK156.out; obtain ⟨Ao17, co17, eo17⟩ := Kd.R_slice HO153.out; subst eo17; obtain ⟨hcz18_0, hcz18_1, hcz18_2, hcz18_3, hcz18_4, hcz18_5, hcz18_6, hcz18_7⟩ := c8_ BK129.out; obtain ⟨hfz18_0, hfz18_1, hfz18_2, hfz18_3, hfz18_4, hfz18_5, hfz18_6, hfz18_7⟩ := f8_ BK129.out))
  refine bodyPost_ret (results_ctt rfl _ _ gb129 34 #[.string ⟨#[]⟩, .bool false, .int .i64 t148, .int .i64 t149, .string t150, .slice Ao17 t151.length co17, .slice none 0 0, .slice none 0 0] (0, 0) _ rfl (by (repeat refine kq_ ?_); refine blk_put (cs := #[.string ⟨#[]⟩, .bool false, .int .i64 t148, .int .i64 t149, .string t150, .slice Ao17 t151.length co17, .slice none 0 0, .slice none 0 0]) ?_ 7 _ rfl; (repeat refine kq_ ?_); refine blk_put (cs := #[.string ⟨#[]⟩, .bool false, .int .i64 t148, .int .i64 t149, .string t150, .slice Ao17 t151.length co17, .slice none 0 0, .slice none 0 0]) ?_ 6 _ rfl; (repeat refine kq_ ?_); refine blk_put (cs := #[.string ⟨#[]⟩, .bool false, .int .i64 t148, .int .i64 t149, .string t150, .slice none 0 0, .slice none 0 0, .slice none 0 0]) ?_ 5 _ rfl; (repeat refine kq_ ?_); refine blk_put (cs := #[.string ⟨#[]⟩, .bool false, .int .i64 t148, .int .i64 t149, .string ⟨#[]⟩, .slice none 0 0, .slice none 0 0, .slice none 0 0]) ?_ 4 _ rfl; (repeat refine kq_ ?_); refine blk_put (cs := #[.string ⟨#[]⟩, .bool false, .int .i64 t148, .int .i64 0, .string ⟨#[]⟩, .slice none 0 0, .slice none 0 0, .slice none 0 0]) ?_ 3 _ rfl; (repeat refine kq_ ?_); refine blk_put (cs := #[.string ⟨#[]⟩, .bool false, .int .i64 0, .int .i64 0, .string ⟨#[]⟩, .slice none 0 0, .slice none 0 0, .slice none 0 0]) ?_ 2 _ rfl; (repeat refine kq_ ?_); refine blk_put (cs := #[.string ⟨#[]⟩, .bool false, .int .i64 0, .int .i64 0, .string ⟨#[]⟩, .slice none 0 0, .slice none 0 0, .slice none 0 0]) ?_ 1 _ rfl; (repeat refine kq_ ?_); refine blk_put (cs := #[.string ⟨#[]⟩, .bool false, .int .i64 0, .int .i64 0, .string ⟨#[]⟩, .slice none 0 0, .slice none 0 0, .slice none 0 0]) ?_ 0 _ rfl; repeat (first | refine blk_far ?_ NB129_156.out _ | exact BK129.out)) Tryz.underlying34 rfl (by kernel_rfl)) rfl ?_
  exact ⟨_, _, _, by first | rfl | (simp [errW_none, errW_some] <;> rfl) | (simp [*, errW_none, errW_some] <;> rfl) | (simp [q_ne_nil]; done), by (with_reducible repeat (first | apply Kd.R_alloc | apply Kd.R_drewN | apply Kd.R_drew)); exact Kd.R_mono (Kd.R_far (p := ⟨gb129, 7, none⟩) (Kd.R_far (p := ⟨gb129, 6, none⟩) (Kd.R_far (p := ⟨gb129, 5, none⟩) (Kd.R_far (p := ⟨gb129, 4, none⟩) (Kd.R_far (p := ⟨gb129, 3, none⟩) (Kd.R_far (p := ⟨gb129, 2, none⟩) (Kd.R_far (p := ⟨gb129, 1, none⟩) (Kd.R_far (p := ⟨gb129, 0, none⟩) (Kd.R_far (p := ⟨gb156, 3, none⟩) (Kd.R_far (p := ⟨gb156, 2, none⟩) (Kd.R_far (p := ⟨gb156, 1, none⟩) (Kd.R_far (p := ⟨gb156, 0, none⟩) (Kd.R_types (Kd.R_types HO153.out BK156.out (by decide)) BK129.out (by decide)) (fun _ hk => hk.1.2) (.int .i64 t148)) (fun _ hk => hk.1.2) (.int .i64 t149)) (fun _ hk => hk.1.2) (.string t150)) (fun _ hk => hk.1.2) (.slice Ao17 t151.length co17)) (fun _ hk => hk.2) (.string ⟨#[]⟩)) (fun _ hk => hk.2) (.bool false)) (fun _ hk => hk.2) (.int .i64 t148)) (fun _ hk => hk.2) (.int .i64 t149)) (fun _ hk => hk.2) (.string t150)) (fun _ hk => hk.2) (.slice Ao17 t151.length co17)) (fun _ hk => hk.2) (.slice none 0 0)) (fun _ hk => hk.2) (.slice none 0 0)) (fun _ hk => (by simp [Value.ownBlock])), by first | exact Kd.S_nil _ _ _ _ _ | exact Kd.N_nil _ _ _ _ _ | exact Kd.V_nil _ _ _ _ _ | exact Kd.Q_nil _ _ _ _ _ | exact Kd.R_nil _ _ _ _ _, by first | exact Kd.R_nil _ _ _ _ _ | exact Kd.S_nil _ _ _ _ _, by repeat (first | (with_reducible first | exact HB.out | apply below_alloc | apply pw_below_drewN | apply below_drew1 | refine below_set ?_ GE129.out | refine below_set ?_ GE156.out) | exact HB.out)⟩
open Go.Proofs.YtjdbiicjfpgjkaaGreatDoor.Sf
set_option maxRecDepth 100000 in
set_option maxHeartbeats 2000000 in
theorem key_catch_panicking (pe pk pr : Nat) (s1 s2 : ByteArray) (n : Int) (w : World) (he : w.heap[pe]? = some (.cells #[.int .i64 n] 24 (0, 0))) (hk : SB w pk s1) (hr : SB w pr s2) (h1 : pk ≠ pr) :
    CallsD Tryz.prog 64 #[.pointer (some ⟨pe, 0, none⟩), .pointer (some ⟨pk, 0, none⟩), .pointer (some ⟨pr, 0, none⟩)] (.panicking [thrown false]) w fun e u' w' =>
      e = .returned (.tuple #[]) ∧ u' = .panicking [thrown true] ∧ w' = ((w.setCell ⟨pe, 0, none⟩ (.int .i64 50)).setCell ⟨pk, 0, none⟩ (.string ⟨#[]⟩)).setCell ⟨pr, 0, none⟩ (.string ⟨#[]⟩) := by
  have hne1 : pe ≠ pk := blk_ne he hk (by decide)
  have hne2 : pe ≠ pr := blk_ne he hr (by decide)
  have hc0 : w.cell? ⟨pe, 0, none⟩ = some (.int .i64 n) := (blk_cell he 0).trans rfl
  have hf0 := blk_frozen he 0
  have hc1 := hk.cell
  have hf1 := blk_frozen hk 0
  have hc2 := hr.cell
  have hf2 := blk_frozen hr 0
  refine callsD_of_wpS Tryz.func64 rfl fun c₀ cs hu => ?_
  apply wpS_seq
  apply wpS_region
  simp [wpOpsS, go_sem, recoverD, hu, Tryz.ntmps64, Exit.thenS]
  refine (caught_some _).mono ?_
  rintro e w' ⟨rfl, rfl⟩
  simp [go_sem, hc0, hf0]
  refine wpS_of_wp ?_
  go_wp2
  simp [bodyPostS, results, Tryz.results64]
set_option maxRecDepth 100000 in
set_option maxHeartbeats 2000000 in
theorem key_catch_idle (pe pk pr : Nat) (n : Int) (w : World) (he : w.heap[pe]? = some (.cells #[.int .i64 n] 24 (0, 0))) :
    CallsD Tryz.prog 64 #[.pointer (some ⟨pe, 0, none⟩), .pointer (some ⟨pk, 0, none⟩), .pointer (some ⟨pr, 0, none⟩)] .returning w fun e u' w' =>
      e = .returned (.tuple #[]) ∧ u' = .returning ∧ w' = w.setCell ⟨pe, 0, none⟩ (.int .i64 0) := by
  have hc0 : w.cell? ⟨pe, 0, none⟩ = some (.int .i64 n) := (blk_cell he 0).trans rfl
  have hf0 := blk_frozen he 0
  refine callsD_of_wpS Tryz.func64 rfl fun c₀ cs hu => ?_
  apply wpS_seq
  apply wpS_region
  simp [wpOpsS, go_sem, recoverD, hu, Tryz.ntmps64, Exit.thenS]
  refine (caught_none _).mono ?_
  rintro e w' ⟨rfl, rfl⟩
  simp [go_sem, hc0, hf0]
  refine wpS_of_wp ?_
  go_wp2
  cases c₀
  simp_all [bodyPostS, results, Tryz.results64]
def keyF (s : ByteArray) : ByteArray × ByteArray × Int := match rdKey s with | some (k, t) => (k, t, 0) | none => (⟨#[]⟩, ⟨#[]⟩, 50)
/-- Key's four blocks. -/
structure K4 (w W : World) (s : ByteArray) : Prop where
  key : SB W w.heap.size ⟨#[]⟩
  rest : SB W (w.heap.size + 1) ⟨#[]⟩
  err : EB W (w.heap.size + 1 + 1) 0
  rd : Rd W (w.heap.size + 1 + 1 + 1) s
  below : Below w.heap.size w W
theorem K4.new (w : World) (s : ByteArray) : K4 w ((((w.alloc (.cells #[.string ⟨#[]⟩] 9)).alloc (.cells #[.string ⟨#[]⟩] 9)).alloc (.cells #[.int .i64 0] 24)).alloc (.cells #[.string s] 82)) s where
  key := blk_alloc (blk_alloc (blk_alloc (by have := blk_new w (.cells #[.string ⟨#[]⟩] 9); simpa using this) _) _) _
  rest := blk_alloc (blk_alloc (by have := blk_new (w.alloc (.cells #[.string ⟨#[]⟩] 9)) (.cells #[.string ⟨#[]⟩] 9); simpa using this) _) _
  err := blk_alloc (by have := blk_new ((w.alloc (.cells #[.string ⟨#[]⟩] 9)).alloc (.cells #[.string ⟨#[]⟩] 9)) (.cells #[.int .i64 0] 24); simpa using this) _
  rd := by have := blk_new (((w.alloc (.cells #[.string ⟨#[]⟩] 9)).alloc (.cells #[.string ⟨#[]⟩] 9)).alloc (.cells #[.int .i64 0] 24)) (.cells #[.string s] 82); simpa [Rd] using this
  below := ((((Below.refl _ _).alloc (Nat.le_refl _) _).alloc (by simp) _).alloc (by simp; omega) _).alloc (by simp; omega) _
set_option maxRecDepth 100000 in
set_option maxHeartbeats 4000000 in
theorem Key_calls (s : ByteArray) (w : World) (hs : s.size ≤ 2199023255552) :
    Calls Tryz.prog 35 #[.string s] w fun e w' => e = .returned (.tuple #[.string (keyF s).1, .string (keyF s).2.1, .int .i64 (keyF s).2.2]) ∧ Below w.heap.size w w' := by
  have hmf : ∀ (fn : Fn) (first cap : Array Value) (w : World), (Instr.makeFunc fn first cap).run Tryz.prog w = .ok (.func fn first cap) w := fun _ _ _ _ => rfl
  have h4 := Aside0.mk (K4.new w s)
  go_enter_defers Tryz.func35, Tryz.ntmps35
  go_upto_region 3 with (fail)
  generalize (((w.alloc (.cells #[.string ⟨#[]⟩] 9)).alloc (.cells #[.string ⟨#[]⟩] 9)).alloc (.cells #[.int .i64 0] 24)).alloc (.cells #[.string s] 82) = w3 at *
  have hKc := key_calls _ s w3 (by omega) h4.out.rd
  cases hN : rdKey s with
  | none =>
    have hF : keyF s = (⟨#[]⟩, ⟨#[]⟩, 50) := by unfold keyF; rw [hN]
    have HF := Aside0.mk hF
    rw [hN] at hKc
    have hKy := Aside0.mk hKc
    clear hKc hN hF
    go_wp2_with (first | (go_at_call 65; refine hKy.out.mono ?_; rintro e w4 ⟨rfl, hB4⟩))
    have hk4 : SB w4 w.heap.size ⟨#[]⟩ := hB4.blk h4.out.key (by omega)
    have hr4 : SB w4 (w.heap.size + 1) ⟨#[]⟩ := hB4.blk h4.out.rest (by omega)
    have he4 : EB w4 (w.heap.size + 1 + 1) 0 := hB4.blk h4.out.err (by omega)
    have hb4 := hB4.toBelow h4.out.below (by omega)
    clear hB4
    refine leaves_cons (f := 64) (args := #[.pointer (some ⟨w.heap.size + 1 + 1, 0, none⟩), .pointer (some ⟨w.heap.size, 0, none⟩), .pointer (some ⟨w.heap.size + 1, 0, none⟩)]) (by simp) (by simp [go_sem]) ?_
    refine (key_catch_panicking _ _ _ _ _ _ _ he4 hk4 hr4 (by omega)).mono ?_
    rintro e u' w'' ⟨rfl, rfl, rfl⟩
    have hk5 := ((hk4.far (p := ⟨w.heap.size + 1 + 1, 0, none⟩) (by simp only; omega) (.int .i64 50)).set ⟨#[]⟩).far (p := ⟨w.heap.size + 1, 0, none⟩) (by simp only; omega) (.string ⟨#[]⟩)
    have hr5 := ((hr4.far (p := ⟨w.heap.size + 1 + 1, 0, none⟩) (by simp only; omega) (.int .i64 50)).far (p := ⟨w.heap.size, 0, none⟩) (by simp only; omega) (.string ⟨#[]⟩)).set ⟨#[]⟩
    have he5 := ((he4.set 50).far (p := ⟨w.heap.size, 0, none⟩) (by simp only; omega) (.string ⟨#[]⟩)).far (p := ⟨w.heap.size + 1, 0, none⟩) (by simp only; omega) (.string ⟨#[]⟩)
    have hb5 := ((hb4.setCell (p := ⟨w.heap.size + 1 + 1, 0, none⟩) (by simp only; omega) (.int .i64 50)).setCell (p := ⟨w.heap.size, 0, none⟩) (by simp only; omega) (.string ⟨#[]⟩)).setCell (p := ⟨w.heap.size + 1, 0, none⟩) (by simp only; omega) (.string ⟨#[]⟩)
    have c1 := hk5.cell
    have c2 := hr5.cell
    have c3 := he5.cell
    generalize ((w4.setCell ⟨w.heap.size + 1 + 1, 0, none⟩ (.int .i64 50)).setCell ⟨w.heap.size, 0, none⟩ (.string ⟨#[]⟩)).setCell ⟨w.heap.size + 1, 0, none⟩ (.string ⟨#[]⟩) = w6 at *
    refine ⟨.tuple #[.string ⟨#[]⟩, .string ⟨#[]⟩, .int .i64 50], ?_, ?_⟩
    · simp [results, Tryz.results35, go_sem, c1, c2, c3]
    · rw [HF.out]; exact ⟨rfl, hb5⟩
  | some kr =>
    obtain ⟨k, t⟩ := kr
    have hF : keyF s = (k, t, 0) := by unfold keyF; rw [hN]
    have HF := Aside0.mk hF
    rw [hN] at hKc
    have hKy := Aside0.mk hKc
    clear hKc hN hF
    go_upto_region 4 with (first | (go_at_call 65; refine hKy.out.mono ?_; rintro e w4 ⟨⟨rfl, hR4⟩, hB4⟩; have hk4 : SB w4 w.heap.size ⟨#[]⟩ := hB4.blk h4.out.key (by omega); have hc4 := hk4.cell; have hf4 := blk_frozen hk4 0))
    have hr5 : SB (w4.setCell ⟨w.heap.size, 0, none⟩ (.string k)) (w.heap.size + 1) ⟨#[]⟩ := SB.far (hB4.blk h4.out.rest (by omega)) (p := ⟨w.heap.size, 0, none⟩) (by simp only; omega) _
    have he5 : EB (w4.setCell ⟨w.heap.size, 0, none⟩ (.string k)) (w.heap.size + 1 + 1) 0 := EB.far (hB4.blk h4.out.err (by omega)) (p := ⟨w.heap.size, 0, none⟩) (by simp only; omega) _
    have hk5 := hk4.set k
    have hR5 := hR4.far (p := ⟨w.heap.size, 0, none⟩) (by simp only; omega) (.string k)
    have hb5 := (hB4.toBelow h4.out.below (by omega)).setCell (p := ⟨w.heap.size, 0, none⟩) (by simp only; omega) (.string k)
    clear hR4 hB4 hk4 hc4 hf4 hKy
    generalize w4.setCell ⟨w.heap.size, 0, none⟩ (.string k) = w5 at *
    have c1 := hk5.cell
    have f1 := blk_frozen hk5 0
    have c2 := hr5.cell
    have f2 := blk_frozen hr5 0
    have c3 := he5.cell
    have f3 := blk_frozen he5 0
    have c4 := hR5.cell
    go_region
    have hk6 := ((hk5.set k).far (p := ⟨w.heap.size + 1, 0, none⟩) (by simp only; omega) (.string t)).far (p := ⟨w.heap.size + 1 + 1, 0, none⟩) (by simp only; omega) (.int .i64 0)
    have hr6 := ((hr5.far (p := ⟨w.heap.size, 0, none⟩) (by simp only; omega) (.string k)).set t).far (p := ⟨w.heap.size + 1 + 1, 0, none⟩) (by simp only; omega) (.int .i64 0)
    have he6 := ((he5.far (p := ⟨w.heap.size, 0, none⟩) (by simp only; omega) (.string k)).far (p := ⟨w.heap.size + 1, 0, none⟩) (by simp only; omega) (.string t)).set 0
    have hb6 := ((hb5.setCell (p := ⟨w.heap.size, 0, none⟩) (by simp only; omega) (.string k)).setCell (p := ⟨w.heap.size + 1, 0, none⟩) (by simp only; omega) (.string t)).setCell (p := ⟨w.heap.size + 1 + 1, 0, none⟩) (by simp only; omega) (.int .i64 0)
    generalize ((w5.setCell ⟨w.heap.size, 0, none⟩ (.string k)).setCell ⟨w.heap.size + 1, 0, none⟩ (.string t)).setCell ⟨w.heap.size + 1 + 1, 0, none⟩ (.int .i64 0) = w6 at *
    have hk7 : SB w6.drew w.heap.size k := hk6
    have hr7 : SB w6.drew (w.heap.size + 1) t := hr6
    have he7 : EB w6.drew (w.heap.size + 1 + 1) 0 := he6
    have hb7 : Below w.heap.size w w6.drew := below_drew1 hb6
    generalize w6.drew = w7 at *
    clear c1 f1 c2 f2 c3 f3 c4
    go_wp2
    refine leaves_cons (f := 64) (args := #[.pointer (some ⟨w.heap.size + 1 + 1, 0, none⟩), .pointer (some ⟨w.heap.size, 0, none⟩), .pointer (some ⟨w.heap.size + 1, 0, none⟩)]) (by simp) (by simp [go_sem]) ?_
    refine (key_catch_idle _ _ _ _ _ he7).mono ?_
    rintro e u' w'' ⟨rfl, rfl, rfl⟩
    have c1 := (hk7.far (p := ⟨w.heap.size + 1 + 1, 0, none⟩) (by simp only; omega) (.int .i64 0)).cell
    have c2 := (hr7.far (p := ⟨w.heap.size + 1 + 1, 0, none⟩) (by simp only; omega) (.int .i64 0)).cell
    have c3 := (he7.set 0).cell
    have hb8 := hb7.setCell (p := ⟨w.heap.size + 1 + 1, 0, none⟩) (by simp only; omega) (.int .i64 0)
    generalize w7.setCell ⟨w.heap.size + 1 + 1, 0, none⟩ (.int .i64 0) = w8 at *
    refine ⟨.tuple #[.string k, .string t, .int .i64 0], ?_, ?_⟩
    · simp [results, Tryz.results35, go_sem, c1, c2, c3]
    · rw [HF.out]; exact ⟨rfl, hb8⟩
def sfitem_Key.f (a0 : ByteArray) : Option (ByteArray × ByteArray × Int) := if a0.size ≤ 2199023255552 then some (keyF a0) else none
theorem sfitem_Key.calls (a0 : ByteArray) (r1 : ByteArray) (r2 : ByteArray) (r3 : Int) (w : World) (h : sfitem_Key.f a0 = some (r1, r2, r3)) :
    Calls Tryz.prog 35 #[.string a0] w fun e w' => e = .returned (.tuple #[.string r1, .string r2, .int .i64 r3]) ∧ Below w.heap.size w w' := by
  unfold sfitem_Key.f at h
  by_cases hs : a0.size ≤ 2199023255552
  · rw [if_pos hs] at h
    have h := Option.some.inj h
    refine (Key_calls a0 w hs).mono ?_
    rw [h]
    exact fun e w' h => h
  · rw [if_neg hs] at h; cases h
def sfield_keyed.f (k : Nat) (a0 : ByteArray) : Option (ByteArray × Bool × Int × Int × ByteArray × (List (S60)) × (List (S31)) × (List (S60)) × ByteArray × Int) := (sfitem_Key.f a0).bind fun bt158 => (if bt158.2.2 = 0 then ((strings_CutPrefix.f bt158.2.1 (⟨#[61]⟩ : ByteArray)).bind fun bt162 => (if bt162.2 = true then ((sfield_member.f k bt162.1).bind fun bt164 => (some (bt158.1, bt164.2.1, bt164.2.2.1, bt164.2.2.2.1, bt164.2.2.2.2.1, bt164.2.2.2.2.2.1, bt164.2.2.2.2.2.2.1, bt164.2.2.2.2.2.2.2.1, bt164.2.2.2.2.2.2.2.2.1, bt164.2.2.2.2.2.2.2.2.2))) else ((sfitem_Params.f bt158.2.1).bind fun bt180 => (some (bt158.1, false, 6, 1, (⟨#[]⟩ : ByteArray), bt180.1, ([] : List (S31)), ([] : List (S60)), bt180.2.1, bt180.2.2))))) else (some ((⟨#[]⟩ : ByteArray), false, 0, 0, (⟨#[]⟩ : ByteArray), ([] : List (S60)), ([] : List (S31)), ([] : List (S60)), (⟨#[]⟩ : ByteArray), bt158.2.2)))
theorem sfield_keyed.mono : ∀ a0 k, LeO (sfield_keyed.f k a0) (sfield_keyed.f (k + 1) a0) := by
  intro a0 k
  unfold sfield_keyed.f
  repeat' first
      | (with_reducible exact sfield_member.mono _ _)
      | (with_reducible exact LeO.refl _)
      | (with_reducible exact LeO.none _)
      | (with_reducible refine LeO.ite ?_ ?_)
      | (with_reducible refine LeO.bind ?_ (fun _ => ?_))
      | exact sfield_member.mono _ _
      | exact LeO.none _
      | refine LeO.ite ?_ ?_
      | refine LeO.bind ?_ (fun _ => ?_)
set_option maxHeartbeats 8000000 in
set_option maxRecDepth 100000 in
theorem sfield_keyed.calls (k : Nat) (a0 : ByteArray) (r1 : ByteArray) (r2 : Bool) (r3 : Int) (r4 : Int) (r5 : ByteArray) (r6 : List (S60)) (r7 : List (S31)) (r8 : List (S60)) (r9 : ByteArray) (r10 : Int) (w : World) (h : sfield_keyed.f k a0 = some (r1, r2, r3, r4, r5, r6, r7, r8, r9, r10)) :
    Calls Tryz.prog 26 #[.string a0] w fun e w' => ∃ v5_ v6_ v7_ : Value, e = .returned (.tuple #[.agg #[.string r1, .bool r2, .int .i64 r3, .int .i64 r4, .string r5, v5_, v6_, v7_], .string r9, .int .i64 r10]) ∧ Kd.R k60 60 w' w.heap.size (fun k_ => some k_ ≠ (v7_ : Value).ownBlock) v5_ r6 ∧ Kd.S k31 31 w' w.heap.size (fun k_ => some k_ ≠ (v5_ : Value).ownBlock ∧ some k_ ≠ (v7_ : Value).ownBlock) v6_ r7 ∧ Kd.R k60 60 w' w.heap.size (fun k_ => some k_ ≠ (v5_ : Value).ownBlock) v7_ r8 ∧ Below w.heap.size w w' := by
  have hu34 := Tryz.underlying34
  have hu31 := Tryz.underlying31
  have HB := Aside0.mk (Below.refl w.heap.size w)
  have H : ((sfitem_Key.f a0).bind fun bt158 => (if bt158.2.2 = 0 then ((strings_CutPrefix.f bt158.2.1 (⟨#[61]⟩ : ByteArray)).bind fun bt162 => (if bt162.2 = true then ((sfield_member.f k bt162.1).bind fun bt164 => (some (bt158.1, bt164.2.1, bt164.2.2.1, bt164.2.2.2.1, bt164.2.2.2.2.1, bt164.2.2.2.2.2.1, bt164.2.2.2.2.2.2.1, bt164.2.2.2.2.2.2.2.1, bt164.2.2.2.2.2.2.2.2.1, bt164.2.2.2.2.2.2.2.2.2))) else ((sfitem_Params.f bt158.2.1).bind fun bt180 => (some (bt158.1, false, 6, 1, (⟨#[]⟩ : ByteArray), bt180.1, ([] : List (S31)), ([] : List (S60)), bt180.2.1, bt180.2.2))))) else (some ((⟨#[]⟩ : ByteArray), false, 0, 0, (⟨#[]⟩ : ByteArray), ([] : List (S60)), ([] : List (S31)), ([] : List (S60)), (⟨#[]⟩ : ByteArray), bt158.2.2)))) = some (r1, r2, r3, r4, r5, r6, r7, r8, r9, r10) := h
  clear h
  replace H := Option.bind_eq_some_iff.mp H
  obtain ⟨⟨t158, t159, t160⟩, A20, H⟩ := H
  (try dsimp only at H)
  have A2 := Aside0.mk A20
  clear A20
  by_cases c3 : t160 = 0
  · rw [if_pos c3] at H
    obtain ⟨c3b0, c3b1⟩ := eT_ c3
    clear c3
    replace H := Option.bind_eq_some_iff.mp H
    obtain ⟨⟨t162, t163⟩, A40, H⟩ := H
    (try dsimp only at H)
    have A4 := Aside0.mk A40
    clear A40
    by_cases c5 : t163 = true
    · subst c5
      rw [if_pos rfl] at H
      replace H := Option.bind_eq_some_iff.mp H
      obtain ⟨⟨t164, t165, t166, t167, t168, t169, t172, t175, t178, t179⟩, A60, H⟩ := H
      (try dsimp only at H)
      have A6 := Aside0.mk A60
      clear A60
      simp only [Option.some.injEq, Prod.mk.injEq] at H
      obtain ⟨rfl, rfl, rfl, rfl, rfl, rfl, rfl, rfl, rfl, rfl⟩ := H
      go_enter Tryz.func26, Tryz.ntmps26
      go_wp2_with (first | ((with_reducible refine gate_dst (N := 2) rfl ?_); refine box_event ?hg (N := 2) ?hd (cs := #[.string ⟨#[]⟩, .bool false, .int .i64 0, .int .i64 0, .string ⟨#[]⟩, .slice none 0 0, .slice none 0 0, .slice none 0 0]) (t := 34) ?hr ?_; (case hd => rfl); (case hg => rfl); (case hr => first | (go_simp; done) | (go_simp; rfl)); intro gb157 hg w7 hbox hb; have n0_ := Aside0.mk (below_step (bl_ HB.out) hb); have n1_ := Aside0.mk (hbox); have n2_ := Aside0.mk ((hg_ hg (bl_ HB.out))); have n3_ := Aside0.mk ((hg_ hg (bl_ HB.out))); clear HB; have HB := n0_; have BK157 := n1_; have GW157 := n2_; have GE157 := n3_; clear n0_ n1_ n2_ n3_; clear hb hbox hg) | ((with_reducible refine gate_callee (f := 35) rfl ?_); refine goesL_ (some 13) rfl rfl Tryz.func35 (by kernel_rfl) rfl #[.string a0] rfl (by simp only [List.map_toArray, List.map_cons, List.map_nil] <;> rfl) ?_; (with_reducible refine (sfitem_Key.calls a0 t158 t159 t160 _ A2.out).mono ?_); rintro e w8 ⟨rfl, hb⟩; refine ⟨_, rfl, ?_⟩; have n0_ := Aside0.mk (blk_below (g := gb157) (o := .cells #[.string ⟨#[]⟩, .bool false, .int .i64 0, .int .i64 0, .string ⟨#[]⟩, .slice none 0 0, .slice none 0 0, .slice none 0 0] 34 (0, 0)) (kl_ BK157.out) hb); have n1_ := Aside0.mk (below_step (by repeat (first | (with_reducible first | exact HB.out | apply below_alloc | apply pw_below_drewN | apply below_drew1 | refine below_set ?_ GE157.out) | exact HB.out)) hb); clear BK157; clear HB; have BK157 := n0_; have HB := n1_; clear n0_ n1_; (try clear hb); (try clear hb2); (try clear hk); (try clear hi)) | ((with_reducible refine gate_dst (N := 8) rfl ?_); refine box_event ?hg (N := 8) ?hd (cs := #[.string ⟨#[]⟩, .bool false, .int .i64 0, .int .i64 0, .string ⟨#[]⟩, .slice none 0 0, .slice none 0 0, .slice none 0 0]) (t := 34) ?hr ?_; (case hd => rfl); (case hg => rfl); (case hr => first | (go_simp; done) | (go_simp; rfl)); intro gb161 hg w9 hbox hb; have n0_ := Aside0.mk (blk_below (g := gb157) (o := .cells #[.string ⟨#[]⟩, .bool false, .int .i64 0, .int .i64 0, .string ⟨#[]⟩, .slice none 0 0, .slice none 0 0, .slice none 0 0] 34 (0, 0)) (kl_ BK157.out) hb); have n1_ := Aside0.mk (below_step (by repeat (first | (with_reducible first | exact HB.out | apply below_alloc | apply pw_below_drewN | apply below_drew1 | refine below_set ?_ GE157.out) | exact HB.out)) hb); have n2_ := Aside0.mk (hbox); have n3_ := Aside0.mk ((by rw [hg]; exact (below_size (by repeat (first | (with_reducible first | exact HB.out | apply below_alloc | apply pw_below_drewN | apply below_drew1 | refine below_set ?_ GE157.out) | exact HB.out))) : w.heap.size ≤ gb161)); have n4_ := Aside0.mk ((by rw [hg]; exact (below_size (by repeat (first | (with_reducible first | exact HB.out | apply below_alloc | apply pw_below_drewN | apply below_drew1 | refine below_set ?_ GE157.out) | exact HB.out))) : w.heap.size ≤ gb161)); have n5_ := Aside0.mk ((by rw [hg]; exact Nat.ne_of_lt (blk_lt (g := gb157) (o := .cells #[.string ⟨#[]⟩, .bool false, .int .i64 0, .int .i64 0, .string ⟨#[]⟩, .slice none 0 0, .slice none 0 0, .slice none 0 0] 34 (0, 0)) (kl_ BK157.out)) : gb157 ≠ gb161)); have n6_ := Aside0.mk ((by rw [hg]; exact Nat.ne_of_gt (blk_lt (g := gb157) (o := .cells #[.string ⟨#[]⟩, .bool false, .int .i64 0, .int .i64 0, .string ⟨#[]⟩, .slice none 0 0, .slice none 0 0, .slice none 0 0] 34 (0, 0)) (kl_ BK157.out)) : gb161 ≠ gb157)); clear BK157; clear HB; have BK157 := n0_; have HB := n1_; have BK161 := n2_; have GW161 := n3_; have GE161 := n4_; have NB157_161 := n5_; have NB161_157 := n6_; clear n0_ n1_ n2_ n3_ n4_ n5_ n6_; clear hb hbox hg; have hnb10 := NB161_157.out; have hnc10 := NB157_161.out; obtain ⟨hcz11_0, hcz11_1, hcz11_2, hcz11_3, hcz11_4, hcz11_5, hcz11_6, hcz11_7⟩ := c8_ BK161.out; obtain ⟨hfz11_0, hfz11_1, hfz11_2, hfz11_3, hfz11_4, hfz11_5, hfz11_6, hfz11_7⟩ := f8_ BK161.out) | ((with_reducible refine gate_callee (f := 41) rfl ?_); refine goesL_ (some 25) rfl rfl Tryz.func41 (by kernel_rfl) rfl #[.string t159, .string ⟨#[61]⟩] rfl (by simp only [List.map_toArray, List.map_cons, List.map_nil] <;> rfl) ?_; (with_reducible refine (strings_CutPrefix.calls t159 (⟨#[61]⟩ : ByteArray) t162 true _ A4.out).mono ?_); rintro e w' ⟨rfl, ⟨nd, rfl⟩⟩; refine ⟨_, rfl, ?_⟩) | ((with_reducible refine gate_callee (f := 24) rfl ?_); refine goesL_ (some 31) rfl rfl Tryz.func24 (by kernel_rfl) rfl #[.string t162] rfl (by simp only [List.map_toArray, List.map_cons, List.map_nil] <;> rfl) ?_; (with_reducible refine (sfield_member.calls k t162 t164 t165 t166 t167 t168 t169 t172 t175 t178 t179 _ A6.out).mono ?_); rintro e w12 ⟨v170, v173, v176, rfl, ho0, ho1, ho2, hb⟩; refine ⟨_, rfl, ?_⟩; have n0_ := Aside0.mk (Kd.R_lower ho0 (below_size (by repeat (first | (with_reducible first | exact HB.out | apply below_alloc | apply pw_below_drewN | apply below_drew1 | refine below_set ?_ GE157.out | refine below_set ?_ GE161.out) | exact HB.out)))); have n1_ := Aside0.mk (Kd.S_lower ho1 (below_size (by repeat (first | (with_reducible first | exact HB.out | apply below_alloc | apply pw_below_drewN | apply below_drew1 | refine below_set ?_ GE157.out | refine below_set ?_ GE161.out) | exact HB.out)))); have n2_ := Aside0.mk (Kd.R_lower ho2 (below_size (by repeat (first | (with_reducible first | exact HB.out | apply below_alloc | apply pw_below_drewN | apply below_drew1 | refine below_set ?_ GE157.out | refine below_set ?_ GE161.out) | exact HB.out)))); have n3_ := Aside0.mk (blk_below (g := gb157) (o := .cells #[.string ⟨#[]⟩, .bool false, .int .i64 0, .int .i64 0, .string ⟨#[]⟩, .slice none 0 0, .slice none 0 0, .slice none 0 0] 34 (0, 0)) (by (repeat refine kq_ ?_); refine blk_far ?_ NB157_161.out _; (repeat refine kq_ ?_); refine blk_far ?_ NB157_161.out _; (repeat refine kq_ ?_); refine blk_far ?_ NB157_161.out _; (repeat refine kq_ ?_); refine blk_far ?_ NB157_161.out _; (repeat refine kq_ ?_); refine blk_far ?_ NB157_161.out _; (repeat refine kq_ ?_); refine blk_far ?_ NB157_161.out _; (repeat refine kq_ ?_); refine blk_far ?_ NB157_161.out _; (repeat refine kq_ ?_); refine blk_far ?_ NB157_161.out _; (repeat refine kq_ ?_); exact BK157.out) hb); have n4_ := Aside0.mk (blk_below (g := gb161) (o := .cells #[.string ⟨#[]⟩, .bool false, .int .i64 6, .int .i64 1, .string ⟨#[]⟩, .slice none 0 0, .slice none 0 0, .slice none 0 0] 34 (0, 0)) (by (repeat refine kq_ ?_); refine blk_put (cs := #[.string ⟨#[]⟩, .bool false, .int .i64 6, .int .i64 1, .string ⟨#[]⟩, .slice none 0 0, .slice none 0 0, .slice none 0 0]) ?_ 7 _ rfl; (repeat refine kq_ ?_); refine blk_put (cs := #[.string ⟨#[]⟩, .bool false, .int .i64 6, .int .i64 1, .string ⟨#[]⟩, .slice none 0 0, .slice none 0 0, .slice none 0 0]) ?_ 6 _ rfl; (repeat refine kq_ ?_); refine blk_put (cs := #[.string ⟨#[]⟩, .bool false, .int .i64 6, .int .i64 1, .string ⟨#[]⟩, .slice none 0 0, .slice none 0 0, .slice none 0 0]) ?_ 5 _ rfl; (repeat refine kq_ ?_); refine blk_put (cs := #[.string ⟨#[]⟩, .bool false, .int .i64 6, .int .i64 1, .string ⟨#[]⟩, .slice none 0 0, .slice none 0 0, .slice none 0 0]) ?_ 4 _ rfl; (repeat refine kq_ ?_); refine blk_put (cs := #[.string ⟨#[]⟩, .bool false, .int .i64 6, .int .i64 0, .string ⟨#[]⟩, .slice none 0 0, .slice none 0 0, .slice none 0 0]) ?_ 3 _ rfl; (repeat refine kq_ ?_); refine blk_put (cs := #[.string ⟨#[]⟩, .bool false, .int .i64 0, .int .i64 0, .string ⟨#[]⟩, .slice none 0 0, .slice none 0 0, .slice none 0 0]) ?_ 2 _ rfl; (repeat refine kq_ ?_); refine blk_put (cs := #[.string ⟨#[]⟩, .bool false, .int .i64 0, .int .i64 0, .string ⟨#[]⟩, .slice none 0 0, .slice none 0 0, .slice none 0 0]) ?_ 1 _ rfl; (repeat refine kq_ ?_); refine blk_put (cs := #[.string ⟨#[]⟩, .bool false, .int .i64 0, .int .i64 0, .string ⟨#[]⟩, .slice none 0 0, .slice none 0 0, .slice none 0 0]) ?_ 0 _ rfl; (repeat refine kq_ ?_); exact BK161.out) hb); have n5_ := Aside0.mk (below_step (by repeat (first | (with_reducible first | exact HB.out | apply below_alloc | apply pw_below_drewN | apply below_drew1 | refine below_set ?_ GE157.out | refine below_set ?_ GE161.out) | exact HB.out)) hb); clear BK157; clear BK161; clear HB; have HO171 := n0_; have HO174 := n1_; have HO177 := n2_; have BK157 := n3_; have BK161 := n4_; have HB := n5_; clear n0_ n1_ n2_ n3_ n4_ n5_; (try clear hb); (try clear hb2); (try clear hk); (try clear hi); (try clear ho0); (try clear ho1); (try clear ho2); obtain ⟨hcz13_0, hcz13_1, hcz13_2, hcz13_3, hcz13_4, hcz13_5, hcz13_6, hcz13_7⟩ := c8_ BK161.out; obtain ⟨hfz13_0, hfz13_1, hfz13_2, hfz13_3, hfz13_4, hfz13_5, hfz13_6, hfz13_7⟩ := f8_ BK161.out; obtain ⟨Ao14, co14, eo14⟩ := Kd.R_slice HO171.out; subst eo14; obtain ⟨Ao15, co15, eo15⟩ := Kd.S_slice HO174.out; subst eo15; obtain ⟨Ao16, co16, eo16⟩ := Kd.R_slice HO177.out; subst eo16; obtain ⟨hcz17_0, hcz17_1, hcz17_2, hcz17_3, hcz17_4, hcz17_5, hcz17_6, hcz17_7⟩ := c8_ BK157.out; obtain ⟨hfz17_0, hfz17_1, hfz17_2, hfz17_3, hfz17_4, hfz17_5, hfz17_6, hfz17_7⟩ := f8_ BK157.out))
      refine bodyPost_ret (results_ctt rfl _ _ gb157 34 #[.string t158, .bool t165, .int .i64 t166, .int .i64 t167, .string t168, .slice Ao14 t169.length co14, .slice Ao15 t172.length co15, .slice Ao16 t175.length co16] (0, 0) _ rfl (by (repeat refine kq_ ?_); refine blk_put (cs := #[.string t158, .bool t165, .int .i64 t166, .int .i64 t167, .string t168, .slice Ao14 t169.length co14, .slice Ao15 t172.length co15, .slice none 0 0]) ?_ 7 _ rfl; (repeat refine kq_ ?_); refine blk_put (cs := #[.string t158, .bool t165, .int .i64 t166, .int .i64 t167, .string t168, .slice Ao14 t169.length co14, .slice none 0 0, .slice none 0 0]) ?_ 6 _ rfl; (repeat refine kq_ ?_); refine blk_put (cs := #[.string t158, .bool t165, .int .i64 t166, .int .i64 t167, .string t168, .slice none 0 0, .slice none 0 0, .slice none 0 0]) ?_ 5 _ rfl; (repeat refine kq_ ?_); refine blk_put (cs := #[.string t158, .bool t165, .int .i64 t166, .int .i64 t167, .string ⟨#[]⟩, .slice none 0 0, .slice none 0 0, .slice none 0 0]) ?_ 4 _ rfl; (repeat refine kq_ ?_); refine blk_put (cs := #[.string t158, .bool t165, .int .i64 t166, .int .i64 0, .string ⟨#[]⟩, .slice none 0 0, .slice none 0 0, .slice none 0 0]) ?_ 3 _ rfl; (repeat refine kq_ ?_); refine blk_put (cs := #[.string t158, .bool t165, .int .i64 0, .int .i64 0, .string ⟨#[]⟩, .slice none 0 0, .slice none 0 0, .slice none 0 0]) ?_ 2 _ rfl; (repeat refine kq_ ?_); refine blk_put (cs := #[.string t158, .bool false, .int .i64 0, .int .i64 0, .string ⟨#[]⟩, .slice none 0 0, .slice none 0 0, .slice none 0 0]) ?_ 1 _ rfl; (repeat refine kq_ ?_); refine blk_put (cs := #[.string ⟨#[]⟩, .bool false, .int .i64 0, .int .i64 0, .string ⟨#[]⟩, .slice none 0 0, .slice none 0 0, .slice none 0 0]) ?_ 0 _ rfl; (repeat refine kq_ ?_); refine blk_far ?_ NB157_161.out _; (repeat refine kq_ ?_); refine blk_far ?_ NB157_161.out _; (repeat refine kq_ ?_); refine blk_far ?_ NB157_161.out _; (repeat refine kq_ ?_); refine blk_far ?_ NB157_161.out _; (repeat refine kq_ ?_); refine blk_far ?_ NB157_161.out _; (repeat refine kq_ ?_); refine blk_far ?_ NB157_161.out _; (repeat refine kq_ ?_); refine blk_far ?_ NB157_161.out _; (repeat refine kq_ ?_); refine blk_far ?_ NB157_161.out _; (repeat refine kq_ ?_); refine blk_far ?_ NB157_161.out _; (repeat refine kq_ ?_); exact BK157.out) Tryz.underlying34 rfl (by kernel_rfl)) rfl ?_
      exact ⟨_, _, _, by first | rfl | (simp [errW_none, errW_some] <;> rfl) | (simp [*, errW_none, errW_some] <;> rfl) | (simp [q_ne_nil]; done), by (with_reducible repeat (first | apply Kd.R_alloc | apply Kd.R_drewN | apply Kd.R_drew)); exact Kd.R_mono (Kd.R_far (p := ⟨gb157, 7, none⟩) (Kd.R_far (p := ⟨gb157, 6, none⟩) (Kd.R_far (p := ⟨gb157, 5, none⟩) (Kd.R_far (p := ⟨gb157, 4, none⟩) (Kd.R_far (p := ⟨gb157, 3, none⟩) (Kd.R_far (p := ⟨gb157, 2, none⟩) (Kd.R_far (p := ⟨gb157, 1, none⟩) (Kd.R_far (p := ⟨gb157, 0, none⟩) (Kd.R_far (p := ⟨gb161, 0, none⟩) (Kd.R_far (p := ⟨gb161, 7, none⟩) (Kd.R_far (p := ⟨gb161, 6, none⟩) (Kd.R_far (p := ⟨gb161, 5, none⟩) (Kd.R_far (p := ⟨gb161, 4, none⟩) (Kd.R_far (p := ⟨gb161, 3, none⟩) (Kd.R_far (p := ⟨gb161, 2, none⟩) (Kd.R_far (p := ⟨gb161, 1, none⟩) (Kd.R_far (p := ⟨gb161, 0, none⟩) (Kd.R_types (Kd.R_types HO171.out BK161.out (by decide)) BK157.out (by decide)) (fun _ hk => hk.1.2) (.string t164)) (fun _ hk => hk.1.2) (.bool t165)) (fun _ hk => hk.1.2) (.int .i64 t166)) (fun _ hk => hk.1.2) (.int .i64 t167)) (fun _ hk => hk.1.2) (.string t168)) (fun _ hk => hk.1.2) (.slice Ao14 t169.length co14)) (fun _ hk => hk.1.2) (.slice Ao15 t172.length co15)) (fun _ hk => hk.1.2) (.slice Ao16 t175.length co16)) (fun _ hk => hk.1.2) (.string t158)) (fun _ hk => hk.2) (.string t158)) (fun _ hk => hk.2) (.bool t165)) (fun _ hk => hk.2) (.int .i64 t166)) (fun _ hk => hk.2) (.int .i64 t167)) (fun _ hk => hk.2) (.string t168)) (fun _ hk => hk.2) (.slice Ao14 t169.length co14)) (fun _ hk => hk.2) (.slice Ao15 t172.length co15)) (fun _ hk => hk.2) (.slice Ao16 t175.length co16)) (fun _ hk => hk.1.1), by (with_reducible repeat (first | apply Kd.S_alloc | apply Kd.S_drewN | apply Kd.S_drew)); exact Kd.S_mono (Kd.S_far (p := ⟨gb157, 7, none⟩) (Kd.S_far (p := ⟨gb157, 6, none⟩) (Kd.S_far (p := ⟨gb157, 5, none⟩) (Kd.S_far (p := ⟨gb157, 4, none⟩) (Kd.S_far (p := ⟨gb157, 3, none⟩) (Kd.S_far (p := ⟨gb157, 2, none⟩) (Kd.S_far (p := ⟨gb157, 1, none⟩) (Kd.S_far (p := ⟨gb157, 0, none⟩) (Kd.S_far (p := ⟨gb161, 0, none⟩) (Kd.S_far (p := ⟨gb161, 7, none⟩) (Kd.S_far (p := ⟨gb161, 6, none⟩) (Kd.S_far (p := ⟨gb161, 5, none⟩) (Kd.S_far (p := ⟨gb161, 4, none⟩) (Kd.S_far (p := ⟨gb161, 3, none⟩) (Kd.S_far (p := ⟨gb161, 2, none⟩) (Kd.S_far (p := ⟨gb161, 1, none⟩) (Kd.S_far (p := ⟨gb161, 0, none⟩) (Kd.S_types (Kd.S_types HO174.out BK161.out (by decide)) BK157.out (by decide)) (fun _ hk => hk.1.2) (.string t164)) (fun _ hk => hk.1.2) (.bool t165)) (fun _ hk => hk.1.2) (.int .i64 t166)) (fun _ hk => hk.1.2) (.int .i64 t167)) (fun _ hk => hk.1.2) (.string t168)) (fun _ hk => hk.1.2) (.slice Ao14 t169.length co14)) (fun _ hk => hk.1.2) (.slice Ao15 t172.length co15)) (fun _ hk => hk.1.2) (.slice Ao16 t175.length co16)) (fun _ hk => hk.1.2) (.string t158)) (fun _ hk => hk.2) (.string t158)) (fun _ hk => hk.2) (.bool t165)) (fun _ hk => hk.2) (.int .i64 t166)) (fun _ hk => hk.2) (.int .i64 t167)) (fun _ hk => hk.2) (.string t168)) (fun _ hk => hk.2) (.slice Ao14 t169.length co14)) (fun _ hk => hk.2) (.slice Ao15 t172.length co15)) (fun _ hk => hk.2) (.slice Ao16 t175.length co16)) (fun _ hk => ⟨hk.1.1.1, hk.1.1.2⟩), by (with_reducible repeat (first | apply Kd.R_alloc | apply Kd.R_drewN | apply Kd.R_drew)); exact Kd.R_mono (Kd.R_far (p := ⟨gb157, 7, none⟩) (Kd.R_far (p := ⟨gb157, 6, none⟩) (Kd.R_far (p := ⟨gb157, 5, none⟩) (Kd.R_far (p := ⟨gb157, 4, none⟩) (Kd.R_far (p := ⟨gb157, 3, none⟩) (Kd.R_far (p := ⟨gb157, 2, none⟩) (Kd.R_far (p := ⟨gb157, 1, none⟩) (Kd.R_far (p := ⟨gb157, 0, none⟩) (Kd.R_far (p := ⟨gb161, 0, none⟩) (Kd.R_far (p := ⟨gb161, 7, none⟩) (Kd.R_far (p := ⟨gb161, 6, none⟩) (Kd.R_far (p := ⟨gb161, 5, none⟩) (Kd.R_far (p := ⟨gb161, 4, none⟩) (Kd.R_far (p := ⟨gb161, 3, none⟩) (Kd.R_far (p := ⟨gb161, 2, none⟩) (Kd.R_far (p := ⟨gb161, 1, none⟩) (Kd.R_far (p := ⟨gb161, 0, none⟩) (Kd.R_types (Kd.R_types HO177.out BK161.out (by decide)) BK157.out (by decide)) (fun _ hk => hk.1.2) (.string t164)) (fun _ hk => hk.1.2) (.bool t165)) (fun _ hk => hk.1.2) (.int .i64 t166)) (fun _ hk => hk.1.2) (.int .i64 t167)) (fun _ hk => hk.1.2) (.string t168)) (fun _ hk => hk.1.2) (.slice Ao14 t169.length co14)) (fun _ hk => hk.1.2) (.slice Ao15 t172.length co15)) (fun _ hk => hk.1.2) (.slice Ao16 t175.length co16)) (fun _ hk => hk.1.2) (.string t158)) (fun _ hk => hk.2) (.string t158)) (fun _ hk => hk.2) (.bool t165)) (fun _ hk => hk.2) (.int .i64 t166)) (fun _ hk => hk.2) (.int .i64 t167)) (fun _ hk => hk.2) (.string t168)) (fun _ hk => hk.2) (.slice Ao14 t169.length co14)) (fun _ hk => hk.2) (.slice Ao15 t172.length co15)) (fun _ hk => hk.2) (.slice Ao16 t175.length co16)) (fun _ hk => hk.1.1), by repeat (first | (with_reducible first | exact HB.out | apply below_alloc | apply pw_below_drewN | apply below_drew1 | refine below_set ?_ GE157.out | refine below_set ?_ GE161.out) | exact HB.out)⟩
    · replace c5 := Bool.eq_false_iff.mpr c5
      subst c5
      rw [if_neg (show ¬ (false = true) by decide)] at H
      replace H := Option.bind_eq_some_iff.mp H
      obtain ⟨⟨t180, t181, t182⟩, A180, H⟩ := H
      (try dsimp only at H)
      have A18 := Aside0.mk A180
      clear A180
      simp only [Option.some.injEq, Prod.mk.injEq] at H
      obtain ⟨rfl, rfl, rfl, rfl, rfl, rfl, rfl, rfl, rfl, rfl⟩ := H
      go_enter Tryz.func26, Tryz.ntmps26
      go_wp2_with (first | ((with_reducible refine gate_dst (N := 2) rfl ?_); refine box_event ?hg (N := 2) ?hd (cs := #[.string ⟨#[]⟩, .bool false, .int .i64 0, .int .i64 0, .string ⟨#[]⟩, .slice none 0 0, .slice none 0 0, .slice none 0 0]) (t := 34) ?hr ?_; (case hd => rfl); (case hg => rfl); (case hr => first | (go_simp; done) | (go_simp; rfl)); intro gb157 hg w19 hbox hb; have n0_ := Aside0.mk (below_step (bl_ HB.out) hb); have n1_ := Aside0.mk (hbox); have n2_ := Aside0.mk ((hg_ hg (bl_ HB.out))); have n3_ := Aside0.mk ((hg_ hg (bl_ HB.out))); clear HB; have HB := n0_; have BK157 := n1_; have GW157 := n2_; have GE157 := n3_; clear n0_ n1_ n2_ n3_; clear hb hbox hg) | ((with_reducible refine gate_callee (f := 35) rfl ?_); refine goesL_ (some 13) rfl rfl Tryz.func35 (by kernel_rfl) rfl #[.string a0] rfl (by simp only [List.map_toArray, List.map_cons, List.map_nil] <;> rfl) ?_; (with_reducible refine (sfitem_Key.calls a0 t158 t159 t160 _ A2.out).mono ?_); rintro e w20 ⟨rfl, hb⟩; refine ⟨_, rfl, ?_⟩; have n0_ := Aside0.mk (blk_below (g := gb157) (o := .cells #[.string ⟨#[]⟩, .bool false, .int .i64 0, .int .i64 0, .string ⟨#[]⟩, .slice none 0 0, .slice none 0 0, .slice none 0 0] 34 (0, 0)) (kl_ BK157.out) hb); have n1_ := Aside0.mk (below_step (by repeat (first | (with_reducible first | exact HB.out | apply below_alloc | apply pw_below_drewN | apply below_drew1 | refine below_set ?_ GE157.out) | exact HB.out)) hb); clear BK157; clear HB; have BK157 := n0_; have HB := n1_; clear n0_ n1_; (try clear hb); (try clear hb2); (try clear hk); (try clear hi)) | ((with_reducible refine gate_dst (N := 8) rfl ?_); refine box_event ?hg (N := 8) ?hd (cs := #[.string ⟨#[]⟩, .bool false, .int .i64 0, .int .i64 0, .string ⟨#[]⟩, .slice none 0 0, .slice none 0 0, .slice none 0 0]) (t := 34) ?hr ?_; (case hd => rfl); (case hg => rfl); (case hr => first | (go_simp; done) | (go_simp; rfl)); intro gb161 hg w21 hbox hb; have n0_ := Aside0.mk (blk_below (g := gb157) (o := .cells #[.string ⟨#[]⟩, .bool false, .int .i64 0, .int .i64 0, .string ⟨#[]⟩, .slice none 0 0, .slice none 0 0, .slice none 0 0] 34 (0, 0)) (kl_ BK157.out) hb); have n1_ := Aside0.mk (below_step (by repeat (first | (with_reducible first | exact HB.out | apply below_alloc | apply pw_below_drewN | apply below_drew1 | refine below_set ?_ GE157.out) | exact HB.out)) hb); have n2_ := Aside0.mk (hbox); have n3_ := Aside0.mk ((by rw [hg]; exact (below_size (by repeat (first | (with_reducible first | exact HB.out | apply below_alloc | apply pw_below_drewN | apply below_drew1 | refine below_set ?_ GE157.out) | exact HB.out))) : w.heap.size ≤ gb161)); have n4_ := Aside0.mk ((by rw [hg]; exact (below_size (by repeat (first | (with_reducible first | exact HB.out | apply below_alloc | apply pw_below_drewN | apply below_drew1 | refine below_set ?_ GE157.out) | exact HB.out))) : w.heap.size ≤ gb161)); have n5_ := Aside0.mk ((by rw [hg]; exact Nat.ne_of_lt (blk_lt (g := gb157) (o := .cells #[.string ⟨#[]⟩, .bool false, .int .i64 0, .int .i64 0, .string ⟨#[]⟩, .slice none 0 0, .slice none 0 0, .slice none 0 0] 34 (0, 0)) (kl_ BK157.out)) : gb157 ≠ gb161)); have n6_ := Aside0.mk ((by rw [hg]; exact Nat.ne_of_gt (blk_lt (g := gb157) (o := .cells #[.string ⟨#[]⟩, .bool false, .int .i64 0, .int .i64 0, .string ⟨#[]⟩, .slice none 0 0, .slice none 0 0, .slice none 0 0] 34 (0, 0)) (kl_ BK157.out)) : gb161 ≠ gb157)); clear BK157; clear HB; have BK157 := n0_; have HB := n1_; have BK161 := n2_; have GW161 := n3_; have GE161 := n4_; have NB157_161 := n5_; have NB161_157 := n6_; clear n0_ n1_ n2_ n3_ n4_ n5_ n6_; clear hb hbox hg; have hnb22 := NB161_157.out; have hnc22 := NB157_161.out; obtain ⟨hcz23_0, hcz23_1, hcz23_2, hcz23_3, hcz23_4, hcz23_5, hcz23_6, hcz23_7⟩ := c8_ BK161.out; obtain ⟨hfz23_0, hfz23_1, hfz23_2, hfz23_3, hfz23_4, hfz23_5, hfz23_6, hfz23_7⟩ := f8_ BK161.out) | ((with_reducible refine gate_callee (f := 41) rfl ?_); refine goesL_ (some 25) rfl rfl Tryz.func41 (by kernel_rfl) rfl #[.string t159, .string ⟨#[61]⟩] rfl (by simp only [List.map_toArray, List.map_cons, List.map_nil] <;> rfl) ?_; (with_reducible refine (strings_CutPrefix.calls t159 (⟨#[61]⟩ : ByteArray) t162 false _ A4.out).mono ?_); rintro e w' ⟨rfl, ⟨nd, rfl⟩⟩; refine ⟨_, rfl, ?_⟩) | ((with_reducible refine gate_callee (f := 47) rfl ?_); refine goesL_ (some 37) rfl rfl Tryz.func47 (by kernel_rfl) rfl #[.string t159] rfl (by simp only [List.map_toArray, List.map_cons, List.map_nil] <;> rfl) ?_; (with_reducible refine (sfitem_Params.calls t159 t180 t181 t182 _ A18.out).mono ?_); rintro e w24 ⟨v183, rfl, ho0, hb⟩; refine ⟨_, rfl, ?_⟩; have n0_ := Aside0.mk (Kd.R_lower ho0 (below_size (by repeat (first | (with_reducible first | exact HB.out | apply below_alloc | apply pw_below_drewN | apply below_drew1 | refine below_set ?_ GE157.out | refine below_set ?_ GE161.out) | exact HB.out)))); have n1_ := Aside0.mk (blk_below (g := gb157) (o := .cells #[.string ⟨#[]⟩, .bool false, .int .i64 0, .int .i64 0, .string ⟨#[]⟩, .slice none 0 0, .slice none 0 0, .slice none 0 0] 34 (0, 0)) (by (repeat refine kq_ ?_); refine blk_far ?_ NB157_161.out _; (repeat refine kq_ ?_); refine blk_far ?_ NB157_161.out _; (repeat refine kq_ ?_); refine blk_far ?_ NB157_161.out _; (repeat refine kq_ ?_); refine blk_far ?_ NB157_161.out _; (repeat refine kq_ ?_); refine blk_far ?_ NB157_161.out _; (repeat refine kq_ ?_); refine blk_far ?_ NB157_161.out _; (repeat refine kq_ ?_); refine blk_far ?_ NB157_161.out _; (repeat refine kq_ ?_); refine blk_far ?_ NB157_161.out _; (repeat refine kq_ ?_); exact BK157.out) hb); have n2_ := Aside0.mk (blk_below (g := gb161) (o := .cells #[.string ⟨#[]⟩, .bool false, .int .i64 6, .int .i64 1, .string ⟨#[]⟩, .slice none 0 0, .slice none 0 0, .slice none 0 0] 34 (0, 0)) (by (repeat refine kq_ ?_); refine blk_put (cs := #[.string ⟨#[]⟩, .bool false, .int .i64 6, .int .i64 1, .string ⟨#[]⟩, .slice none 0 0, .slice none 0 0, .slice none 0 0]) ?_ 7 _ rfl; (repeat refine kq_ ?_); refine blk_put (cs := #[.string ⟨#[]⟩, .bool false, .int .i64 6, .int .i64 1, .string ⟨#[]⟩, .slice none 0 0, .slice none 0 0, .slice none 0 0]) ?_ 6 _ rfl; (repeat refine kq_ ?_); refine blk_put (cs := #[.string ⟨#[]⟩, .bool false, .int .i64 6, .int .i64 1, .string ⟨#[]⟩, .slice none 0 0, .slice none 0 0, .slice none 0 0]) ?_ 5 _ rfl; (repeat refine kq_ ?_); refine blk_put (cs := #[.string ⟨#[]⟩, .bool false, .int .i64 6, .int .i64 1, .string ⟨#[]⟩, .slice none 0 0, .slice none 0 0, .slice none 0 0]) ?_ 4 _ rfl; (repeat refine kq_ ?_); refine blk_put (cs := #[.string ⟨#[]⟩, .bool false, .int .i64 6, .int .i64 0, .string ⟨#[]⟩, .slice none 0 0, .slice none 0 0, .slice none 0 0]) ?_ 3 _ rfl; (repeat refine kq_ ?_); refine blk_put (cs := #[.string ⟨#[]⟩, .bool false, .int .i64 0, .int .i64 0, .string ⟨#[]⟩, .slice none 0 0, .slice none 0 0, .slice none 0 0]) ?_ 2 _ rfl; (repeat refine kq_ ?_); refine blk_put (cs := #[.string ⟨#[]⟩, .bool false, .int .i64 0, .int .i64 0, .string ⟨#[]⟩, .slice none 0 0, .slice none 0 0, .slice none 0 0]) ?_ 1 _ rfl; (repeat refine kq_ ?_); refine blk_put (cs := #[.string ⟨#[]⟩, .bool false, .int .i64 0, .int .i64 0, .string ⟨#[]⟩, .slice none 0 0, .slice none 0 0, .slice none 0 0]) ?_ 0 _ rfl; (repeat refine kq_ ?_); exact BK161.out) hb); have n3_ := Aside0.mk (below_step (by repeat (first | (with_reducible first | exact HB.out | apply below_alloc | apply pw_below_drewN | apply below_drew1 | refine below_set ?_ GE157.out | refine below_set ?_ GE161.out) | exact HB.out)) hb); clear BK157; clear BK161; clear HB; have HO184 := n0_; have BK157 := n1_; have BK161 := n2_; have HB := n3_; clear n0_ n1_ n2_ n3_; (try clear hb); (try clear hb2); (try clear hk); (try clear hi); (try clear ho0); obtain ⟨Ao25, co25, eo25⟩ := Kd.R_slice HO184.out; subst eo25; obtain ⟨hcz26_0, hcz26_1, hcz26_2, hcz26_3, hcz26_4, hcz26_5, hcz26_6, hcz26_7⟩ := c8_ BK161.out; obtain ⟨hfz26_0, hfz26_1, hfz26_2, hfz26_3, hfz26_4, hfz26_5, hfz26_6, hfz26_7⟩ := f8_ BK161.out; obtain ⟨hcz27_0, hcz27_1, hcz27_2, hcz27_3, hcz27_4, hcz27_5, hcz27_6, hcz27_7⟩ := c8_ BK157.out; obtain ⟨hfz27_0, hfz27_1, hfz27_2, hfz27_3, hfz27_4, hfz27_5, hfz27_6, hfz27_7⟩ := f8_ BK157.out))
      refine bodyPost_ret (results_ctt rfl _ _ gb157 34 #[.string t158, .bool false, .int .i64 6, .int .i64 1, .string ⟨#[]⟩, .slice Ao25 t180.length co25, .slice none 0 0, .slice none 0 0] (0, 0) _ rfl (by (repeat refine kq_ ?_); refine blk_put (cs := #[.string t158, .bool false, .int .i64 6, .int .i64 1, .string ⟨#[]⟩, .slice Ao25 t180.length co25, .slice none 0 0, .slice none 0 0]) ?_ 7 _ rfl; (repeat refine kq_ ?_); refine blk_put (cs := #[.string t158, .bool false, .int .i64 6, .int .i64 1, .string ⟨#[]⟩, .slice Ao25 t180.length co25, .slice none 0 0, .slice none 0 0]) ?_ 6 _ rfl; (repeat refine kq_ ?_); refine blk_put (cs := #[.string t158, .bool false, .int .i64 6, .int .i64 1, .string ⟨#[]⟩, .slice none 0 0, .slice none 0 0, .slice none 0 0]) ?_ 5 _ rfl; (repeat refine kq_ ?_); refine blk_put (cs := #[.string t158, .bool false, .int .i64 6, .int .i64 1, .string ⟨#[]⟩, .slice none 0 0, .slice none 0 0, .slice none 0 0]) ?_ 4 _ rfl; (repeat refine kq_ ?_); refine blk_put (cs := #[.string t158, .bool false, .int .i64 6, .int .i64 0, .string ⟨#[]⟩, .slice none 0 0, .slice none 0 0, .slice none 0 0]) ?_ 3 _ rfl; (repeat refine kq_ ?_); refine blk_put (cs := #[.string t158, .bool false, .int .i64 0, .int .i64 0, .string ⟨#[]⟩, .slice none 0 0, .slice none 0 0, .slice none 0 0]) ?_ 2 _ rfl; (repeat refine kq_ ?_); refine blk_put (cs := #[.string t158, .bool false, .int .i64 0, .int .i64 0, .string ⟨#[]⟩, .slice none 0 0, .slice none 0 0, .slice none 0 0]) ?_ 1 _ rfl; (repeat refine kq_ ?_); refine blk_put (cs := #[.string ⟨#[]⟩, .bool false, .int .i64 0, .int .i64 0, .string ⟨#[]⟩, .slice none 0 0, .slice none 0 0, .slice none 0 0]) ?_ 0 _ rfl; (repeat refine kq_ ?_); refine blk_far ?_ NB157_161.out _; (repeat refine kq_ ?_); refine blk_far ?_ NB157_161.out _; (repeat refine kq_ ?_); exact BK157.out) Tryz.underlying34 rfl (by kernel_rfl)) rfl ?_
      exact ⟨_, _, _, by first | rfl | (simp [errW_none, errW_some] <;> rfl) | (simp [*, errW_none, errW_some] <;> rfl) | (simp [q_ne_nil]; done), by (with_reducible repeat (first | apply Kd.R_alloc | apply Kd.R_drewN | apply Kd.R_drew)); exact Kd.R_mono (Kd.R_far (p := ⟨gb157, 7, none⟩) (Kd.R_far (p := ⟨gb157, 6, none⟩) (Kd.R_far (p := ⟨gb157, 5, none⟩) (Kd.R_far (p := ⟨gb157, 4, none⟩) (Kd.R_far (p := ⟨gb157, 3, none⟩) (Kd.R_far (p := ⟨gb157, 2, none⟩) (Kd.R_far (p := ⟨gb157, 1, none⟩) (Kd.R_far (p := ⟨gb157, 0, none⟩) (Kd.R_far (p := ⟨gb161, 0, none⟩) (Kd.R_far (p := ⟨gb161, 5, none⟩) (Kd.R_types (Kd.R_types HO184.out BK161.out (by decide)) BK157.out (by decide)) (fun _ hk => hk.1.2) (.slice Ao25 t180.length co25)) (fun _ hk => hk.1.2) (.string t158)) (fun _ hk => hk.2) (.string t158)) (fun _ hk => hk.2) (.bool false)) (fun _ hk => hk.2) (.int .i64 6)) (fun _ hk => hk.2) (.int .i64 1)) (fun _ hk => hk.2) (.string ⟨#[]⟩)) (fun _ hk => hk.2) (.slice Ao25 t180.length co25)) (fun _ hk => hk.2) (.slice none 0 0)) (fun _ hk => hk.2) (.slice none 0 0)) (fun _ hk => (by simp [Value.ownBlock])), by first | exact Kd.S_nil _ _ _ _ _ | exact Kd.N_nil _ _ _ _ _ | exact Kd.V_nil _ _ _ _ _ | exact Kd.Q_nil _ _ _ _ _ | exact Kd.R_nil _ _ _ _ _, by first | exact Kd.R_nil _ _ _ _ _ | exact Kd.S_nil _ _ _ _ _, by repeat (first | (with_reducible first | exact HB.out | apply below_alloc | apply pw_below_drewN | apply below_drew1 | refine below_set ?_ GE157.out | refine below_set ?_ GE161.out) | exact HB.out)⟩
  · rw [if_neg c3] at H
    obtain ⟨c3b0, c3b1⟩ := eF_ c3
    simp only [Option.some.injEq, Prod.mk.injEq] at H
    obtain ⟨rfl, rfl, rfl, rfl, rfl, rfl, rfl, rfl, rfl, rfl⟩ := H
    go_enter Tryz.func26, Tryz.ntmps26
    go_wp2_with (first | ((with_reducible refine gate_dst (N := 2) rfl ?_); refine box_event ?hg (N := 2) ?hd (cs := #[.string ⟨#[]⟩, .bool false, .int .i64 0, .int .i64 0, .string ⟨#[]⟩, .slice none 0 0, .slice none 0 0, .slice none 0 0]) (t := 34) ?hr ?_; (case hd => rfl); (case hg => rfl); (case hr => first | (go_simp; done) | (go_simp; rfl)); intro gb157 hg w28 hbox hb; have n0_ := Aside0.mk (below_step (bl_ HB.out) hb); have n1_ := Aside0.mk (hbox); have n2_ := Aside0.mk ((hg_ hg (bl_ HB.out))); have n3_ := Aside0.mk ((hg_ hg (bl_ HB.out))); clear HB; have HB := n0_; have BK157 := n1_; have GW157 := n2_; have GE157 := n3_; clear n0_ n1_ n2_ n3_; clear hb hbox hg) | ((with_reducible refine gate_callee (f := 35) rfl ?_); refine goesL_ (some 13) rfl rfl Tryz.func35 (by kernel_rfl) rfl #[.string a0] rfl (by simp only [List.map_toArray, List.map_cons, List.map_nil] <;> rfl) ?_; (with_reducible refine (sfitem_Key.calls a0 t158 t159 t160 _ A2.out).mono ?_); rintro e w29 ⟨rfl, hb⟩; refine ⟨_, rfl, ?_⟩; have n0_ := Aside0.mk (blk_below (g := gb157) (o := .cells #[.string ⟨#[]⟩, .bool false, .int .i64 0, .int .i64 0, .string ⟨#[]⟩, .slice none 0 0, .slice none 0 0, .slice none 0 0] 34 (0, 0)) (kl_ BK157.out) hb); have n1_ := Aside0.mk (below_step (by repeat (first | (with_reducible first | exact HB.out | apply below_alloc | apply pw_below_drewN | apply below_drew1 | refine below_set ?_ GE157.out) | exact HB.out)) hb); clear BK157; clear HB; have BK157 := n0_; have HB := n1_; clear n0_ n1_; (try clear hb); (try clear hb2); (try clear hk); (try clear hi); obtain ⟨hcz30_0, hcz30_1, hcz30_2, hcz30_3, hcz30_4, hcz30_5, hcz30_6, hcz30_7⟩ := c8_ BK157.out; obtain ⟨hfz30_0, hfz30_1, hfz30_2, hfz30_3, hfz30_4, hfz30_5, hfz30_6, hfz30_7⟩ := f8_ BK157.out))
    refine bodyPost_ret (results_ctt rfl _ _ gb157 34 #[.string ⟨#[]⟩, .bool false, .int .i64 0, .int .i64 0, .string ⟨#[]⟩, .slice none 0 0, .slice none 0 0, .slice none 0 0] (0, 0) _ rfl (by (repeat refine kq_ ?_); refine blk_put (cs := #[.string ⟨#[]⟩, .bool false, .int .i64 0, .int .i64 0, .string ⟨#[]⟩, .slice none 0 0, .slice none 0 0, .slice none 0 0]) ?_ 7 _ rfl; (repeat refine kq_ ?_); refine blk_put (cs := #[.string ⟨#[]⟩, .bool false, .int .i64 0, .int .i64 0, .string ⟨#[]⟩, .slice none 0 0, .slice none 0 0, .slice none 0 0]) ?_ 6 _ rfl; (repeat refine kq_ ?_); refine blk_put (cs := #[.string ⟨#[]⟩, .bool false, .int .i64 0, .int .i64 0, .string ⟨#[]⟩, .slice none 0 0, .slice none 0 0, .slice none 0 0]) ?_ 5 _ rfl; (repeat refine kq_ ?_); refine blk_put (cs := #[.string ⟨#[]⟩, .bool false, .int .i64 0, .int .i64 0, .string ⟨#[]⟩, .slice none 0 0, .slice none 0 0, .slice none 0 0]) ?_ 4 _ rfl; (repeat refine kq_ ?_); refine blk_put (cs := #[.string ⟨#[]⟩, .bool false, .int .i64 0, .int .i64 0, .string ⟨#[]⟩, .slice none 0 0, .slice none 0 0, .slice none 0 0]) ?_ 3 _ rfl; (repeat refine kq_ ?_); refine blk_put (cs := #[.string ⟨#[]⟩, .bool false, .int .i64 0, .int .i64 0, .string ⟨#[]⟩, .slice none 0 0, .slice none 0 0, .slice none 0 0]) ?_ 2 _ rfl; (repeat refine kq_ ?_); refine blk_put (cs := #[.string ⟨#[]⟩, .bool false, .int .i64 0, .int .i64 0, .string ⟨#[]⟩, .slice none 0 0, .slice none 0 0, .slice none 0 0]) ?_ 1 _ rfl; (repeat refine kq_ ?_); refine blk_put (cs := #[.string ⟨#[]⟩, .bool false, .int .i64 0, .int .i64 0, .string ⟨#[]⟩, .slice none 0 0, .slice none 0 0, .slice none 0 0]) ?_ 0 _ rfl; (repeat refine kq_ ?_); exact BK157.out) Tryz.underlying34 rfl (by kernel_rfl)) rfl ?_
    exact ⟨_, _, _, by first | rfl | (simp [errW_none, errW_some] <;> rfl) | (simp [*, errW_none, errW_some] <;> rfl) | (simp [q_ne_nil]; done), by first | exact Kd.R_nil _ _ _ _ _ | exact Kd.S_nil _ _ _ _ _, by first | exact Kd.S_nil _ _ _ _ _ | exact Kd.N_nil _ _ _ _ _ | exact Kd.V_nil _ _ _ _ _ | exact Kd.Q_nil _ _ _ _ _ | exact Kd.R_nil _ _ _ _ _, by first | exact Kd.R_nil _ _ _ _ _ | exact Kd.S_nil _ _ _ _ _, by repeat (first | (with_reducible first | exact HB.out | apply below_alloc | apply pw_below_drewN | apply below_drew1 | refine below_set ?_ GE157.out) | exact HB.out)⟩
/-- A text without the blanks (bytes 32) at its ends. -/
def trimSp (s : ByteArray) : ByteArray := ⟨(Lib.trimB s.data.toList 32).toArray⟩
end Go.Proofs.YtjdbiicjfpgjkaaGreatDoor.Q
namespace Go.Proofs.YtjdbiicjfpgjkaaGreatDoor.Q
open Go.RowKit Go.Proofs.YtjdbiicjfpgjkaaGreatDoorW.PrintWords Go.Proofs.YtjdbiicjfpgjkaaGreatDoorW.PrintLast Go.Proofs.YtjdbiicjfpgjkaaGreatDoorW.PrintMore
set_option linter.unusedVariables false
set_option linter.unusedSimpArgs false
open Go.Proofs.YtjdbiicjfpgjkaaGreatDoor.Sf
/-- What a reader of one member answers: the member, the rest, the error. -/
abbrev Ten := ByteArray × Bool × Int × Int × ByteArray × (List S60) × (List S31) × (List S60) × ByteArray × Int
def memOf (x : Ten) : S34 := ⟨x.1, x.2.1, ⟨x.2.2.1, x.2.2.2.1, x.2.2.2.2.1, x.2.2.2.2.2.1⟩, x.2.2.2.2.2.2.1, x.2.2.2.2.2.2.2.1⟩
def restOf (x : Ten) : ByteArray := x.2.2.2.2.2.2.2.2.1
def errOf (x : Ten) : Int := x.2.2.2.2.2.2.2.2.2
/-- One member: what is yielded, what stands behind, whether nothing does. -/
def mem1 (nx : ByteArray → Option Ten) (s : ByteArray) : Option ((S34 × Int) × ByteArray × Bool) :=
  (nx s).bind fun x => (strings_TrimLeft.f (restOf x) ⟨#[32, 9]⟩).bind fun r => (strings_CutPrefix.f r ⟨#[44]⟩).bind fun c => (strings_TrimLeft.f c.1 ⟨#[32, 9]⟩).bind fun t =>
    some ((memOf x, if errOf x = 0 ∧ r.toList ≠ [] ∧ (c.2 = false ∨ t.toList = []) then 50 else errOf x), t, decide (r.toList = []))
def trimM (s : ByteArray) : ByteArray := ⟨(Lib.trimB s.data.toList 32).toArray⟩
/-- Members one by one, up to one that can't be read. -/
def memsL (nx : ByteArray → Option Ten) : Nat → ByteArray → Option (List (S34 × Int))
  | 0, _ => none
  | d + 1, s => if s.toList = [] then some [] else (mem1 nx s).bind fun y => if y.1.2 ≠ 0 ∨ y.2.2 = true then some [y.1] else if y.2.1.size < s.size then (memsL nx d y.2.1).bind fun l => some (y.1 :: l) else none
def membersF (nx : ByteArray → Option Ten) (d : Nat) (s : ByteArray) : Option (List (S34 × Int)) :=
  if (s.size : Int) > 4000 then some [(⟨⟨#[]⟩, false, ⟨0, 0, ⟨#[]⟩, []⟩, [], []⟩, 50)] else memsL nx d (trimM s)
theorem members_any (s : ByteArray) (fn : Fn) (w : World) :
    Calls Tryz.prog 23 #[.string s, .func fn #[] #[]] w fun e w' => e = .returned (.func (.func 39) #[] #[.pointer (some ⟨w.heap.size, 0, none⟩), .pointer (some ⟨w.heap.size + 1, 0, none⟩)]) ∧ w' = (w.alloc (.cells #[.string s] 9)).alloc (.cells #[.func fn #[] #[]] 49) := by
  have hmf : ∀ (fn : Fn) (first cap : Array Value) (w : World), (Instr.makeFunc fn first cap).run Tryz.prog w = .ok (.func fn first cap) w := fun _ _ _ _ => rfl
  go_enter Tryz.func23, Tryz.ntmps23
  go_wp2
  go_ret
  exact ⟨rfl, rfl⟩
def strSz : Value → Nat
  | .string s => s.size
  | _ => 0
/-- What is yielded: a member, an error, and the slices that the member holds. -/
structure YM where
  m : S34
  e : Int
  v5 : Value
  v6 : Value
  v7 : Value
def YM.pr (x : YM) : S34 × Int := (x.m, x.e)
def YM.agg (x : YM) : Value := .agg #[.string x.m.f0, .bool x.m.f1, .int .i64 x.m.f2.f0, .int .i64 x.m.f2.f1, .string x.m.f2.f2, x.v5, x.v6, x.v7]
def encY (x : YM) : Array Value := #[x.agg, .int .i64 x.e]
def PxY (x : YM) (b : Nat) (W : World) : Prop :=
  Kd.R k60 60 W b (fun k_ => some k_ ≠ x.v7.ownBlock) x.v5 x.m.f2.f3 ∧ Kd.S k31 31 W b (fun k_ => some k_ ≠ x.v5.ownBlock ∧ some k_ ≠ x.v7.ownBlock) x.v6 x.m.f3 ∧ Kd.R k60 60 W b (fun k_ => some k_ ≠ x.v5.ownBlock) x.v7 x.m.f4
/-- What a reader of one member leaves. -/
def TenPost (x : Ten) (W : World) (e : Ending) (w' : World) : Prop :=
  ∃ v5_ v6_ v7_ : Value, e = .returned (.tuple #[.agg #[.string x.1, .bool x.2.1, .int .i64 x.2.2.1, .int .i64 x.2.2.2.1, .string x.2.2.2.2.1, v5_, v6_, v7_], .string (restOf x), .int .i64 (errOf x)]) ∧ Kd.R k60 60 w' W.heap.size (fun k_ => some k_ ≠ (v7_ : Value).ownBlock) v5_ x.2.2.2.2.2.1 ∧ Kd.S k31 31 w' W.heap.size (fun k_ => some k_ ≠ (v5_ : Value).ownBlock ∧ some k_ ≠ (v7_ : Value).ownBlock) v6_ x.2.2.2.2.2.2.1 ∧ Kd.R k60 60 w' W.heap.size (fun k_ => some k_ ≠ (v5_ : Value).ownBlock) v7_ x.2.2.2.2.2.2.2.1 ∧ Below W.heap.size W w'
theorem member_ten (k : Nat) (s : ByteArray) (x : Ten) (W : World) (h : sfield_member.f k s = some x) : Calls Tryz.prog 24 #[.string s] W (TenPost x W) := by
  obtain ⟨r1, r2, r3, r4, r5, r6, r7, r8, r9, r10⟩ := x
  exact sfield_member.calls k s r1 r2 r3 r4 r5 r6 r7 r8 r9 r10 W h
theorem keyed_ten (k : Nat) (s : ByteArray) (x : Ten) (W : World) (h : sfield_keyed.f k s = some x) : Calls Tryz.prog 26 #[.string s] W (TenPost x W) := by
  obtain ⟨r1, r2, r3, r4, r5, r6, r7, r8, r9, r10⟩ := x
  exact sfield_keyed.calls k s r1 r2 r3 r4 r5 r6 r7 r8 r9 r10 W h
/-- What a round keeps: all below m but some blocks of the caller's. -/
def KpOut (m : Nat) (p : Nat → Prop) (W W' : World) : Prop := W.heap.size ≤ W'.heap.size ∧ ∀ k, k < m → ¬ p k → W'.heap[k]? = W.heap[k]?
theorem KpOut.trans {m : Nat} {p : Nat → Prop} {A B C : World} (h : KpOut m p A B) (h' : KpOut m p B C) : KpOut m p A C := ⟨Nat.le_trans h.1 h'.1, fun k hk hne => (h'.2 k hk hne).trans (h.2 k hk hne)⟩
theorem KpOut.below {m : Nat} {p : Nat → Prop} {A B : World} (h : Below A.heap.size A B) (hm : m ≤ A.heap.size) : KpOut m p A B := ⟨h.size, fun k hk _ => h.block k (by omega)⟩
theorem KpOut.cell {m : Nat} {p : Nat → Prop} {A B : World} (h : KpOut m p A B) {q : Addr} {v : Value} (hq : q.block < m) (hne : ¬ p q.block) (hc : A.cell? q = some v) : B.cell? q = some v :=
  (World.cell?_of_block (h.2 q.block hq hne)).trans hc
theorem KpOut.putObj {m s : Nat} {p : Nat → Prop} (hm : m ≤ s) (W : World) (l : Nat) (o o' : Obj) (hl : s ≤ l) (_ : W.heap[l]? = some o) (_ : o.isCells = false) (_ : o.isWalk = false) : KpOut m p W (W.putObj l o') := by
  refine ⟨by simp, fun k hk _ => World.putObj_heap_other (by omega)⟩
theorem mem1_y {ex ee : Int} {r t' : List UInt8} {c2 fl : Bool} (hfl : fl = (ex == 0 && (!r.isEmpty && (!c2 || t'.isEmpty)))) (hee : ee = if fl = true then 50 else ex) : (if ex = 0 ∧ r ≠ [] ∧ (c2 = false ∨ t' = []) then 50 else ex) = ee := by
  subst hee
  subst hfl
  by_cases h : ex = 0 <;> cases r <;> cases c2 <;> cases t' <;> simp [h]
attribute [local go_sem] Oper.semAt_some in
set_option maxRecDepth 100000 in
set_option maxHeartbeats 4000000 in
theorem members1_m (n : Nat) (hn : 1 ≤ n) (nx : ByteArray → Option Ten) (hN : ∀ s x W, nx s = some x → Calls Tryz.prog 24 #[.string s] W (TenPost x W))
    (l m BL BN d : Nat) (p : Nat → Prop) (s : ByteArray) (ys : List (S34 × Int)) (hys : membersF nx d s = some ys) (hBL : BL < m ∧ ¬ p BL) (hBN : BN < m ∧ ¬ p BN) (J Jx : List YM → World → Prop) (W : World) (hmW : m ≤ W.heap.size) (hJ : AbidesFrom W.heap.size J)
    (hY : ∀ pre x W0 W1, J pre W0 → Below W0.heap.size W0 W1 → ((pre ++ [x]).map YM.pr <+: ys ∧ PxY x W0.heap.size W1) → YieldAt Fence.wide (n - 1) Tryz.prog l (encY x) W1 fun e W' => (e = .returned (.bool true) ∧ J (pre ++ [x]) W' ∧ KpOut m p W1 W') ∨ (e = .returned (.bool false) ∧ Jx (pre ++ [x]) W'))
    (hcL : W.cell? ⟨BL, 0, none⟩ = some (.string s)) (hcN : W.cell? ⟨BN, 0, none⟩ = some (.func (.func 24) #[] #[])) (h0 : J [] W) :
    CallsIn Fence.wide n Tryz.prog 39 #[.func (.yield l) #[] #[], .pointer (some ⟨BL, 0, none⟩), .pointer (some ⟨BN, 0, none⟩)] W fun e W' => (∃ v, e = .returned v) ∧
      ((∃ xs, xs.map YM.pr = ys ∧ J xs W') ∨ (∃ pre, pre.map YM.pr <+: ys ∧ Jx pre W')) := by
  refine callsIn_of_wp Tryz.func39 rfl trivial ?_ rfl
  simp only [Tryz.ntmps39, List.size_toArray, List.length_cons, List.length_nil, Nat.reduceAdd, Nat.reduceSub, Array.replicate_succ, Array.replicate_zero, List.push_toArray, List.append_toArray, List.nil_append, List.cons_append]
  have hfN : Fence.wide.fn 24 := trivial
  have hen := enters_of Tryz.func24 (by kernel_rfl) rfl
  have HY := Aside0.mk hY
  have H0 := Aside0.mk h0
  have HN := Aside0.mk hN
  have HC := Aside0.mk hcN
  have HS := Aside0.mk hys
  clear hY h0 hN hcN hys
  by_cases h4 : (s.size : Int) > 4000
  · have hd : decide ((s.size : Int) > 4000) = true := decide_eq_true h4
    have hd2 : decide (4000 < (s.size : Int)) = true := decide_eq_true h4
    have hm := HS.out
    unfold membersF at hm
    rw [if_pos h4] at hm
    have hm2 := Option.some.inj hm
    have hpx : PxY ⟨⟨⟨#[]⟩, false, ⟨0, 0, ⟨#[]⟩, []⟩, [], []⟩, 50, .slice none 0 0, .slice none 0 0, .slice none 0 0⟩ W.heap.size W := ⟨Kd.R_nil _ _ _ _ _, Kd.S_nil _ _ _ _ _, Kd.R_nil _ _ _ _ _⟩
    obtain ⟨rfn, rtm, ras, rbo, hyr, hRd⟩ := HY.out [] _ W W H0.out (Below.refl _ _) ⟨by rw [← hm2]; exact List.prefix_rfl, hpx⟩
    have HRD := Aside0.mk hRd
    clear hRd hm hpx h4 hd
    simp only [encY, YM.agg] at hyr
    gi_wp2
    refine HRD.out.mono ?_
    rintro e W4 (⟨rfl, hJ4, hk4⟩ | ⟨rfl, hJ4⟩)
    · gi_wp2
      refine bodyPost_ret (results_none rfl _ _ _) rfl ?_
      exact ⟨⟨_, rfl⟩, .inl ⟨_, by exact hm2, hJ4⟩⟩
    · gi_wp2
      refine bodyPost_ret (results_none rfl _ _ _) rfl ?_
      exact ⟨⟨_, rfl⟩, .inr ⟨_, by exact ⟨[], (List.append_nil _).trans hm2⟩, hJ4⟩⟩
  · have hd : decide ((s.size : Int) > 4000) = false := decide_eq_false h4
    have hd2 : decide (4000 < (s.size : Int)) = false := decide_eq_false h4
    have hm := HS.out
    unfold membersF at hm
    rw [if_neg h4] at hm
    have HM := Aside0.mk hm
    have hT := Aside0.mk (fun W => Tryz.strings_Trim_one s 32 (by decide) W (by omega))
    clear hm h4 hd HS
    have fw1 : Fence.wide.fn 31 := trivial
    have HJA := Aside0.mk hJ
    clear hJ
    gi_wp2_with (first | (gi_at_call 31; refine (callsIn_wide.2 (hT.out _)).mono ?_; rintro e w2 ⟨rfl, hd2⟩; have hB2 : Below W.heap.size W w2 := (by rcases hd2 with rfl | rfl; exact Below.refl _ _; exact below_drew (Below.refl _ _)); clear hd2))
    have HB2 := Aside0.mk hB2
    clear hB2 hcL
    gi_loopw [4] (fun v4 wr => ∃ (d' : Nat) (t : ByteArray) (pre : List YM) (rest : List (S34 × Int)) (W0 : World), v4 = .string t ∧ Aside0 (memsL nx d' t = some rest) ∧ Aside0 (ys = pre.map YM.pr ++ rest) ∧ Aside0 (J pre W0) ∧ Aside0 (Below W0.heap.size W0 wr) ∧ Aside0 (KpOut m p W wr)) (fun v4 _ => strSz v4)
    case atStart => exact ⟨d, trimM s, [], ys, W, rfl, HM, ⟨rfl⟩, H0, HB2, ⟨KpOut.below HB2.out hmW⟩⟩
    case round =>
      clear H0 HM
      obtain ⟨d', t, pre, rest, W0, rfl, HM, HE, HJ0, HB0, HK⟩ := hrel
      cases d' with
      | zero => exact absurd HM.out (by simp [memsL])
      | succ d' =>
        by_cases ht : t.toList = []
        · have hm := HM.out
          rw [memsL, if_pos ht] at hm
          obtain rfl := Option.some.inj hm
          have b1 : (t.toList != ([] : List UInt8)) = false := by simp [ht]
          have b2 : t.toList.isEmpty = true := by rw [ht]; rfl
          have hgr : W0.grownBy wr none := ⟨HB0.out.os, HB0.out.tape, HB0.out.output, HB0.out.size, fun i hi _ => HB0.out.block i hi⟩
          have HJr := Aside0.mk (HJA.out _ _ _ none HJ0.out hgr (fun r e => by cases e))
          clear hm ht hgr HM
          gi_wp2
          go_end0
          exact ⟨⟨_, rfl⟩, .inl ⟨pre, by have := HE.out; rw [List.append_nil] at this; exact this.symm, HJr.out⟩⟩
        · have hm := HM.out
          rw [memsL, if_neg ht] at hm
          obtain ⟨y, hy, hm⟩ := Option.bind_eq_some_iff.mp hm
          unfold mem1 at hy
          obtain ⟨x, hx, hy⟩ := Option.bind_eq_some_iff.mp hy
          obtain ⟨r, hr, hy⟩ := Option.bind_eq_some_iff.mp hy
          obtain ⟨⟨c1, c2⟩, hc, hy⟩ := Option.bind_eq_some_iff.mp hy
          obtain ⟨t', ht', hy⟩ := Option.bind_eq_some_iff.mp hy
          have hyq := Option.some.inj hy
          have b1 : (t.toList != ([] : List UInt8)) = true := by simp [ht]
          have b2 : t.toList.isEmpty = false := by simpa using ht
          have hcN : wr.cell? ⟨BN, 0, none⟩ = some (.func (.func 24) #[] #[]) := HK.out.cell hBN.1 hBN.2 HC.out
          have hX := Aside0.mk (fun W2 => HN.out t x W2 hx)
          have hL1 := Aside0.mk (fun W2 => strings_TrimLeft.calls (restOf x) ⟨#[32, 9]⟩ r W2 hr)
          have hC1 := Aside0.mk (fun W2 => strings_CutPrefix.calls r ⟨#[44]⟩ c1 c2 W2 hc)
          have hL2 := Aside0.mk (fun W2 => strings_TrimLeft.calls c1 ⟨#[32, 9]⟩ t' W2 ht')
          have HM := Aside0.mk hm
          have HYQ := Aside0.mk hyq
          clear hm hyq hy hx hr hc ht' ht
          have fw2 : Fence.wide.fn 40 := trivial
          have fw3 : Fence.wide.fn 41 := trivial
          gi_upto_region 5 with (first | (gi_at_call 24; refine (callsIn_wide.2 (hX.out _)).mono ?_; rintro e w3 ⟨v5, v6, v7, rfl, h5, h6, h7, hB3⟩; obtain ⟨A5, c5, hv5⟩ := Kd.R_slice h5; obtain ⟨A6, c6, hv6⟩ := Kd.R_slice (Kd.S_R h6); obtain ⟨A7, c7, hv7⟩ := Kd.R_slice h7; subst hv5 hv6 hv7))
          have hMB := blk_new w3 (.cells #[.string x.1, .bool x.2.1, .int .i64 x.2.2.1, .int .i64 x.2.2.2.1, .string x.2.2.2.2.1, .slice A5 x.2.2.2.2.2.1.length c5, .slice A6 x.2.2.2.2.2.2.1.length c6, .slice A7 x.2.2.2.2.2.2.2.1.length c7] 34)
          have hBw := below_alloc (below_then (Below.refl wr.heap.size wr) (Nat.le_refl _) hB3) (.cells #[.string x.1, .bool x.2.1, .int .i64 x.2.2.1, .int .i64 x.2.2.2.1, .string x.2.2.2.2.1, .slice A5 x.2.2.2.2.2.1.length c5, .slice A6 x.2.2.2.2.2.2.1.length c6, .slice A7 x.2.2.2.2.2.2.2.1.length c7] 34)
          have H5 := Aside0.mk (Kd.R_alloc h5 (.cells #[.string x.1, .bool x.2.1, .int .i64 x.2.2.1, .int .i64 x.2.2.2.1, .string x.2.2.2.2.1, .slice A5 x.2.2.2.2.2.1.length c5, .slice A6 x.2.2.2.2.2.2.1.length c6, .slice A7 x.2.2.2.2.2.2.2.1.length c7] 34))
          have H6 := Aside0.mk (Kd.S_alloc h6 (.cells #[.string x.1, .bool x.2.1, .int .i64 x.2.2.1, .int .i64 x.2.2.2.1, .string x.2.2.2.2.1, .slice A5 x.2.2.2.2.2.1.length c5, .slice A6 x.2.2.2.2.2.2.1.length c6, .slice A7 x.2.2.2.2.2.2.2.1.length c7] 34))
          have H7 := Aside0.mk (Kd.R_alloc h7 (.cells #[.string x.1, .bool x.2.1, .int .i64 x.2.2.1, .int .i64 x.2.2.2.1, .string x.2.2.2.2.1, .slice A5 x.2.2.2.2.2.1.length c5, .slice A6 x.2.2.2.2.2.2.1.length c6, .slice A7 x.2.2.2.2.2.2.2.1.length c7] 34))
          have HMB := Aside0.mk hMB
          have HBW := Aside0.mk hBw
          clear hMB hBw h5 h6 h7 hB3 hcN b1 b2
          generalize w3.alloc (.cells #[.string x.1, .bool x.2.1, .int .i64 x.2.2.1, .int .i64 x.2.2.2.1, .string x.2.2.2.2.1, .slice A5 x.2.2.2.2.2.1.length c5, .slice A6 x.2.2.2.2.2.2.1.length c6, .slice A7 x.2.2.2.2.2.2.2.1.length c7] 34) = w4 at *
          generalize w3.heap.size = mb at *
          generalize restOf x = rx at *
          generalize errOf x = ex at *
          clear hX
          gi_upto_region 8 with (first | (gi_at_call 40; (with_reducible refine (callsIn_wide.2 (hL2.out _)).mono ?_); rintro e w7 ⟨rfl, hB7⟩) | (gi_at_call 41; (with_reducible refine (callsIn_wide.2 (hC1.out _)).mono ?_); rintro e w6 ⟨rfl, hB6⟩) | (gi_at_call 40; (with_reducible refine (callsIn_wide.2 (hL1.out _)).mono ?_); rintro e w5 ⟨rfl, hB5⟩))
          have hb6 : Below w5.heap.size w5 w6 := by
            obtain ⟨q, rfl⟩ := hB6.out
            exact pw_below_drewN (Below.refl _ _) q
          have h47 : Below w4.heap.size w4 w7 := below_then (below_then hB5 hB5.size hb6) (Nat.le_trans hB5.size hb6.size) hB7
          have HBW7 := Aside0.mk (below_then HBW.out HBW.out.size h47)
          have HMB7 := Aside0.mk (blk_below HMB.out h47)
          have H57 := Aside0.mk (Kd.R_below H5.out h47)
          have H67 := Aside0.mk (Kd.S_below H6.out h47)
          have H77 := Aside0.mk (Kd.R_below H7.out h47)
          clear hb6 h47 hB5 hB6 hB7 HBW HMB H5 H6 H7 hL1 hC1 hL2
          gi_cut [49] from 18 (fun vc wc => vc = .bool (ex == 0 && (!r.toList.isEmpty && (!c2 || t'.toList.isEmpty))) ∧ w7 = wc)
          case first =>
            cases h1 : (ex == 0) with
            | false =>
              gi_wp2
              gi_meet
              case rel => exact ⟨by simp [*], rfl⟩
            | true =>
              cases h2 : r.toList.isEmpty with
              | true =>
                gi_wp2
                gi_meet
                case rel => exact ⟨by simp [*], rfl⟩
              | false =>
                cases c2 with
                | false =>
                  gi_wp2
                  gi_meet
                  case rel => exact ⟨by simp [*], rfl⟩
                | true =>
                  cases h3 : t'.toList.isEmpty with
                  | true =>
                    gi_wp2
                    gi_meet
                    case rel => exact ⟨by simp [*], rfl⟩
                  | false =>
                    gi_wp2
                    gi_meet
                    case rel => exact ⟨by simp [*], rfl⟩
          case rest =>
            obtain ⟨rfl, rfl⟩ := hcut
            obtain ⟨fl, hfl⟩ : ∃ fl : Bool, fl = (ex == 0 && (!r.toList.isEmpty && (!c2 || t'.toList.isEmpty))) := ⟨_, rfl⟩
            rw [← hfl]
            have HFL := Aside0.mk hfl
            clear hfl
            gi_upto_if 49 with (fail)
            gi_cut [7] from 18 (fun vc wc => vc = .int .i64 (if fl = true then 50 else ex) ∧ w7 = wc)
            case first =>
              cases fl with
              | true =>
                gi_wp2
                gi_meet
                case rel => exact ⟨rfl, rfl⟩
              | false =>
                gi_wp2
                gi_meet
                case rel => exact ⟨rfl, rfl⟩
            case rest =>
              obtain ⟨rfl, rfl⟩ := hcut
              obtain ⟨ee, hee⟩ : ∃ ee : Int, ee = (if fl = true then 50 else ex) := ⟨_, rfl⟩
              rw [← hee]
              have HEE := Aside0.mk hee
              clear hee
              have hyE : y = ((memOf x, ee), t', decide (r.toList = [])) := HYQ.out.symm.trans (by rw [mem1_y HFL.out HEE.out])
              have hM2 := HM.out
              rw [hyE] at hM2
              have hend : (ee ≠ 0 ∨ r.toList = []) → ys = (pre.map YM.pr ++ [(memOf x, ee)]) := fun hc => by
                rw [if_pos (by simpa using hc)] at hM2
                rw [HE.out, ← Option.some.inj hM2]
              have hgo : ¬ (ee ≠ 0 ∨ r.toList = []) → t'.size < t.size ∧ ∃ l, memsL nx d' t' = some l ∧ ys = (pre.map YM.pr ++ [(memOf x, ee)]) ++ l := fun hc => by
                rw [if_neg (by simpa using hc)] at hM2
                by_cases hz2 : t'.size < t.size
                · rw [if_pos hz2] at hM2
                  obtain ⟨l, hl, hM2⟩ := Option.bind_eq_some_iff.1 hM2
                  exact ⟨hz2, l, hl, by rw [HE.out, ← Option.some.inj hM2, List.append_assoc]; rfl⟩
                · rw [if_neg hz2] at hM2
                  cases hM2
              have hpre : (pre.map YM.pr ++ [(memOf x, ee)]) <+: ys := by
                by_cases hc : ee ≠ 0 ∨ r.toList = []
                · rw [hend hc]; exact List.prefix_rfl
                · obtain ⟨_, l, _, hl⟩ := hgo hc
                  rw [hl]; exact List.prefix_append _ _
              have HEND := Aside0.mk hend
              have HGO := Aside0.mk hgo
              have HPRE := Aside0.mk hpre
              clear hyE hM2 hend hgo hpre
              have hB07 : Below W0.heap.size W0 w7 := below_then HB0.out HB0.out.size HBW7.out
              have hpx : PxY ⟨memOf x, ee, .slice A5 x.2.2.2.2.2.1.length c5, .slice A6 x.2.2.2.2.2.2.1.length c6, .slice A7 x.2.2.2.2.2.2.2.1.length c7⟩ W0.heap.size w7 := ⟨Kd.R_lower H57.out HB0.out.size, Kd.S_lower H67.out HB0.out.size, Kd.R_lower H77.out HB0.out.size⟩
              obtain ⟨rfn, rtm, ras, rbo, hyr, hRd⟩ := HY.out pre _ W0 w7 HJ0.out hB07 ⟨by rw [List.map_append]; exact HPRE.out, hpx⟩
              have HRD := Aside0.mk hRd
              have HB07 := Aside0.mk hB07
              clear hRd hpx hB07
              simp only [encY, YM.agg, memOf] at hyr
              have q0 := blk_cell HMB7.out 0
              have q1 := blk_cell HMB7.out 1
              have q2 := blk_cell HMB7.out 2
              have q3 := blk_cell HMB7.out 3
              have q4 := blk_cell HMB7.out 4
              have q5 := blk_cell HMB7.out 5
              have q6 := blk_cell HMB7.out 6
              have q7 := blk_cell HMB7.out 7
              simp only [List.getElem?_toArray, List.getElem?_cons_succ, List.getElem?_cons_zero] at q0 q1 q2 q3 q4 q5 q6 q7
              gi_wp2
              refine HRD.out.mono ?_
              rintro e W4 (⟨rfl, hJ4, hk4⟩ | ⟨rfl, hJ4⟩)
              · have HJ4 := Aside0.mk hJ4
                have HK4 := Aside0.mk hk4
                clear hJ4 hk4 hyr q0 q1 q2 q3 q4 q5 q6 q7
                by_cases h0 : ee = 0
                · have b3 : (ee != 0) = false := by simp [h0]
                  cases h2 : r.toList.isEmpty with
                  | true =>
                    gi_wp2
                    refine bodyPost_ret (results_none rfl _ _ _) rfl ?_
                    exact ⟨⟨_, rfl⟩, .inl ⟨_, by rw [HEND.out (.inr (List.isEmpty_iff.1 h2)), List.map_append]; rfl, HJ4.out⟩⟩
                  | false =>
                    have hne : ¬ (ee ≠ 0 ∨ r.toList = []) := by simpa [h0] using h2
                    obtain ⟨hzl, l2, hl2, hys2⟩ := HGO.out hne
                    have HL2 := Aside0.mk hl2
                    have HYS2 := Aside0.mk hys2
                    have HZL := Aside0.mk hzl
                    clear hzl hl2 hys2 hne
                    gi_wp2
                    go_roundw
                    case rel => exact ⟨d', t', pre ++ [_], l2, W4, rfl, HL2, ⟨by rw [HYS2.out, List.map_append]; rfl⟩, HJ4, ⟨Below.refl _ _⟩, ⟨HK.out.trans ((KpOut.below HBW7.out (Nat.le_trans hmW HK.out.1)).trans HK4.out)⟩⟩
                    case measure => exact HZL.out
                · have b3 : (ee != 0) = true := by simp [h0]
                  gi_wp2
                  refine bodyPost_ret (results_none rfl _ _ _) rfl ?_
                  exact ⟨⟨_, rfl⟩, .inl ⟨_, by rw [HEND.out (.inl h0), List.map_append]; rfl, HJ4.out⟩⟩
              · have HJ4 := Aside0.mk hJ4
                clear hJ4 hyr q0 q1 q2 q3 q4 q5 q6 q7
                gi_wp2
                refine bodyPost_ret (results_none rfl _ _ _) rfl ?_
                exact ⟨⟨_, rfl⟩, .inr ⟨_, by rw [List.map_append]; exact HPRE.out, HJ4.out⟩⟩
/-- The iterator's word. -/
theorem members_m (n : Nat) (hn : 1 ≤ n) (nx : ByteArray → Option Ten) (hN : ∀ s x W, nx s = some x → Calls Tryz.prog 24 #[.string s] W (TenPost x W))
    (m BL BN d : Nat) (p : Nat → Prop) (s : ByteArray) (ys : List (S34 × Int)) (hys : membersF nx d s = some ys) (hBL : BL < m ∧ ¬ p BL) (hBN : BN < m ∧ ¬ p BN) (w : World) (hm : m ≤ w.heap.size)
    (hcL : w.cell? ⟨BL, 0, none⟩ = some (.string s)) (hcN : w.cell? ⟨BN, 0, none⟩ = some (.func (.func 24) #[] #[])) :
    Tells Fence.wide n Tryz.prog 39 #[.pointer (some ⟨BL, 0, none⟩), .pointer (some ⟨BN, 0, none⟩)] encY (fun pre x b W => (pre ++ [x]).map YM.pr <+: ys ∧ PxY x b W) (KpOut m p) (fun xs => xs.map YM.pr = ys) (fun pre => pre.map YM.pr <+: ys) w := by
  intro l J Jx W hW hJ hJx hY h0
  exact members1_m n hn nx hN l m BL BN d p s ys hys hBL hBN J Jx W (Nat.le_trans hm hW.size) hJ hY (pw_cell_below hW hcL) (pw_cell_below hW hcN) h0
attribute [local go_sem] Oper.semAt_some in
set_option maxRecDepth 100000 in
set_option maxHeartbeats 4000000 in
theorem members1_k (n : Nat) (hn : 1 ≤ n) (nx : ByteArray → Option Ten) (hN : ∀ s x W, nx s = some x → Calls Tryz.prog 26 #[.string s] W (TenPost x W))
    (l m BL BN d : Nat) (p : Nat → Prop) (s : ByteArray) (ys : List (S34 × Int)) (hys : membersF nx d s = some ys) (hBL : BL < m ∧ ¬ p BL) (hBN : BN < m ∧ ¬ p BN) (J Jx : List YM → World → Prop) (W : World) (hmW : m ≤ W.heap.size) (hJ : AbidesFrom W.heap.size J)
    (hY : ∀ pre x W0 W1, J pre W0 → Below W0.heap.size W0 W1 → ((pre ++ [x]).map YM.pr <+: ys ∧ PxY x W0.heap.size W1) → YieldAt Fence.wide (n - 1) Tryz.prog l (encY x) W1 fun e W' => (e = .returned (.bool true) ∧ J (pre ++ [x]) W' ∧ KpOut m p W1 W') ∨ (e = .returned (.bool false) ∧ Jx (pre ++ [x]) W'))
    (hcL : W.cell? ⟨BL, 0, none⟩ = some (.string s)) (hcN : W.cell? ⟨BN, 0, none⟩ = some (.func (.func 26) #[] #[])) (h0 : J [] W) :
    CallsIn Fence.wide n Tryz.prog 39 #[.func (.yield l) #[] #[], .pointer (some ⟨BL, 0, none⟩), .pointer (some ⟨BN, 0, none⟩)] W fun e W' => (∃ v, e = .returned v) ∧
      ((∃ xs, xs.map YM.pr = ys ∧ J xs W') ∨ (∃ pre, pre.map YM.pr <+: ys ∧ Jx pre W')) := by
  refine callsIn_of_wp Tryz.func39 rfl trivial ?_ rfl
  simp only [Tryz.ntmps39, List.size_toArray, List.length_cons, List.length_nil, Nat.reduceAdd, Nat.reduceSub, Array.replicate_succ, Array.replicate_zero, List.push_toArray, List.append_toArray, List.nil_append, List.cons_append]
  have hfN : Fence.wide.fn 26 := trivial
  have hen := enters_of Tryz.func26 (by kernel_rfl) rfl
  have HY := Aside0.mk hY
  have H0 := Aside0.mk h0
  have HN := Aside0.mk hN
  have HC := Aside0.mk hcN
  have HS := Aside0.mk hys
  clear hY h0 hN hcN hys
  by_cases h4 : (s.size : Int) > 4000
  · have hd : decide ((s.size : Int) > 4000) = true := decide_eq_true h4
    have hd2 : decide (4000 < (s.size : Int)) = true := decide_eq_true h4
    have hm := HS.out
    unfold membersF at hm
    rw [if_pos h4] at hm
    have hm2 := Option.some.inj hm
    have hpx : PxY ⟨⟨⟨#[]⟩, false, ⟨0, 0, ⟨#[]⟩, []⟩, [], []⟩, 50, .slice none 0 0, .slice none 0 0, .slice none 0 0⟩ W.heap.size W := ⟨Kd.R_nil _ _ _ _ _, Kd.S_nil _ _ _ _ _, Kd.R_nil _ _ _ _ _⟩
    obtain ⟨rfn, rtm, ras, rbo, hyr, hRd⟩ := HY.out [] _ W W H0.out (Below.refl _ _) ⟨by rw [← hm2]; exact List.prefix_rfl, hpx⟩
    have HRD := Aside0.mk hRd
    clear hRd hm hpx h4 hd
    simp only [encY, YM.agg] at hyr
    gi_wp2
    refine HRD.out.mono ?_
    rintro e W4 (⟨rfl, hJ4, hk4⟩ | ⟨rfl, hJ4⟩)
    · gi_wp2
      refine bodyPost_ret (results_none rfl _ _ _) rfl ?_
      exact ⟨⟨_, rfl⟩, .inl ⟨_, by exact hm2, hJ4⟩⟩
    · gi_wp2
      refine bodyPost_ret (results_none rfl _ _ _) rfl ?_
      exact ⟨⟨_, rfl⟩, .inr ⟨_, by exact ⟨[], (List.append_nil _).trans hm2⟩, hJ4⟩⟩
  · have hd : decide ((s.size : Int) > 4000) = false := decide_eq_false h4
    have hd2 : decide (4000 < (s.size : Int)) = false := decide_eq_false h4
    have hm := HS.out
    unfold membersF at hm
    rw [if_neg h4] at hm
    have HM := Aside0.mk hm
    have hT := Aside0.mk (fun W => Tryz.strings_Trim_one s 32 (by decide) W (by omega))
    clear hm h4 hd HS
    have fw1 : Fence.wide.fn 31 := trivial
    have HJA := Aside0.mk hJ
    clear hJ
    gi_wp2_with (first | (gi_at_call 31; refine (callsIn_wide.2 (hT.out _)).mono ?_; rintro e w2 ⟨rfl, hd2⟩; have hB2 : Below W.heap.size W w2 := (by rcases hd2 with rfl | rfl; exact Below.refl _ _; exact below_drew (Below.refl _ _)); clear hd2))
    have HB2 := Aside0.mk hB2
    clear hB2 hcL
    gi_loopw [4] (fun v4 wr => ∃ (d' : Nat) (t : ByteArray) (pre : List YM) (rest : List (S34 × Int)) (W0 : World), v4 = .string t ∧ Aside0 (memsL nx d' t = some rest) ∧ Aside0 (ys = pre.map YM.pr ++ rest) ∧ Aside0 (J pre W0) ∧ Aside0 (Below W0.heap.size W0 wr) ∧ Aside0 (KpOut m p W wr)) (fun v4 _ => strSz v4)
    case atStart => exact ⟨d, trimM s, [], ys, W, rfl, HM, ⟨rfl⟩, H0, HB2, ⟨KpOut.below HB2.out hmW⟩⟩
    case round =>
      clear H0 HM
      obtain ⟨d', t, pre, rest, W0, rfl, HM, HE, HJ0, HB0, HK⟩ := hrel
      cases d' with
      | zero => exact absurd HM.out (by simp [memsL])
      | succ d' =>
        by_cases ht : t.toList = []
        · have hm := HM.out
          rw [memsL, if_pos ht] at hm
          obtain rfl := Option.some.inj hm
          have b1 : (t.toList != ([] : List UInt8)) = false := by simp [ht]
          have b2 : t.toList.isEmpty = true := by rw [ht]; rfl
          have hgr : W0.grownBy wr none := ⟨HB0.out.os, HB0.out.tape, HB0.out.output, HB0.out.size, fun i hi _ => HB0.out.block i hi⟩
          have HJr := Aside0.mk (HJA.out _ _ _ none HJ0.out hgr (fun r e => by cases e))
          clear hm ht hgr HM
          gi_wp2
          go_end0
          exact ⟨⟨_, rfl⟩, .inl ⟨pre, by have := HE.out; rw [List.append_nil] at this; exact this.symm, HJr.out⟩⟩
        · have hm := HM.out
          rw [memsL, if_neg ht] at hm
          obtain ⟨y, hy, hm⟩ := Option.bind_eq_some_iff.mp hm
          unfold mem1 at hy
          obtain ⟨x, hx, hy⟩ := Option.bind_eq_some_iff.mp hy
          obtain ⟨r, hr, hy⟩ := Option.bind_eq_some_iff.mp hy
          obtain ⟨⟨c1, c2⟩, hc, hy⟩ := Option.bind_eq_some_iff.mp hy
          obtain ⟨t', ht', hy⟩ := Option.bind_eq_some_iff.mp hy
          have hyq := Option.some.inj hy
          have b1 : (t.toList != ([] : List UInt8)) = true := by simp [ht]
          have b2 : t.toList.isEmpty = false := by simpa using ht
          have hcN : wr.cell? ⟨BN, 0, none⟩ = some (.func (.func 26) #[] #[]) := HK.out.cell hBN.1 hBN.2 HC.out
          have hX := Aside0.mk (fun W2 => HN.out t x W2 hx)
          have hL1 := Aside0.mk (fun W2 => strings_TrimLeft.calls (restOf x) ⟨#[32, 9]⟩ r W2 hr)
          have hC1 := Aside0.mk (fun W2 => strings_CutPrefix.calls r ⟨#[44]⟩ c1 c2 W2 hc)
          have hL2 := Aside0.mk (fun W2 => strings_TrimLeft.calls c1 ⟨#[32, 9]⟩ t' W2 ht')
          have HM := Aside0.mk hm
          have HYQ := Aside0.mk hyq
          clear hm hyq hy hx hr hc ht' ht
          have fw2 : Fence.wide.fn 40 := trivial
          have fw3 : Fence.wide.fn 41 := trivial
          gi_upto_region 5 with (first | (gi_at_call 26; refine (callsIn_wide.2 (hX.out _)).mono ?_; rintro e w3 ⟨v5, v6, v7, rfl, h5, h6, h7, hB3⟩; obtain ⟨A5, c5, hv5⟩ := Kd.R_slice h5; obtain ⟨A6, c6, hv6⟩ := Kd.R_slice (Kd.S_R h6); obtain ⟨A7, c7, hv7⟩ := Kd.R_slice h7; subst hv5 hv6 hv7))
          have hMB := blk_new w3 (.cells #[.string x.1, .bool x.2.1, .int .i64 x.2.2.1, .int .i64 x.2.2.2.1, .string x.2.2.2.2.1, .slice A5 x.2.2.2.2.2.1.length c5, .slice A6 x.2.2.2.2.2.2.1.length c6, .slice A7 x.2.2.2.2.2.2.2.1.length c7] 34)
          have hBw := below_alloc (below_then (Below.refl wr.heap.size wr) (Nat.le_refl _) hB3) (.cells #[.string x.1, .bool x.2.1, .int .i64 x.2.2.1, .int .i64 x.2.2.2.1, .string x.2.2.2.2.1, .slice A5 x.2.2.2.2.2.1.length c5, .slice A6 x.2.2.2.2.2.2.1.length c6, .slice A7 x.2.2.2.2.2.2.2.1.length c7] 34)
          have H5 := Aside0.mk (Kd.R_alloc h5 (.cells #[.string x.1, .bool x.2.1, .int .i64 x.2.2.1, .int .i64 x.2.2.2.1, .string x.2.2.2.2.1, .slice A5 x.2.2.2.2.2.1.length c5, .slice A6 x.2.2.2.2.2.2.1.length c6, .slice A7 x.2.2.2.2.2.2.2.1.length c7] 34))
          have H6 := Aside0.mk (Kd.S_alloc h6 (.cells #[.string x.1, .bool x.2.1, .int .i64 x.2.2.1, .int .i64 x.2.2.2.1, .string x.2.2.2.2.1, .slice A5 x.2.2.2.2.2.1.length c5, .slice A6 x.2.2.2.2.2.2.1.length c6, .slice A7 x.2.2.2.2.2.2.2.1.length c7] 34))
          have H7 := Aside0.mk (Kd.R_alloc h7 (.cells #[.string x.1, .bool x.2.1, .int .i64 x.2.2.1, .int .i64 x.2.2.2.1, .string x.2.2.2.2.1, .slice A5 x.2.2.2.2.2.1.length c5, .slice A6 x.2.2.2.2.2.2.1.length c6, .slice A7 x.2.2.2.2.2.2.2.1.length c7] 34))
          have HMB := Aside0.mk hMB
          have HBW := Aside0.mk hBw
          clear hMB hBw h5 h6 h7 hB3 hcN b1 b2
          generalize w3.alloc (.cells #[.string x.1, .bool x.2.1, .int .i64 x.2.2.1, .int .i64 x.2.2.2.1, .string x.2.2.2.2.1, .slice A5 x.2.2.2.2.2.1.length c5, .slice A6 x.2.2.2.2.2.2.1.length c6, .slice A7 x.2.2.2.2.2.2.2.1.length c7] 34) = w4 at *
          generalize w3.heap.size = mb at *
          generalize restOf x = rx at *
          generalize errOf x = ex at *
          clear hX
          gi_upto_region 8 with (first | (gi_at_call 40; (with_reducible refine (callsIn_wide.2 (hL2.out _)).mono ?_); rintro e w7 ⟨rfl, hB7⟩) | (gi_at_call 41; (with_reducible refine (callsIn_wide.2 (hC1.out _)).mono ?_); rintro e w6 ⟨rfl, hB6⟩) | (gi_at_call 40; (with_reducible refine (callsIn_wide.2 (hL1.out _)).mono ?_); rintro e w5 ⟨rfl, hB5⟩))
          have hb6 : Below w5.heap.size w5 w6 := by
            obtain ⟨q, rfl⟩ := hB6.out
            exact pw_below_drewN (Below.refl _ _) q
          have h47 : Below w4.heap.size w4 w7 := below_then (below_then hB5 hB5.size hb6) (Nat.le_trans hB5.size hb6.size) hB7
          have HBW7 := Aside0.mk (below_then HBW.out HBW.out.size h47)
          have HMB7 := Aside0.mk (blk_below HMB.out h47)
          have H57 := Aside0.mk (Kd.R_below H5.out h47)
          have H67 := Aside0.mk (Kd.S_below H6.out h47)
          have H77 := Aside0.mk (Kd.R_below H7.out h47)
          clear hb6 h47 hB5 hB6 hB7 HBW HMB H5 H6 H7 hL1 hC1 hL2
          gi_cut [49] from 18 (fun vc wc => vc = .bool (ex == 0 && (!r.toList.isEmpty && (!c2 || t'.toList.isEmpty))) ∧ w7 = wc)
          case first =>
            cases h1 : (ex == 0) with
            | false =>
              gi_wp2
              gi_meet
              case rel => exact ⟨by simp [*], rfl⟩
            | true =>
              cases h2 : r.toList.isEmpty with
              | true =>
                gi_wp2
                gi_meet
                case rel => exact ⟨by simp [*], rfl⟩
              | false =>
                cases c2 with
                | false =>
                  gi_wp2
                  gi_meet
                  case rel => exact ⟨by simp [*], rfl⟩
                | true =>
                  cases h3 : t'.toList.isEmpty with
                  | true =>
                    gi_wp2
                    gi_meet
                    case rel => exact ⟨by simp [*], rfl⟩
                  | false =>
                    gi_wp2
                    gi_meet
                    case rel => exact ⟨by simp [*], rfl⟩
          case rest =>
            obtain ⟨rfl, rfl⟩ := hcut
            obtain ⟨fl, hfl⟩ : ∃ fl : Bool, fl = (ex == 0 && (!r.toList.isEmpty && (!c2 || t'.toList.isEmpty))) := ⟨_, rfl⟩
            rw [← hfl]
            have HFL := Aside0.mk hfl
            clear hfl
            gi_upto_if 49 with (fail)
            gi_cut [7] from 18 (fun vc wc => vc = .int .i64 (if fl = true then 50 else ex) ∧ w7 = wc)
            case first =>
              cases fl with
              | true =>
                gi_wp2
                gi_meet
                case rel => exact ⟨rfl, rfl⟩
              | false =>
                gi_wp2
                gi_meet
                case rel => exact ⟨rfl, rfl⟩
            case rest =>
              obtain ⟨rfl, rfl⟩ := hcut
              obtain ⟨ee, hee⟩ : ∃ ee : Int, ee = (if fl = true then 50 else ex) := ⟨_, rfl⟩
              rw [← hee]
              have HEE := Aside0.mk hee
              clear hee
              have hyE : y = ((memOf x, ee), t', decide (r.toList = [])) := HYQ.out.symm.trans (by rw [mem1_y HFL.out HEE.out])
              have hM2 := HM.out
              rw [hyE] at hM2
              have hend : (ee ≠ 0 ∨ r.toList = []) → ys = (pre.map YM.pr ++ [(memOf x, ee)]) := fun hc => by
                rw [if_pos (by simpa using hc)] at hM2
                rw [HE.out, ← Option.some.inj hM2]
              have hgo : ¬ (ee ≠ 0 ∨ r.toList = []) → t'.size < t.size ∧ ∃ l, memsL nx d' t' = some l ∧ ys = (pre.map YM.pr ++ [(memOf x, ee)]) ++ l := fun hc => by
                rw [if_neg (by simpa using hc)] at hM2
                by_cases hz2 : t'.size < t.size
                · rw [if_pos hz2] at hM2
                  obtain ⟨l, hl, hM2⟩ := Option.bind_eq_some_iff.1 hM2
                  exact ⟨hz2, l, hl, by rw [HE.out, ← Option.some.inj hM2, List.append_assoc]; rfl⟩
                · rw [if_neg hz2] at hM2
                  cases hM2
              have hpre : (pre.map YM.pr ++ [(memOf x, ee)]) <+: ys := by
                by_cases hc : ee ≠ 0 ∨ r.toList = []
                · rw [hend hc]; exact List.prefix_rfl
                · obtain ⟨_, l, _, hl⟩ := hgo hc
                  rw [hl]; exact List.prefix_append _ _
              have HEND := Aside0.mk hend
              have HGO := Aside0.mk hgo
              have HPRE := Aside0.mk hpre
              clear hyE hM2 hend hgo hpre
              have hB07 : Below W0.heap.size W0 w7 := below_then HB0.out HB0.out.size HBW7.out
              have hpx : PxY ⟨memOf x, ee, .slice A5 x.2.2.2.2.2.1.length c5, .slice A6 x.2.2.2.2.2.2.1.length c6, .slice A7 x.2.2.2.2.2.2.2.1.length c7⟩ W0.heap.size w7 := ⟨Kd.R_lower H57.out HB0.out.size, Kd.S_lower H67.out HB0.out.size, Kd.R_lower H77.out HB0.out.size⟩
              obtain ⟨rfn, rtm, ras, rbo, hyr, hRd⟩ := HY.out pre _ W0 w7 HJ0.out hB07 ⟨by rw [List.map_append]; exact HPRE.out, hpx⟩
              have HRD := Aside0.mk hRd
              have HB07 := Aside0.mk hB07
              clear hRd hpx hB07
              simp only [encY, YM.agg, memOf] at hyr
              have q0 := blk_cell HMB7.out 0
              have q1 := blk_cell HMB7.out 1
              have q2 := blk_cell HMB7.out 2
              have q3 := blk_cell HMB7.out 3
              have q4 := blk_cell HMB7.out 4
              have q5 := blk_cell HMB7.out 5
              have q6 := blk_cell HMB7.out 6
              have q7 := blk_cell HMB7.out 7
              simp only [List.getElem?_toArray, List.getElem?_cons_succ, List.getElem?_cons_zero] at q0 q1 q2 q3 q4 q5 q6 q7
              gi_wp2
              refine HRD.out.mono ?_
              rintro e W4 (⟨rfl, hJ4, hk4⟩ | ⟨rfl, hJ4⟩)
              · have HJ4 := Aside0.mk hJ4
                have HK4 := Aside0.mk hk4
                clear hJ4 hk4 hyr q0 q1 q2 q3 q4 q5 q6 q7
                by_cases h0 : ee = 0
                · have b3 : (ee != 0) = false := by simp [h0]
                  cases h2 : r.toList.isEmpty with
                  | true =>
                    gi_wp2
                    refine bodyPost_ret (results_none rfl _ _ _) rfl ?_
                    exact ⟨⟨_, rfl⟩, .inl ⟨_, by rw [HEND.out (.inr (List.isEmpty_iff.1 h2)), List.map_append]; rfl, HJ4.out⟩⟩
                  | false =>
                    have hne : ¬ (ee ≠ 0 ∨ r.toList = []) := by simpa [h0] using h2
                    obtain ⟨hzl, l2, hl2, hys2⟩ := HGO.out hne
                    have HL2 := Aside0.mk hl2
                    have HYS2 := Aside0.mk hys2
                    have HZL := Aside0.mk hzl
                    clear hzl hl2 hys2 hne
                    gi_wp2
                    go_roundw
                    case rel => exact ⟨d', t', pre ++ [_], l2, W4, rfl, HL2, ⟨by rw [HYS2.out, List.map_append]; rfl⟩, HJ4, ⟨Below.refl _ _⟩, ⟨HK.out.trans ((KpOut.below HBW7.out (Nat.le_trans hmW HK.out.1)).trans HK4.out)⟩⟩
                    case measure => exact HZL.out
                · have b3 : (ee != 0) = true := by simp [h0]
                  gi_wp2
                  refine bodyPost_ret (results_none rfl _ _ _) rfl ?_
                  exact ⟨⟨_, rfl⟩, .inl ⟨_, by rw [HEND.out (.inl h0), List.map_append]; rfl, HJ4.out⟩⟩
              · have HJ4 := Aside0.mk hJ4
                clear hJ4 hyr q0 q1 q2 q3 q4 q5 q6 q7
                gi_wp2
                refine bodyPost_ret (results_none rfl _ _ _) rfl ?_
                exact ⟨⟨_, rfl⟩, .inr ⟨_, by rw [List.map_append]; exact HPRE.out, HJ4.out⟩⟩
/-- The iterator's word. -/
theorem members_k (n : Nat) (hn : 1 ≤ n) (nx : ByteArray → Option Ten) (hN : ∀ s x W, nx s = some x → Calls Tryz.prog 26 #[.string s] W (TenPost x W))
    (m BL BN d : Nat) (p : Nat → Prop) (s : ByteArray) (ys : List (S34 × Int)) (hys : membersF nx d s = some ys) (hBL : BL < m ∧ ¬ p BL) (hBN : BN < m ∧ ¬ p BN) (w : World) (hm : m ≤ w.heap.size)
    (hcL : w.cell? ⟨BL, 0, none⟩ = some (.string s)) (hcN : w.cell? ⟨BN, 0, none⟩ = some (.func (.func 26) #[] #[])) :
    Tells Fence.wide n Tryz.prog 39 #[.pointer (some ⟨BL, 0, none⟩), .pointer (some ⟨BN, 0, none⟩)] encY (fun pre x b W => (pre ++ [x]).map YM.pr <+: ys ∧ PxY x b W) (KpOut m p) (fun xs => xs.map YM.pr = ys) (fun pre => pre.map YM.pr <+: ys) w := by
  intro l J Jx W hW hJ hJx hY h0
  exact members1_k n hn nx hN l m BL BN d p s ys hys hBL hBN J Jx W (Nat.le_trans hm hW.size) hJ hY (pw_cell_below hW hcL) (pw_cell_below hW hcN) h0
open Go.Proofs.YtjdbiicjfpgjkaaGreatDoor.Sf
theorem memsL_mono {nx nx' : ByteArray → Option Ten} (hle : ∀ s, LeO (nx s) (nx' s)) : ∀ d s, LeO (memsL nx d s) (memsL nx' (d + 1) s)
  | 0, _ => fun r h => by cases h
  | d + 1, s => fun r h => by
    rw [memsL] at h ⊢
    by_cases hs : s.toList = []
    · rw [if_pos hs] at h ⊢; exact h
    · rw [if_neg hs] at h ⊢
      obtain ⟨y, hy, h⟩ := Option.bind_eq_some_iff.1 h
      have hy2 : mem1 nx' s = some y := by
        unfold mem1 at hy ⊢
        obtain ⟨x, hx, hy⟩ := Option.bind_eq_some_iff.1 hy
        rw [hle s x hx]
        exact hy
      rw [hy2]
      show (if _ then _ else _) = _
      by_cases h1 : y.1.2 ≠ 0 ∨ y.2.2 = true
      · rw [if_pos h1] at h ⊢; exact h
      · rw [if_neg h1] at h ⊢
        by_cases h2 : y.2.1.size < s.size
        · rw [if_pos h2] at h ⊢
          obtain ⟨l, hl, h⟩ := Option.bind_eq_some_iff.1 h
          rw [memsL_mono hle d _ l hl]
          exact h
        · rw [if_neg h2] at h; cases h
theorem membersF_mono {nx nx' : ByteArray → Option Ten} (hle : ∀ s, LeO (nx s) (nx' s)) (d : Nat) (s : ByteArray) : LeO (membersF nx d s) (membersF nx' (d + 1) s) := by
  intro r h
  unfold membersF at h ⊢
  split at h
  · rename_i hs; rw [if_pos hs]; exact h
  · rename_i hs; rw [if_neg hs]; exact memsL_mono hle d _ r h
/-- What a list gathers: the members, or the error alone. -/
def gatherL (ys : List (S34 × Int)) : (List S34) × Int :=
  match ys.find? (fun y => y.2 != 0) with
  | some y => ([], y.2)
  | none => (ys.map Prod.fst, 0)
theorem gatherL_good {xs : List YM} (h : ∀ x ∈ xs, x.e = 0) : gatherL (xs.map YM.pr) = (xs.map YM.m, 0) := by
  unfold gatherL
  have e : (xs.map YM.pr).find? (fun y => y.2 != 0) = none := by
    rw [List.find?_eq_none]
    intro y hy
    obtain ⟨x, hx, rfl⟩ := List.mem_map.1 hy
    simp [YM.pr, h x hx]
  rw [e]
  simp [YM.pr, Function.comp_def]
theorem gatherL_bad {xs : List YM} {x : YM} {ys : List (S34 × Int)} (h : ∀ y ∈ xs, y.e = 0) (hx : x.e ≠ 0) (hp : (xs ++ [x]).map YM.pr <+: ys) : gatherL ys = ([], x.e) := by
  obtain ⟨zs, rfl⟩ := hp
  unfold gatherL
  have e : (xs.map YM.pr).find? (fun y => y.2 != 0) = none := by
    rw [List.find?_eq_none]
    intro y hy
    obtain ⟨x, hx, rfl⟩ := List.mem_map.1 hy
    simp [YM.pr, h x hx]
  rw [List.map_append, List.append_assoc, List.find?_append, e]
  simp [YM.pr, hx]
def sfield_List.f (k : Nat) (s : ByteArray) : Option ((List S34) × Int) := (membersF (sfield_member.f k) k s).bind fun ys => if ys.length ≤ 1000000 then some (gatherL ys) else none
theorem sfield_List.mono : ∀ a0 k, LeO (sfield_List.f k a0) (sfield_List.f (k + 1) a0) := by
  intro a0 k r h
  unfold sfield_List.f at h ⊢
  obtain ⟨ys, hys, h⟩ := Option.bind_eq_some_iff.1 h
  rw [membersF_mono (fun s => sfield_member.mono s k) k a0 ys hys]
  exact h
section
variable {F : Fence} {nF : Nat} {P : Program} {ops : Array Oper} {rest : List Oper} {o : Oper} {a : Act} {Q : Exit → Act → World → Prop} {α : Type}
/-- An append of one element to an own row, in a fence. -/
theorem R_appendIn (d : Kd α) {W : World} (base : Nat) (hgd : o.guard = none) (s x : Operand) (t e : TypeId) (i : TypeInfo) (z : Value) (bytes : Nat)
    (ho : o.op = .call { callee := .builtin .append, args := #[s, x], argTypes := #[t, t] })
    (ht : P.underlying t = some (.slice e)) (hi : P.info? e = some i) (hz : i.zero = some z) (hsz : i.size = d.sz) (hby : i.bytes = bytes) (hzs : z.cells.size = d.sz) (hs0 : 0 < d.sz)
    (v : Value) (xs : List α) (p : α) (cs : List Value) (ok okp : Nat → Prop) (hs : a.eval s = v) (ad : Addr) (c : Nat) (hx : a.eval x = .slice (some ad) 1 c) (hcs : ∀ j u, cs[j]? = some u → W.cell? (ad.add j) = some u)
    (hp : d.M W base okp p cs) (hokp : ∀ k, okp k → ok k ∧ some k ≠ v.ownBlock) (hfresh : ∀ k, W.heap.size ≤ k → ok k) (HO : d.R e W base ok v xs) (hbase : base ≤ W.heap.size) (h63 : xs.length + 1 ≤ maxLen) (hl : (xs.length + 1) * bytes ≤ 140737488355328)
    (h : ∀ v1 w1, d.R e w1 base ok v1 (xs ++ [p]) → W.grownBy w1 v.ownBlock → (v1.ownBlock = v.ownBlock ∨ v1.ownBlock = some W.heap.size) → wpListIn F nF P ops Q rest (a.put o.dst v1) w1) : wpListIn F nF P ops Q (o :: rest) a W := by
  obtain ⟨h0, inner, hown, hr⟩ := HO
  refine wpListIn_append_own_at W hgd s x t ho base e i z d.sz bytes ht hi hz hsz hby hzs hs0 v xs.length inner hs hown ad 1 c cs hx (by rw [d.K_len (d.K_of_M hp)]; omega) hcs (d.K_one (d.K_of_M hp)) h63 hl hbase ?_
  intro v1 w1 hown1 hg1 _ hat1
  exact h v1 w1 (Kd.R_appended h0 hr hp hokp hfresh hown1 hg1 (hat1.imp_right (fun h => ⟨_, h, Nat.le_refl _⟩))) hg1 hat1
end
theorem R_putObj {α : Type} {d : Kd α} {e : Nat} {w : World} {base : Nat} {ok : Nat → Prop} {v : Value} {xs : List α} (h : d.R e w base ok v xs) {D : Nat} {o : Obj} (hD : w.heap[D]? = some o) (hc : o.isCells = false) (o' : Obj) : d.R e (w.putObj D o') base ok v xs :=
  Kd.R_mono (Kd.R_move (Kd.R_bound h) (fun k hk => World.putObj_heap_other (by
    rintro rfl
    obtain ⟨_, _, _, q, _, cells, hcell⟩ := hk
    rw [hD] at hcell
    cases hcell
    cases hc))) (fun _ hk => hk.1)
theorem cells_new (W : World) (cs : List Value) (e : TypeId) : ∀ j u, cs[j]? = some u → (W.alloc (.cells cs.toArray e)).cell? ((⟨W.heap.size, 0, none⟩ : Addr).add j) = some u := by
  intro j u h
  have e1 : (⟨W.heap.size, 0, none⟩ : Addr).add j = ⟨W.heap.size, j, none⟩ := by by_cases h0 : j = 0 <;> simp [Addr.add, h0]
  rw [e1]
  exact (blk_cell (blk_new W (.cells cs.toArray e)) j).trans (by simpa using h)
/-- What a row, a variable, abide. -/
theorem boxed_from {β : Type} (B b : Nat) (t : TypeId) (v : Value) : OwnFrom B (fun (_ : β) W => Boxed W b t v) := by
  intro s W W' row h hg hr
  refine h.kept hg (fun e => ?_)
  obtain ⟨_, o, ho, hc⟩ := hr b e.symm
  rw [show W.heap[b]? = _ from h] at ho
  cases ho
  cases hc
theorem R_from {α : Type} {d : Kd α} {e B base : Nat} {ok : Nat → Prop} {v : Value} {xs : List α} {W W' : World} {row : Option Nat} (h : d.R e W base ok v xs) (hg : W.grownBy W' row) (hr : ∀ r, row = some r → B ≤ r ∧ ∃ o : Obj, W.heap[r]? = some o ∧ o.isCells = false) : d.R e W' base ok v xs :=
  Kd.R_mono (Kd.R_grown (Kd.R_bound h) hg (fun k hk e => by
    obtain ⟨_, o, ho, hc⟩ := hr k e.symm
    obtain ⟨_, _, _, q, _, cells, hcell⟩ := hk
    rw [hcell] at ho
    cases ho
    cases hc)) (fun _ hk => hk.1)
theorem S_from {α : Type} {d : Kd α} {e B base : Nat} {ok : Nat → Prop} {v : Value} {xs : List α} {W W' : World} {row : Option Nat} (h : Kd.S d e W base ok v xs) (hg : W.grownBy W' row) (hr : ∀ r, row = some r → B ≤ r ∧ ∃ o : Obj, W.heap[r]? = some o ∧ o.isCells = false) : Kd.S d e W' base ok v xs := by
  obtain ⟨f, hf⟩ := h
  exact ⟨f, R_from hf hg hr⟩
theorem PxY.from {x : YM} {b B : Nat} {W W' : World} {row : Option Nat} (h : PxY x b W) (hg : W.grownBy W' row) (hr : ∀ r, row = some r → B ≤ r ∧ ∃ o : Obj, W.heap[r]? = some o ∧ o.isCells = false) : PxY x b W' :=
  ⟨R_from h.1 hg hr, S_from h.2.1 hg hr, R_from h.2.2 hg hr⟩
/-- The rows that gather members: variable bo's row, apart from what is yielded at b. -/
def RowAt (m b bo : Nat) (pre : List YM) (W : World) : Prop := ∃ v, Boxed W bo 23 v ∧ Kd.R k34 34 W m (fun k => k < b) v (pre.map YM.m)
theorem RowAt.from {m b bo B : Nat} {pre : List YM} {W W' : World} {row : Option Nat} (h : RowAt m b bo pre W) (hg : W.grownBy W' row) (hr : ∀ r, row = some r → B ≤ r ∧ ∃ o : Obj, W.heap[r]? = some o ∧ o.isCells = false) : RowAt m b bo pre W' := by
  obtain ⟨v, h1, h2⟩ := h
  exact ⟨v, boxed_from (β := Unit) B _ _ _ () W W' row h1 hg hr, R_from h2 hg hr⟩
/-- The member's own variable in a round. -/
def MemAt (x : YM) (mb : Nat) (W : World) : Prop := W.heap[mb]? = some (.cells #[.string x.m.f0, .bool x.m.f1, .int .i64 x.m.f2.f0, .int .i64 x.m.f2.f1, .string x.m.f2.f2, x.v5, x.v6, x.v7] 34 (0, 0))
theorem MemAt.from {x : YM} {mb B : Nat} {W W' : World} {row : Option Nat} (h : MemAt x mb W) (hg : W.grownBy W' row) (hr : ∀ r, row = some r → B ≤ r ∧ ∃ o : Obj, W.heap[r]? = some o ∧ o.isCells = false) : MemAt x mb W' := by
  refine (hg.block mb (Array.getElem?_eq_some_iff.1 h).1 (fun e => ?_)).trans h
  obtain ⟨_, o, ho, hc⟩ := hr mb e.symm
  rw [show W.heap[mb]? = _ from h] at ho
  cases ho
  cases hc
/-- A yielded member as a row's element. -/
theorem PxY.M {x : YM} {b m : Nat} {W : World} (h : PxY x b W) (hm : m ≤ b) (row : Option Nat) (hrow : ∀ k, row = some k → k < b) : (k34).M W m (fun k => some k ≠ row) x.m [.string x.m.f0, .bool x.m.f1, .int .i64 x.m.f2.f0, .int .i64 x.m.f2.f1, .string x.m.f2.f2, x.v5, x.v6, x.v7] := by
  have far : ∀ k, b ≤ k → some k ≠ row := fun k hk e => by have := hrow k e.symm; omega
  exact k34_mkM W m _ x.m (Kd.R_lower (Kd.R_mono (Kd.R_bound h.1) (fun k hk => far k hk.2.1)) hm) (Kd.R_lower (Kd.R_mono (Kd.R_bound (Kd.S_R h.2.1)) (fun k hk => far k hk.2.1)) hm) (Kd.R_lower (Kd.R_mono (Kd.R_bound h.2.2) (fun k hk => far k hk.2.1)) hm)
/-- What is gathered so far. -/
def MsAt (w : World) (m bo bw : Nat) (pre : List YM) (W : World) : Prop :=
  (∃ v, Boxed W bo 23 v ∧ Kd.R k34 34 W m (fun _ => True) v (pre.map YM.m)) ∧ Boxed W bw 24 (.int .i64 0) ∧ (∀ x ∈ pre, x.e = 0) ∧ Below w.heap.size w W ∧ m ≤ W.heap.size
theorem MsAt.own (w : World) (m bo bw B : Nat) (hB : w.heap.size ≤ B) : OwnFrom B (MsAt w m bo bw) := by
  rintro s W W' row ⟨⟨v, h1, h2⟩, h3, h4, h5, h6⟩ hg hr
  exact ⟨⟨v, boxed_from (β := Unit) B _ _ _ () W W' row h1 hg hr, R_from h2 hg hr⟩, boxed_from (β := Unit) B _ _ _ () W W' row h3 hg hr, h4, h5.grown hg h5.size (fun k e => Nat.le_trans hB (hr k e).1), Nat.le_trans h6 hg.size⟩
theorem MsAt.row {w : World} {m bo bw : Nat} {pre : List YM} {W0 W : World} (h : MsAt w m bo bw pre W0) (hb : Below W0.heap.size W0 W) : RowAt m W0.heap.size bo pre W := by
  obtain ⟨⟨v, h1, h2⟩, _⟩ := h
  exact ⟨v, h1.kept (grown_of_below hb none) (by simp), Kd.R_below (Kd.R_mono (Kd.R_bound h2) (fun k hk => hk.2.2.1)) hb⟩
theorem MsAt.put {w W w1 : World} {m bo bw : Nat} {pre : List YM} {x : YM} {v v1 : Value} {tmp : Obj} {ok : Nat → Prop} (hbo : Boxed W bo 23 v) (hR0 : Kd.R k34 34 W m ok v (pre.map YM.m)) (hbw : Boxed W bw 24 (.int .i64 0))
    (h0 : ∀ x ∈ pre, YM.e x = 0) (he : x.e = 0) (hB : Below w.heap.size w W) (hmW : m ≤ W.heap.size) (hbo1 : bo < m) (hbw1 : bw < m) (hne : bo ≠ bw) (hwb : w.heap.size ≤ bo)
    (hR1 : Kd.R k34 34 w1 m (fun _ => True) v1 (pre.map YM.m ++ [x.m])) (hg : (W.alloc tmp).grownBy w1 v.ownBlock) :
    KeepsFrom m W (w1.setCell ⟨bo, 0, none⟩ v1) ∧ KpOut m (fun q => q = bo ∨ q = bw) W (w1.setCell ⟨bo, 0, none⟩ v1) ∧ MsAt w m bo bw (pre ++ [x]) (w1.setCell ⟨bo, 0, none⟩ v1) := by
  have hbase : ∀ k, v.ownBlock = some k → m ≤ k := Kd.R_base hR0
  have hsz : W.heap.size ≤ w1.heap.size := Nat.le_trans (by simp) hg.size
  have hset : ∀ k, k ≠ bo → (w1.setCell ⟨bo, 0, none⟩ v1).heap[k]? = w1.heap[k]? := fun k hk => Below.heap_setCell w1 ⟨bo, 0, none⟩ v1 k hk
  have hssz : (w1.setCell ⟨bo, 0, none⟩ v1).heap.size = w1.heap.size := by simp
  have hal : ∀ k, k < W.heap.size → some k ≠ v.ownBlock → w1.heap[k]? = W.heap[k]? := fun k hk h => (hg.block k (by simp; omega) h).trans (Below.heap_alloc W tmp k hk)
  have hlow : ∀ k, k < m → w1.heap[k]? = W.heap[k]? := fun k hk => hal k (by omega) (fun e => by have := hbase k e.symm; omega)
  have b1 : Boxed w1 bo 23 v := (hlow bo hbo1).trans hbo
  have b2 : Boxed w1 bw 24 (.int .i64 0) := (hlow bw hbw1).trans hbw
  have hgs := grownBy_setCell' w1 bo v1
  refine ⟨⟨by omega, fun k o hk hko hc => ?_⟩, ⟨by omega, fun k hk hp => ?_⟩, ⟨_, b1.set v1, ?_⟩, b2.other (Ne.symm hne) v1, ?_, ?_, by omega⟩
  · rw [hset k (by omega)]
    refine (hal k (Array.getElem?_eq_some_iff.1 hko).1 (fun e => ?_)).trans hko
    obtain ⟨cells, hcell⟩ := Kd.R_typed hR0 k e.symm
    rw [hcell] at hko
    cases hko
    cases hc
  · rw [hset k (fun e => hp (.inl e))]
    exact hlow k hk
  · rw [List.map_append]
    exact Kd.R_mono (Kd.R_far (p := ⟨bo, 0, none⟩) (Kd.R_mono (Kd.R_bound hR1) (fun k hk => (show k ≠ bo by have := hk.2.1; omega))) (fun _ hk => hk) v1) (fun _ _ => trivial)
  · intro y hy
    rcases List.mem_append.1 hy with h | h
    · exact h0 y h
    · rw [List.mem_singleton.1 h]; exact he
  · exact (((hB.alloc hB.size _).grown hg (by simp; exact Nat.le_trans hB.size (Nat.le_succ _)) (fun k e => by have := hbase k e; omega)).setCell (p := ⟨bo, 0, none⟩) hwb v1)
/-- How a list's loop stops. -/
def MsX (w : World) (bo bw : Nat) (c : Code) (pre : List YM) (W : World) : Prop :=
  c = .exit 0 ∧ ∃ p0 x, pre = p0 ++ [x] ∧ (∀ y ∈ p0, YM.e y = 0) ∧ YM.e x ≠ 0 ∧ Boxed W bo 23 (.slice none 0 0) ∧ Boxed W bw 24 (.int .i64 x.e) ∧ Below w.heap.size w W
theorem MsX.own (w : World) (bo bw B : Nat) (hB : w.heap.size ≤ B) (c : Code) : OwnFrom B (MsX w bo bw c) := by
  rintro s W W' row ⟨hc, p0, x, e, h0, hx, h1, h3, h5⟩ hg hr
  exact ⟨hc, p0, x, e, h0, hx, boxed_from (β := Unit) B _ _ _ () W W' row h1 hg hr, boxed_from (β := Unit) B _ _ _ () W W' row h3 hg hr, h5.grown hg h5.size (fun k e => Nat.le_trans hB (hr k e).1)⟩
/-- A round's start. -/
def MsA (m bo : Nat) (ys : List (S34 × Int)) (act : YM → Nat → Act) (pre : List YM) (x : YM) (a' : Act) (W : World) : Prop :=
  ∃ mb b, a' = act x mb ∧ MemAt x mb W ∧ m ≤ mb ∧ RowAt m b bo pre W ∧ PxY x b W ∧ m ≤ b ∧ (pre ++ [x]).map YM.pr <+: ys
theorem MsA.own (m bo B : Nat) (ys : List (S34 × Int)) (act : YM → Nat → Act) (pre : List YM) (x : YM) (a' : Act) : OwnFrom B (fun (_ : Unit) W => MsA m bo ys act pre x a' W) := by
  rintro s W W' row ⟨mb, b, h1, h2, h3, h4, h5, h6⟩ hg hr
  exact ⟨mb, b, h1, h2.from hg hr, h3, h4.from hg hr, h5.from hg hr, h6⟩
attribute [local go_sem] Oper.semAt_some in
set_option maxRecDepth 100000 in
set_option maxHeartbeats 4000000 in
theorem sfield_List.calls (k : Nat) (s : ByteArray) (r1 : List S34) (r2 : Int) (w : World) (h : sfield_List.f k s = some (r1, r2)) :
    Calls Tryz.prog 10 #[.string s] w fun e w' => ∃ v0_ : Value, e = .returned (.tuple #[v0_, .int .i64 r2]) ∧ Kd.R k34 34 w' w.heap.size (fun _ => True) v0_ r1 ∧ Below w.heap.size w w' := by
  unfold sfield_List.f at h
  obtain ⟨ys, hys, h⟩ := Option.bind_eq_some_iff.1 h
  have hlen : ys.length ≤ 1000000 := Classical.byContradiction fun hn => by rw [if_neg hn] at h; cases h
  rw [if_pos hlen] at h
  have HG := Aside0.mk (Option.some.inj h)
  have HY := Aside0.mk hys
  have HL := Aside0.mk hlen
  clear h hys hlen
  obtain ⟨i0, hi, hz0, hz1, hz2⟩ := info_parts info34
  refine (callsIn_wide (n := 5)).1 ?_
  refine callsIn_of_wp_marks Tryz.func10 rfl trivial ?_ rfl
  simp only [Tryz.ntmps10, List.size_toArray, List.length_cons, List.length_nil, Nat.reduceAdd, Nat.reduceSub, Array.replicate_succ, Array.replicate_zero, List.push_toArray, List.append_toArray, List.nil_append, List.cons_append]
  have fw1 : Fence.wide.fn 23 := trivial
  have HV := Aside0.mk (fun W => members_any s (.func 24) W)
  gi_wp2
  refine wpIn_wide.2 (wp_scope_straight ((wpIn_wide (n := 5)).1 ?_))
  gi_wp2
  refine wpIn_label ?_
  gi_wp2_with (gi_at_call 23; refine (callsIn_wide.2 (HV.out _)).mono ?_; rintro e w' ⟨rfl, rfl⟩)
  have bO := Boxed.new w 23 (.slice none 0 0)
  have bW := Boxed.new (w.alloc (.cells #[.slice none 0 0] 23)) 24 (.int .i64 0)
  have bL := Boxed.new ((w.alloc (.cells #[.slice none 0 0] 23)).alloc (.cells #[.int .i64 0] 24)) 9 (.string s)
  have bN := Boxed.new (((w.alloc (.cells #[.slice none 0 0] 23)).alloc (.cells #[.int .i64 0] 24)).alloc (.cells #[.string s] 9)) 49 (.func (.func 24) #[] #[])
  simp only [World.size_alloc] at bW bL bN
  have hB0 : Below w.heap.size w ((((w.alloc (.cells #[.slice none 0 0] 23)).alloc (.cells #[.int .i64 0] 24)).alloc (.cells #[.string s] 9)).alloc (.cells #[.func (.func 24) #[] #[]] 49)) := ((((Below.refl _ w).alloc (Nat.le_refl _) _).alloc (by simp) _).alloc (by simp; omega) _).alloc (by simp; omega) _
  have hS0 : ((((w.alloc (.cells #[.slice none 0 0] 23)).alloc (.cells #[.int .i64 0] 24)).alloc (.cells #[.string s] 9)).alloc (.cells #[.func (.func 24) #[] #[]] 49)).heap.size = w.heap.size + 4 := by simp
  refine range_told rfl (by omega) (gf := 39) (lb := #[.pointer (some ⟨w.heap.size + 1 + 1, 0, none⟩), .pointer (some ⟨w.heap.size + 1 + 1 + 1, 0, none⟩)]) rfl trivial (enters_of Tryz.func39 (by kernel_rfl) rfl)
    (members_m 4 (by omega) (sfield_member.f k) (fun s x W h => member_ten k s x W h) (w.heap.size + 4) (w.heap.size + 1 + 1) (w.heap.size + 1 + 1 + 1) k (fun q => q = w.heap.size ∨ q = w.heap.size + 1) s ys HY.out ⟨by omega, by omega⟩ ⟨by omega, by omega⟩ _ (by rw [hS0]; omega) (bL.alloc _).cell bN.cell)
    KpOut.trans (KpOut.putObj (by rw [hS0]; omega)) (fun _ => rfl)
    (MsAt w (w.heap.size + 4) w.heap.size (w.heap.size + 1)) (MsX w w.heap.size (w.heap.size + 1)) (MsAt.own _ _ _ _ _ (by rw [hS0]; omega)) (MsX.own _ _ _ _ (by rw [hS0]; omega))
    ⟨⟨_, ((bO.alloc _).alloc _).alloc _, Kd.R_nil _ _ _ _ _⟩, (bW.alloc _).alloc _, by simp, hB0, by rw [hS0]; omega⟩
    (MsA (w.heap.size + 4) w.heap.size ys (fun x mb => { tmps := #[.string s, undef, .slice none 0 0, .int .i64 0, .pointer (some ⟨w.heap.size, 0, none⟩), .pointer (some ⟨w.heap.size + 1, 0, none⟩), .pointer (some ⟨mb, 0, none⟩), .int .i64 x.e, .string s, .func (.func 39) #[] #[.pointer (some ⟨w.heap.size + 1 + 1, 0, none⟩), .pointer (some ⟨w.heap.size + 1 + 1 + 1, 0, none⟩)], .agg #[.string x.m.f0, .bool x.m.f1, .int .i64 x.m.f2.f0, .int .i64 x.m.f2.f1, .string x.m.f2.f2, x.v5, x.v6, x.v7], .int .i64 x.e, undef, undef, undef, undef, undef, undef, undef, undef, undef], defers := [] }))
    (fun pre x a' => MsA.own _ _ _ _ _ pre x a') ?assign ?body ?done ?stop
  case assign =>
    intro l pre x W0 W K hI0 hB hI ⟨hpx, hx⟩ hK
    obtain ⟨xm, xe, v5, v6, v7⟩ := x
    obtain ⟨A5, c5, hv5⟩ := Kd.R_slice hx.1
    obtain ⟨A6, c6, hv6⟩ := Kd.R_slice (Kd.S_R hx.2.1)
    obtain ⟨A7, c7, hv7⟩ := Kd.R_slice hx.2.2
    dsimp only at hv5 hv6 hv7
    subst hv5 hv6 hv7
    have HI0 := Aside0.mk hI0
    have HI := Aside0.mk hI
    have HB := Aside0.mk hB
    have HX := Aside0.mk hx
    have HPX := Aside0.mk hpx
    clear hI0 hI hB hx hpx
    simp only [encY, YM.agg]
    gi_wp2
    have hg0 := fun o : Obj => World.grownBy_alloc W o none
    refine hK _ _ (KeepsFrom.of_grownBy (hg0 _) (fun _ e => by cases e)) (KpOut.below (below_alloc (Below.refl _ _) _) HI.out.2.2.2.2) ((MsAt.own w (w.heap.size + 4) w.heap.size (w.heap.size + 1) w.heap.size (Nat.le_refl _)).alloc _ HI.out) ?_
    exact ⟨W.heap.size, W0.heap.size, rfl, blk_new _ _, HI.out.2.2.2.2, (HI0.out.row HB.out).from (B := 0) (hg0 _) (fun r e => by cases e), HX.out.from (B := 0) (hg0 _) (fun r e => by cases e), HI0.out.2.2.2.2, HPX.out⟩
  case body =>
    rintro l pre x a' W hI ⟨mb, b, rfl, hmb, hmm, hrow, hx, hb, hpx⟩
    obtain ⟨v, hv, hR⟩ := hrow
    obtain ⟨_, hw, h0, hB, hmW⟩ := hI
    have hlt := hpx.length_le
    simp only [List.length_map, List.length_append, List.length_cons, List.length_nil] at hlt
    have c1 := hv.cell
    have f1 := hv.frozen
    have c2 := hw.cell
    have f2 := hw.frozen
    have HV := Aside0.mk hv
    have HR := Aside0.mk hR
    have HW := Aside0.mk hw
    have HE := Aside0.mk h0
    have HB := Aside0.mk hB
    have HMB := Aside0.mk hmb
    have HX := Aside0.mk hx
    clear hv hR hw h0 hB hx hpx
    by_cases he : x.e = 0
    · have b3 : (x.e != 0) = false := by simp [he]
      have hMm := Aside0.mk (HX.out.M (m := w.heap.size + 4) hb v.ownBlock HR.out.1)
      have q0 := blk_cell hmb 0
      have q1 := blk_cell hmb 1
      have q2 := blk_cell hmb 2
      have q3 := blk_cell hmb 3
      have q4 := blk_cell hmb 4
      have q5 := blk_cell hmb 5
      have q6 := blk_cell hmb 6
      have q7 := blk_cell hmb 7
      simp only [List.getElem?_toArray, List.getElem?_cons_succ, List.getElem?_cons_zero] at q0 q1 q2 q3 q4 q5 q6 q7
      have hl5 := HL.out
      have hne : some w.heap.size ≠ v.ownBlock := fun e => by have := Kd.R_base HR.out _ e.symm; omega
      clear hmb c2 f2
      gi_wp2_with (gi_at_builtin; refine R_appendIn k34 (w.heap.size + 4) rfl _ _ 23 34 i0 _ 128 rfl Tryz.underlying23 hi hz0 hz1 hz2 rfl (by decide) v (pre.map YM.m) x.m [.string x.m.f0, .bool x.m.f1, .int .i64 x.m.f2.f0, .int .i64 x.m.f2.f1, .string x.m.f2.f2, x.v5, x.v6, x.v7] (fun _ => True) (fun k => some k ≠ v.ownBlock) rfl ⟨W.heap.size, 0, none⟩ 1 rfl (cells_new W _ _) (Kd.M_below hMm.out (below_alloc (Below.refl _ _) _)) (fun k hk => ⟨trivial, hk⟩) (fun _ _ => trivial) (Kd.R_alloc (Kd.R_mono HR.out (fun _ _ => trivial)) _) (by simp; omega) (by simp only [List.length_map]; unfold maxLen; omega) (by simp only [List.length_map]; omega) ?_; intro v1 w1 hR1 hg1 hat1; obtain ⟨A1, cc, hv1⟩ := Kd.R_slice hR1; generalize (pre.map YM.m ++ [x.m]).length = n1 at hv1; subst hv1; have hbx1 : Boxed w1 w.heap.size 23 v := (HV.out.alloc _).kept hg1 hne; have d1 := hbx1.cell; have e1 := hbx1.frozen; have HR1 := Aside0.mk hR1; have HG1 := Aside0.mk hg1; clear hR1 hg1 hat1 hbx1)
      have hput := MsAt.put HV.out HR.out HW.out HE.out he HB.out hmW (by omega) (by omega) (by omega) (Nat.le_refl _) HR1.out HG1.out
      exact ⟨by rw [hS0]; exact hput.1, hput.2⟩
    · have b3 : (x.e != 0) = true := by simp [he]
      clear hmb
      gi_wp2
      exact ⟨((KeepsOthers.setCell _ _ _).from _).trans ((KeepsOthers.setCell _ _ _).from _), rfl, pre, x, rfl, HE.out, he, (HV.out.set _).other (by omega) _, (HW.out.other (by omega) _).set _, (HB.out.setCell (p := ⟨w.heap.size, 0, none⟩) (Nat.le_refl _) _).setCell (p := ⟨w.heap.size + 1, 0, none⟩) (by simp only; omega) _⟩
  case done =>
    rintro D xs W hD rfl hG hK
    obtain ⟨⟨v, hv, hR⟩, hw, h0, hB, hmW⟩ := hG
    have hGL := HG.out
    rw [gatherL_good h0] at hGL
    injection hGL with hg1 hg2
    subst hg1 hg2
    obtain ⟨A1, c1, hv1⟩ := Kd.R_slice hR
    generalize (xs.map YM.m).length = n1 at hv1
    subst hv1
    have q1 := hv.cell
    have q2 := hw.cell
    have HR := Aside0.mk hR
    have HB := Aside0.mk hB
    clear hR hB hv hw h0
    gi_wp2
    gi_region
    have hKd : W.drew.heap[D]? = some (.deferred (some [])) := hK
    gi_wp2
    refine ⟨by simp, .inl ⟨_, _, rfl, run_takeDeferred hKd, ?_⟩⟩
    refine ⟨.tuple #[.slice A1 n1 c1, .int .i64 0], by simp [results, Tryz.results10, go_sem], ?_⟩
    exact ⟨_, rfl, Kd.R_lower (R_putObj (Kd.R_drew HR.out) hKd rfl _) (by omega), (below_drew1 HB.out).trans (belowK_b (w := w) (Nat.le_refl _) _ D _ _ (by simp at hD; omega) hKd rfl rfl)⟩
  case stop =>
    rintro D c pre W hD hp ⟨rfl, p0, x, rfl, h0, hx, h1, h2, hB⟩ hK
    have hGL := HG.out
    rw [gatherL_bad h0 hx hp] at hGL
    injection hGL with hg1 hg2
    subst hg1 hg2
    have q1 := h1.cell
    have q2 := h2.cell
    have HB := Aside0.mk hB
    clear hB h1 h2 h0 hp
    gi_wp2
    gi_region
    have hKd : W.drew.heap[D]? = some (.deferred (some [])) := hK
    gi_wp2
    refine ⟨by simp, .inl ⟨_, _, rfl, run_takeDeferred hKd, ?_⟩⟩
    refine ⟨.tuple #[.slice none 0 0, .int .i64 x.e], by simp [results, Tryz.results10, go_sem], ?_⟩
    exact ⟨_, rfl, Kd.R_nil _ _ _ _ _, (below_drew1 HB.out).trans (belowK_b (w := w) (Nat.le_refl _) _ D _ _ (by simp at hD; omega) hKd rfl rfl)⟩
end Go.Proofs.YtjdbiicjfpgjkaaGreatDoor.Q
namespace Go.Proofs.YtjdbiicjfpgjkaaGreatDoor.Q
open Go.RowKit Go.Proofs.YtjdbiicjfpgjkaaGreatDoorW.PrintWords Go.Proofs.YtjdbiicjfpgjkaaGreatDoorW.PrintLast Go.Proofs.YtjdbiicjfpgjkaaGreatDoorW.PrintMore
set_option linter.unusedVariables false
set_option linter.unusedSimpArgs false
/-- The library's table of the powers of ten lies where the program keeps it. -/
def TabW (w : World) : Prop := Lib.TabIs Tryz.prog w "internal/strconv.uint64pow10" .u64 Lib.pow10Tab
theorem tab_ {w W : World} (h : Aside0 (TabW w)) (hb : Below w.heap.size w W) : Aside0 (TabW W) := by
  have h := h.out
  refine ⟨?_⟩
  unfold TabW Lib.TabIs World.var? at h ⊢
  cases hg : Tryz.prog.globalNamed "internal/strconv.uint64pow10" with
  | none => rw [hg] at h; cases h
  | some g =>
    rw [hg] at h
    simp only [Option.bind_some] at h ⊢
    have hlt : g < w.heap.size := by
      rcases Nat.lt_or_ge g w.heap.size with h' | h'
      · exact h'
      · rw [Array.getElem?_eq_none h'] at h; cases h
    rw [hb.block g hlt]
    exact h
theorem below_grow (w : World) (q : Nat) (os : Array Obj) : Below w.heap.size w (Go.Sort.grow (w.drewN q) os) :=
  ⟨rfl, rfl, rfl, by simp [Go.Sort.grow, World.drewN], fun k hk => by simp [Go.Sort.grow, World.drewN, Array.getElem?_append_left hk]⟩
def itoaBA (n : Int) : ByteArray := ⟨(Lib.itoa n).toArray⟩
def strconv_Itoa.f (a0 : Int) : Option ByteArray := if -9223372036854775808 ≤ a0 ∧ a0 ≤ 9223372036854775807 then some (itoaBA a0) else none
theorem strconv_Itoa.calls (a0 : Int) (r : ByteArray) (w : World) (hT_ : Aside0 (TabW w)) (h : strconv_Itoa.f a0 = some r) :
    Calls Tryz.prog 68 #[.int .i64 a0] w fun e w' => e = .returned (.string r) ∧ Below w.heap.size w w' := by
  unfold strconv_Itoa.f at h
  by_cases hs : -9223372036854775808 ≤ a0 ∧ a0 ≤ 9223372036854775807
  · rw [if_pos hs] at h
    obtain rfl := Option.some.inj h
    refine (Tryz.strconv_Itoa a0 hs.1 hs.2 w hT_.out).mono ?_
    rintro e w' ⟨he, k, os, rfl⟩
    exact ⟨he, below_grow _ _ _⟩
  · rw [if_neg hs] at h; cases h
/-- A text without the digits 0 at its end. -/
def trimZ (s : ByteArray) : ByteArray := ⟨(Lib.trimRightB s.data.toList 48).toArray⟩
def sfitem_whole.f (a0 : ByteArray) (a1 : Int) : Option (Bool) := (sfitem_Next.f a0).bind fun bt185 => (if bt185.2.2.2.2.2 = 0 then (if bt185.2.2.2.2.1.toList = ([] : List UInt8) then (if bt185.1 = a1 then (some ((bt185.2.2.2.1.length : Int) == 0)) else (some false)) else (some false)) else (some false))
set_option maxHeartbeats 8000000 in
set_option maxRecDepth 100000 in
theorem sfitem_whole.calls (a0 : ByteArray) (a1 : Int) (r : Bool) (w : World) (h : sfitem_whole.f a0 a1 = some r) :
  Calls Tryz.prog 71 #[.string a0, .int .i64 a1] w fun e w' => e = .returned (.bool r) ∧ Below w.heap.size w w' := by
 have hu31 := Tryz.underlying31
 have HB := Aside0.mk (Below.refl w.heap.size w)
 have H : ((sfitem_Next.f a0).bind fun bt185 => (if bt185.2.2.2.2.2 = 0 then (if bt185.2.2.2.2.1.toList = ([] : List UInt8) then (if bt185.1 = a1 then (some ((bt185.2.2.2.1.length : Int) == 0)) else (some false)) else (some false)) else (some false))) = some r := h
 clear h
 replace H := Option.bind_eq_some_iff.mp H
 obtain ⟨⟨t185, t186, t187, t188, t191, t192⟩, A30, H⟩ := H
 (try dsimp only at H)
 have A3 := Aside0.mk A30
 clear A30
 by_cases c4 : t192 = 0
 ·rw [if_pos c4] at H
  obtain ⟨c4b0, c4b1⟩ := eT_ c4
  clear c4
  by_cases c5 : t191.toList = ([] : List UInt8)
  ·rw [if_pos c5] at H
   obtain ⟨c5b0, c5b1⟩ := eT_ c5
   clear c5
   by_cases c6 : t185 = a1
   ·rw [if_pos c6] at H
    obtain ⟨c6b0, c6b1⟩ := eT_ c6
    clear c6
    obtain rfl := Option.some.inj H
    go_enter Tryz.func71, Tryz.ntmps71
    go_wp2_with (first | ((with_reducible refine gate_callee (f := 30) rfl ?_); refine goesL_ (some 10) rfl rfl Tryz.func30 (by kernel_rfl) rfl #[.string a0] rfl (by simp only [List.map_toArray, List.map_cons, List.map_nil] <;> rfl) ?_; (with_reducible refine (sfitem_Next.calls a0 t185 t186 t187 t188 t191 t192 _ A3.out).mono ?_); rintro e w7 ⟨v189, rfl, ho0, hb⟩; refine ⟨_, rfl, ?_⟩; have n0_ := Aside0.mk (Kd.R_lower ho0 (below_size (bl_ HB.out))); have n1_ := Aside0.mk (below_step (bl_ HB.out) hb); clear HB; have HO190 := n0_; have HB := n1_; clear n0_ n1_; (try clear hb); (try clear hb2); (try clear hk); (try clear hi); (try clear ho0)) | ((with_reducible refine gate_dst (N := 5) rfl ?_); (try (refine gate_guard (by rfl) ?_; dsimp only)); refine box_event ?hg (N := 5) ?hd (cs := #[.int .i64 0, .int .i64 0, .string ⟨#[]⟩, .slice none 0 0]) (t := 31) ?hr ?_; (case hd => rfl); (case hg => rfl); (case hr => first | (go_simp; done) | (go_simp; rfl)); intro gb193 hg w8 hbox hb; have n0_ := Aside0.mk (Kd.R_below (rl_ HO190.out) hb); have n1_ := Aside0.mk (below_step (bl_ HB.out) hb); have n2_ := Aside0.mk (hbox); have n3_ := Aside0.mk ((hg_ hg (bl_ HB.out))); have n4_ := Aside0.mk ((hg_ hg (bl_ HB.out))); clear HO190; clear HB; have HO190 := n0_; have HB := n1_; have BK193 := n2_; have GW193 := n3_; have GE193 := n4_; clear n0_ n1_ n2_ n3_ n4_; clear hb hbox hg; obtain ⟨hcz9_0, hcz9_1, hcz9_2, hcz9_3⟩ := c4_ BK193.out; obtain ⟨hfz9_0, hfz9_1, hfz9_2, hfz9_3⟩ := f4_ BK193.out; obtain ⟨Ao10, co10, eo10⟩ := Kd.R_slice HO190.out; subst eo10))
    go_ret
    exact ⟨by first | rfl | (simp [errW_none, errW_some] <;> rfl) | (simp [*, errW_none, errW_some] <;> rfl) | (simp [q_ne_nil]; done), by repeat (first | (with_reducible first | exact HB.out | apply below_alloc | apply pw_below_drewN | apply below_drew1 | refine below_set ?_ GE193.out) | exact HB.out)⟩
   ·rw [if_neg c6] at H
    obtain ⟨c6b0, c6b1⟩ := eF_ c6
    obtain rfl := Option.some.inj H
    go_enter Tryz.func71, Tryz.ntmps71
    go_wp2_with (first | ((with_reducible refine gate_callee (f := 30) rfl ?_); refine goesL_ (some 10) rfl rfl Tryz.func30 (by kernel_rfl) rfl #[.string a0] rfl (by simp only [List.map_toArray, List.map_cons, List.map_nil] <;> rfl) ?_; (with_reducible refine (sfitem_Next.calls a0 t185 t186 t187 t188 t191 t192 _ A3.out).mono ?_); rintro e w11 ⟨v189, rfl, ho0, hb⟩; refine ⟨_, rfl, ?_⟩; have n0_ := Aside0.mk (Kd.R_lower ho0 (below_size (bl_ HB.out))); have n1_ := Aside0.mk (below_step (bl_ HB.out) hb); clear HB; have HO190 := n0_; have HB := n1_; clear n0_ n1_; (try clear hb); (try clear hb2); (try clear hk); (try clear hi); (try clear ho0)) | ((with_reducible refine gate_dst (N := 5) rfl ?_); (try (refine gate_guard (by rfl) ?_; dsimp only)); refine box_event ?hg (N := 5) ?hd (cs := #[.int .i64 0, .int .i64 0, .string ⟨#[]⟩, .slice none 0 0]) (t := 31) ?hr ?_; (case hd => rfl); (case hg => rfl); (case hr => first | (go_simp; done) | (go_simp; rfl)); intro gb193 hg w12 hbox hb; have n0_ := Aside0.mk (Kd.R_below (rl_ HO190.out) hb); have n1_ := Aside0.mk (below_step (bl_ HB.out) hb); have n2_ := Aside0.mk (hbox); have n3_ := Aside0.mk ((hg_ hg (bl_ HB.out))); have n4_ := Aside0.mk ((hg_ hg (bl_ HB.out))); clear HO190; clear HB; have HO190 := n0_; have HB := n1_; have BK193 := n2_; have GW193 := n3_; have GE193 := n4_; clear n0_ n1_ n2_ n3_ n4_; clear hb hbox hg; obtain ⟨hcz13_0, hcz13_1, hcz13_2, hcz13_3⟩ := c4_ BK193.out; obtain ⟨hfz13_0, hfz13_1, hfz13_2, hfz13_3⟩ := f4_ BK193.out; obtain ⟨Ao14, co14, eo14⟩ := Kd.R_slice HO190.out; subst eo14))
    go_ret
    exact ⟨by first | rfl | (simp [errW_none, errW_some] <;> rfl) | (simp [*, errW_none, errW_some] <;> rfl) | (simp [q_ne_nil]; done), by repeat (first | (with_reducible first | exact HB.out | apply below_alloc | apply pw_below_drewN | apply below_drew1 | refine below_set ?_ GE193.out) | exact HB.out)⟩
  ·rw [if_neg c5] at H
   obtain ⟨c5b0, c5b1⟩ := eF_ c5
   obtain rfl := Option.some.inj H
   go_enter Tryz.func71, Tryz.ntmps71
   go_wp2_with (first | ((with_reducible refine gate_callee (f := 30) rfl ?_); refine goesL_ (some 10) rfl rfl Tryz.func30 (by kernel_rfl) rfl #[.string a0] rfl (by simp only [List.map_toArray, List.map_cons, List.map_nil] <;> rfl) ?_; (with_reducible refine (sfitem_Next.calls a0 t185 t186 t187 t188 t191 t192 _ A3.out).mono ?_); rintro e w15 ⟨v189, rfl, ho0, hb⟩; refine ⟨_, rfl, ?_⟩; have n0_ := Aside0.mk (Kd.R_lower ho0 (below_size (bl_ HB.out))); have n1_ := Aside0.mk (below_step (bl_ HB.out) hb); clear HB; have HO190 := n0_; have HB := n1_; clear n0_ n1_; (try clear hb); (try clear hb2); (try clear hk); (try clear hi); (try clear ho0)) | ((with_reducible refine gate_dst (N := 5) rfl ?_); (try (refine gate_guard (by rfl) ?_; dsimp only)); refine box_event ?hg (N := 5) ?hd (cs := #[.int .i64 0, .int .i64 0, .string ⟨#[]⟩, .slice none 0 0]) (t := 31) ?hr ?_; (case hd => rfl); (case hg => rfl); (case hr => first | (go_simp; done) | (go_simp; rfl)); intro gb193 hg w16 hbox hb; have n0_ := Aside0.mk (Kd.R_below (rl_ HO190.out) hb); have n1_ := Aside0.mk (below_step (bl_ HB.out) hb); have n2_ := Aside0.mk (hbox); have n3_ := Aside0.mk ((hg_ hg (bl_ HB.out))); have n4_ := Aside0.mk ((hg_ hg (bl_ HB.out))); clear HO190; clear HB; have HO190 := n0_; have HB := n1_; have BK193 := n2_; have GW193 := n3_; have GE193 := n4_; clear n0_ n1_ n2_ n3_ n4_; clear hb hbox hg; obtain ⟨hcz17_0, hcz17_1, hcz17_2, hcz17_3⟩ := c4_ BK193.out; obtain ⟨hfz17_0, hfz17_1, hfz17_2, hfz17_3⟩ := f4_ BK193.out; obtain ⟨Ao18, co18, eo18⟩ := Kd.R_slice HO190.out; subst eo18))
   go_ret
   exact ⟨by first | rfl | (simp [errW_none, errW_some] <;> rfl) | (simp [*, errW_none, errW_some] <;> rfl) | (simp [q_ne_nil]; done), by repeat (first | (with_reducible first | exact HB.out | apply below_alloc | apply pw_below_drewN | apply below_drew1 | refine below_set ?_ GE193.out) | exact HB.out)⟩
 ·rw [if_neg c4] at H
  obtain ⟨c4b0, c4b1⟩ := eF_ c4
  obtain rfl := Option.some.inj H
  go_enter Tryz.func71, Tryz.ntmps71
  go_wp2_with (first | ((with_reducible refine gate_callee (f := 30) rfl ?_); refine goesL_ (some 10) rfl rfl Tryz.func30 (by kernel_rfl) rfl #[.string a0] rfl (by simp only [List.map_toArray, List.map_cons, List.map_nil] <;> rfl) ?_; (with_reducible refine (sfitem_Next.calls a0 t185 t186 t187 t188 t191 t192 _ A3.out).mono ?_); rintro e w19 ⟨v189, rfl, ho0, hb⟩; refine ⟨_, rfl, ?_⟩; have n0_ := Aside0.mk (Kd.R_lower ho0 (below_size (bl_ HB.out))); have n1_ := Aside0.mk (below_step (bl_ HB.out) hb); clear HB; have HO190 := n0_; have HB := n1_; clear n0_ n1_; (try clear hb); (try clear hb2); (try clear hk); (try clear hi); (try clear ho0)) | ((with_reducible refine gate_dst (N := 5) rfl ?_); (try (refine gate_guard (by rfl) ?_; dsimp only)); refine box_event ?hg (N := 5) ?hd (cs := #[.int .i64 0, .int .i64 0, .string ⟨#[]⟩, .slice none 0 0]) (t := 31) ?hr ?_; (case hd => rfl); (case hg => rfl); (case hr => first | (go_simp; done) | (go_simp; rfl)); intro gb193 hg w20 hbox hb; have n0_ := Aside0.mk (Kd.R_below (rl_ HO190.out) hb); have n1_ := Aside0.mk (below_step (bl_ HB.out) hb); have n2_ := Aside0.mk (hbox); have n3_ := Aside0.mk ((hg_ hg (bl_ HB.out))); have n4_ := Aside0.mk ((hg_ hg (bl_ HB.out))); clear HO190; clear HB; have HO190 := n0_; have HB := n1_; have BK193 := n2_; have GW193 := n3_; have GE193 := n4_; clear n0_ n1_ n2_ n3_ n4_; clear hb hbox hg; obtain ⟨hcz21_0, hcz21_1, hcz21_2, hcz21_3⟩ := c4_ BK193.out; obtain ⟨hfz21_0, hfz21_1, hfz21_2, hfz21_3⟩ := f4_ BK193.out; obtain ⟨Ao22, co22, eo22⟩ := Kd.R_slice HO190.out; subst eo22))
  go_ret
  exact ⟨by first | rfl | (simp [errW_none, errW_some] <;> rfl) | (simp [*, errW_none, errW_some] <;> rfl) | (simp [q_ne_nil]; done), by repeat (first | (with_reducible first | exact HB.out | apply below_alloc | apply pw_below_drewN | apply below_drew1 | refine below_set ?_ GE193.out) | exact HB.out)⟩
open Go.Proofs.YtjdbiicjfpgjkaaGreatDoor.Sf
theorem itoa_size (n : Int) (h0 : -9223372036854775808 ≤ n) (h1 : n ≤ 9223372036854775807) : (itoaBA n).size ≤ 21 := by
  have := Lib.itoa_length_le n h0 h1
  unfold itoaBA
  simpa [ByteArray.size] using this
theorem itoa_at (i : Int) (hi : -999999999999999 ≤ i ∧ i ≤ 999999999999999) (W : World) (hT : Aside0 (TabW W)) : Calls Tryz.prog 68 #[.int .i64 i] W fun e w' => e = .returned (.string (itoaBA i)) ∧ Below W.heap.size W w' :=
  strconv_Itoa.calls i (itoaBA i) W hT (if_pos ⟨by omega, by omega⟩)
theorem decDigits_pos (u : Nat) : 0 < (Lib.decDigits u).length := by
  rw [Lib.decDigits]
  split
  · simp
  · simp
theorem itoa_pos (n : Int) : 0 < (itoaBA n).size := by
  have : 0 < (Lib.itoa n).length := by
    unfold Lib.itoa
    split
    · simp
    · exact decDigits_pos _
  unfold itoaBA
  rw [Lib.size_eq]
  exact this
/-- A parameter in a box of its own: its cells, in whatever world comes behind. -/
theorem PB_held {W : World} {b : Nat} {k t : ByteArray} {n i : Int} (h : PB W b k n i t) : Aside0 (∀ W', Below W.heap.size W W' → W'.cell? ⟨b, 2, none⟩ = some (.int .i64 i) ∧ W'.cell? ⟨b, 3, none⟩ = some (.string t)) :=
  ⟨fun W' hb => ⟨(show PB W' b k n i t from blk_below h hb).c2, (show PB W' b k n i t from blk_below h hb).c3⟩⟩
theorem PB_new4 (W : World) (k : ByteArray) (n i : Int) (t : ByteArray) : PB (W.alloc (.cells #[.string k, .int .i64 n, .int .i64 i, .string t] 60)) W.heap.size k n i t := by
  have := blk_new W (.cells #[.string k, .int .i64 n, .int .i64 i, .string t] 60); simpa [PB] using this
set_option maxHeartbeats 8000000 in
set_option maxRecDepth 100000 in
theorem value_low (k t : ByteArray) (i : Int) (w : World) (n : Int) (hi : i < -999999999999999) :
    Calls Tryz.prog 38 #[.agg #[.string k, .int .i64 n, .int .i64 i, .string t]] w fun e w' => e = .returned (.tuple #[.string ⟨#[]⟩, .bool false]) ∧ Below w.heap.size w w' := by
  have hu60 := Tryz.underlying60
  have hP : PB (w.alloc (.cells #[.string k, .int .i64 n, .int .i64 i, .string t] 60)) w.heap.size k n i t := PB_new4 _ _ _ _ _
  have hB := below_alloc (Below.refl w.heap.size w) (.cells #[.string k, .int .i64 n, .int .i64 i, .string t] 60)
  have d1 : decide (i < -999999999999999) = true := decide_eq_true hi
  go_enter Tryz.func38, Tryz.ntmps38
  have c1 := hP.c1
  have c2 := hP.c2
  have c3 := hP.c3
  have HB := Aside0.mk hB
  have HP := Aside0.mk hP
  clear hP hB
  go_wp2
  go_ret2
  exact ⟨rfl, HB.out⟩
set_option maxHeartbeats 8000000 in
set_option maxRecDepth 100000 in
theorem value_high (k t : ByteArray) (i : Int) (w : World) (n : Int) (hi0 : ¬ i < -999999999999999) (hi : 999999999999999 < i) :
    Calls Tryz.prog 38 #[.agg #[.string k, .int .i64 n, .int .i64 i, .string t]] w fun e w' => e = .returned (.tuple #[.string ⟨#[]⟩, .bool false]) ∧ Below w.heap.size w w' := by
  have hu60 := Tryz.underlying60
  have hP : PB (w.alloc (.cells #[.string k, .int .i64 n, .int .i64 i, .string t] 60)) w.heap.size k n i t := PB_new4 _ _ _ _ _
  have hB := below_alloc (Below.refl w.heap.size w) (.cells #[.string k, .int .i64 n, .int .i64 i, .string t] 60)
  have d1 : decide (i < -999999999999999) = false := decide_eq_false hi0
  have d2 : decide (999999999999999 < i) = true := decide_eq_true hi
  go_enter Tryz.func38, Tryz.ntmps38
  have c1 := hP.c1
  have c2 := hP.c2
  have c3 := hP.c3
  have HB := Aside0.mk hB
  have HP := Aside0.mk hP
  clear hP hB
  go_wp2
  go_ret2
  exact ⟨rfl, HB.out⟩
set_option maxHeartbeats 8000000 in
set_option maxRecDepth 100000 in
theorem value_none (k t : ByteArray) (i : Int) (w : World) (n : Int) (hi : -999999999999999 ≤ i ∧ i ≤ 999999999999999) (hn : n ≠ 1 ∧ n ≠ 2 ∧ n ≠ 6 ∧ n ≠ 3 ∧ n ≠ 4 ∧ n ≠ 5) :
    Calls Tryz.prog 38 #[.agg #[.string k, .int .i64 n, .int .i64 i, .string t]] w fun e w' => e = .returned (.tuple #[.string ⟨#[]⟩, .bool false]) ∧ Below w.heap.size w w' := by
  have hu60 := Tryz.underlying60
  have hP : PB (w.alloc (.cells #[.string k, .int .i64 n, .int .i64 i, .string t] 60)) w.heap.size k n i t := PB_new4 _ _ _ _ _
  have hB := below_alloc (Below.refl w.heap.size w) (.cells #[.string k, .int .i64 n, .int .i64 i, .string t] 60)
  have d1 : decide (i < -999999999999999) = false := decide_eq_false (by omega)
  have d2 : decide (999999999999999 < i) = false := decide_eq_false (by omega)
  have e1 : (n == 1) = false := by simp [hn.1]
  have e2 : (n == 2) = false := by simp [hn.2.1]
  have e6 : (n == 6) = false := by simp [hn.2.2.1]
  have e3 : (n == 3) = false := by simp [hn.2.2.2.1]
  have e4 : (n == 4) = false := by simp [hn.2.2.2.2.1]
  have e5 : (n == 5) = false := by simp [hn.2.2.2.2.2]
  clear hn hi
  go_enter Tryz.func38, Tryz.ntmps38
  have c1 := hP.c1
  have c2 := hP.c2
  have c3 := hP.c3
  have HB := Aside0.mk hB
  have HP := Aside0.mk hP
  clear hP hB
  go_wp2
  go_ret2
  exact ⟨rfl, HB.out⟩
set_option maxHeartbeats 8000000 in
set_option maxRecDepth 100000 in
theorem value_int (k t : ByteArray) (i : Int) (w : World) (hT : Aside0 (TabW w)) (hi : -999999999999999 ≤ i ∧ i ≤ 999999999999999) :
    Calls Tryz.prog 38 #[.agg #[.string k, .int .i64 1, .int .i64 i, .string t]] w fun e w' => e = .returned (.tuple #[.string (itoaBA i), .bool t.toList.isEmpty]) ∧ Below w.heap.size w w' := by
  have hu60 := Tryz.underlying60
  have hP : PB (w.alloc (.cells #[.string k, .int .i64 1, .int .i64 i, .string t] 60)) w.heap.size k 1 i t := PB_new4 _ _ _ _ _
  have hB := below_alloc (Below.refl w.heap.size w) (.cells #[.string k, .int .i64 1, .int .i64 i, .string t] 60)
  have d1 : decide (i < -999999999999999) = false := decide_eq_false (by omega)
  have d2 : decide (999999999999999 < i) = false := decide_eq_false (by omega)
  have hIt := Aside0.mk (fun W (hb : Below w.heap.size w W) => itoa_at i hi W (tab_ hT hb))
  clear hi hT
  go_enter Tryz.func38, Tryz.ntmps38
  have c1 := hP.c1
  have c2 := hP.c2
  have c3 := hP.c3
  have HB := Aside0.mk hB
  have HP := Aside0.mk hP
  clear hP hB
  go_upto_region 5 with (fail)
  have hK : ∀ W', Below (w.alloc (.cells #[.string k, .int .i64 1, .int .i64 i, .string t] 60)).heap.size (w.alloc (.cells #[.string k, .int .i64 1, .int .i64 i, .string t] 60)) W' → W'.cell? ⟨w.heap.size, 2, none⟩ = some (.int .i64 i) ∧ W'.cell? ⟨w.heap.size, 3, none⟩ = some (.string t) := (PB_held HP.out).out
  have K := Aside0.mk hK
  clear hK HP c1
  generalize w.alloc (.cells #[.string k, .int .i64 1, .int .i64 i, .string t] 60) = w1 at *
  go_region_held3 (fun w' => w'.cell? ⟨w.heap.size, 2, none⟩ = some (.int .i64 i) ∧ w'.cell? ⟨w.heap.size, 3, none⟩ = some (.string t)) (first | exact K.out _ (below_drew (Below.refl _ _)) | exact K.out _ (Below.refl _ _) | exact K.out _ (by assumption)) (first | (go_at_call 68; ((with_reducible refine (hIt.out _ ?_).mono ?_); (first | exact HB.out | exact below_drew1 HB.out); rintro e w3 ⟨rfl, hb3⟩; have hb4 := below_then (below_drew (Below.refl w1.heap.size w1)) (Nat.le_refl _) hb3; clear hb3)))
  go_wp2
  go_ret2
  exact ⟨rfl, below_then HB.out HB.out.size hb4⟩
set_option maxHeartbeats 8000000 in
set_option maxRecDepth 100000 in
theorem value_boolE (k t : ByteArray) (i : Int) (w : World) (hT : Aside0 (TabW w)) (hi : -999999999999999 ≤ i ∧ i ≤ 999999999999999) (ht : (t.toList == ([] : List UInt8)) = true) :
    Calls Tryz.prog 38 #[.agg #[.string k, .int .i64 6, .int .i64 i, .string t]] w fun e w' => e = .returned (.tuple #[.string ((⟨#[63]⟩ : ByteArray) ++ itoaBA i), .bool (Go.bits .andNot .i64 i 1 == 0)]) ∧ Below w.heap.size w w' := by
  have hu60 := Tryz.underlying60
  have hP : PB (w.alloc (.cells #[.string k, .int .i64 6, .int .i64 i, .string t] 60)) w.heap.size k 6 i t := PB_new4 _ _ _ _ _
  have hB := below_alloc (Below.refl w.heap.size w) (.cells #[.string k, .int .i64 6, .int .i64 i, .string t] 60)
  have d1 : decide (i < -999999999999999) = false := decide_eq_false (by omega)
  have d2 : decide (999999999999999 < i) = false := decide_eq_false (by omega)
  have hIt := Aside0.mk (fun W (hb : Below w.heap.size w W) => itoa_at i hi W (tab_ hT hb))
  have hz := itoa_size i (by omega) (by omega)
  have z1 : (9223372036854775807 < 1 + (itoaBA i).size) = False := eq_false (by omega)
  have z1b : (1 + (itoaBA i).size ≤ 9223372036854775807) = True := eq_true (by omega)
  clear hi hT hz
  go_enter Tryz.func38, Tryz.ntmps38
  have c1 := hP.c1
  have c2 := hP.c2
  have c3 := hP.c3
  have HB := Aside0.mk hB
  have HP := Aside0.mk hP
  clear hP hB
  go_upto_region 15 with (fail)
  have hK : ∀ W', Below (w.alloc (.cells #[.string k, .int .i64 6, .int .i64 i, .string t] 60)).heap.size (w.alloc (.cells #[.string k, .int .i64 6, .int .i64 i, .string t] 60)) W' → W'.cell? ⟨w.heap.size, 2, none⟩ = some (.int .i64 i) ∧ W'.cell? ⟨w.heap.size, 3, none⟩ = some (.string t) := (PB_held HP.out).out
  have K := Aside0.mk hK
  clear hK HP c1
  generalize w.alloc (.cells #[.string k, .int .i64 6, .int .i64 i, .string t] 60) = w1 at *
  go_region_held3 (fun w' => w'.cell? ⟨w.heap.size, 2, none⟩ = some (.int .i64 i) ∧ w'.cell? ⟨w.heap.size, 3, none⟩ = some (.string t)) (first | exact K.out _ (below_drew (Below.refl _ _)) | exact K.out _ (Below.refl _ _) | exact K.out _ (by assumption)) (first | (go_at_call 68; ((with_reducible refine (hIt.out _ ?_).mono ?_); (first | exact HB.out | exact below_drew1 HB.out); rintro e w3 ⟨rfl, hb3⟩; have hb4 := below_then (below_drew (Below.refl w1.heap.size w1)) (Nat.le_refl _) hb3; clear hb3)))
  go_wp2
  go_ret2
  exact ⟨rfl, below_then HB.out HB.out.size hb4⟩
def tailZ (n : Int) : ByteArray := trimZ ((itoaBA (1000 + Int.tmod n 1000)).extract 1 (itoaBA (1000 + Int.tmod n 1000)).size)
def fracB (n : Int) : ByteArray := if 0 < (tailZ n).size then tailZ n else ⟨#[48]⟩
def magn (i : Int) : Int := if i < 0 then -i else i
def signB (i : Int) : ByteArray := if i < 0 then ⟨#[45]⟩ else ⟨#[]⟩
def decB (i : Int) : ByteArray := ((signB i ++ itoaBA (Int.tdiv (magn i) 1000)) ++ (⟨#[46]⟩ : ByteArray)) ++ fracB (magn i)
theorem trimZ_size (s : ByteArray) : (trimZ s).size ≤ s.size := by
  have : (Lib.trimRightB s.data.toList 48).length ≤ s.data.toList.length := by
    unfold Lib.trimRightB
    rw [List.length_reverse]
    exact Nat.le_trans (List.dropWhile_sublist _).length_le (by rw [List.length_reverse]; exact Nat.le_refl _)
  unfold trimZ
  rw [Lib.size_eq, Lib.size_eq s]
  exact this
set_option maxHeartbeats 8000000 in
set_option maxRecDepth 100000 in
theorem value_dec (k t : ByteArray) (i : Int) (w : World) (hT : Aside0 (TabW w)) (hi : -999999999999999 ≤ i ∧ i ≤ 999999999999999) :
    Calls Tryz.prog 38 #[.agg #[.string k, .int .i64 2, .int .i64 i, .string t]] w fun e w' => e = .returned (.tuple #[.string (decB i), .bool t.toList.isEmpty]) ∧ Below w.heap.size w w' := by
  have hu60 := Tryz.underlying60
  have hP : PB (w.alloc (.cells #[.string k, .int .i64 2, .int .i64 i, .string t] 60)) w.heap.size k 2 i t := PB_new4 _ _ _ _ _
  have hB := below_alloc (Below.refl w.heap.size w) (.cells #[.string k, .int .i64 2, .int .i64 i, .string t] 60)
  have d1 : decide (i < -999999999999999) = false := decide_eq_false (by omega)
  have d2 : decide (999999999999999 < i) = false := decide_eq_false (by omega)
  have hm0 : 0 ≤ magn i ∧ magn i ≤ 999999999999999 := by unfold magn; split <;> omega
  have hIt := Aside0.mk (fun W (hb : Below w.heap.size w W) => itoa_at (1000 + Int.tmod (magn i) 1000) (by have := Int.tmod_nonneg 1000 hm0.1; have := Int.tmod_lt_of_pos (magn i) (show (0 : Int) < 1000 by decide); omega) W (tab_ hT hb))
  have hId := Aside0.mk (fun W (hb : Below w.heap.size w W) => itoa_at (Int.tdiv (magn i) 1000) (by rw [Int.tdiv_eq_ediv_of_nonneg hm0.1]; omega) W (tab_ hT hb))
  have hz0 : 1000 ≤ 1000 + Int.tmod (magn i) 1000 ∧ 1000 + Int.tmod (magn i) 1000 ≤ 1999 := by have := Int.tmod_nonneg 1000 hm0.1; have := Int.tmod_lt_of_pos (magn i) (show (0 : Int) < 1000 by decide); omega
  have hw1 := Aside0.mk (IntWalk.wrap64_in (1000 + Int.tmod (magn i) 1000) ⟨by omega, by omega⟩)
  have hw2 := Aside0.mk (IntWalk.wrap64_in (Int.tdiv (magn i) 1000) (by rw [Int.tdiv_eq_ediv_of_nonneg hm0.1]; constructor <;> omega))
  have hw3 := Aside0.mk (IntWalk.wrap64_in (-i) ⟨by omega, by omega⟩)
  have hs1 := Aside0.mk (itoa_size (1000 + Int.tmod (magn i) 1000) (by omega) (by omega))
  have hs2 := Aside0.mk (itoa_size (Int.tdiv (magn i) 1000) (by rw [Int.tdiv_eq_ediv_of_nonneg hm0.1]; omega) (by rw [Int.tdiv_eq_ediv_of_nonneg hm0.1]; omega))
  clear hT hi hm0 hz0
  go_enter Tryz.func38, Tryz.ntmps38
  have c1 := hP.c1
  have c2 := hP.c2
  have c3 := hP.c3
  have HB := Aside0.mk hB
  have HP := Aside0.mk hP
  clear hP hB
  go_upto_if 34 with (fail)
  have hK : ∀ W', Below (w.alloc (.cells #[.string k, .int .i64 2, .int .i64 i, .string t] 60)).heap.size (w.alloc (.cells #[.string k, .int .i64 2, .int .i64 i, .string t] 60)) W' → W'.cell? ⟨w.heap.size, 2, none⟩ = some (.int .i64 i) ∧ W'.cell? ⟨w.heap.size, 3, none⟩ = some (.string t) := (PB_held HP.out).out
  have K := Aside0.mk hK
  clear hK HP c1 c2 c3
  generalize w.alloc (.cells #[.string k, .int .i64 2, .int .i64 i, .string t] 60) = w1 at *
  go_cut [4, 5] (fun v4 v5 wc => v4 = .int .i64 (magn i) ∧ v5 = .string (signB i) ∧ wc = w1)
  case first =>
    by_cases hn : i < 0
    · have e1 : magn i = -i := if_pos hn
      have e2 : signB i = ⟨#[45]⟩ := if_pos hn
      have hd : decide (i < 0) = true := decide_eq_true hn
      have hw := hw3.out
      clear hn
      rw [hd]
      go_wp2
      go_meet
      case rel => exact ⟨by rw [e1] <;> first | rfl | simp [hw3.out], by rw [e2] <;> rfl, rfl⟩
    · have e1 : magn i = i := if_neg hn
      have e2 : signB i = ⟨#[]⟩ := if_neg hn
      have hd : decide (i < 0) = false := decide_eq_false hn
      clear hn
      rw [hd]
      go_wp2
      go_meet
      case rel => exact ⟨by rw [e1] <;> first | rfl | simp [hw3.out], by rw [e2] <;> rfl, rfl⟩
  case rest =>
    obtain ⟨rfl, rfl, rfl⟩ := hcut
    have hw1' := hw1.out
    have hp1 := itoa_pos (1000 + Int.tmod (magn i) 1000)
    have q1 : (1 ≤ ((itoaBA (1000 + Int.tmod (magn i) 1000)).size : Int)) = True := eq_true (by omega)
    have q1b : (1 ≤ (itoaBA (1000 + Int.tmod (magn i) 1000)).size) = True := eq_true (by omega)
    have htr0 : ∀ W, Calls Tryz.prog 69 #[.string ((itoaBA (1000 + Int.tmod (magn i) 1000)).extract 1 (itoaBA (1000 + Int.tmod (magn i) 1000)).size), .string ⟨#[48]⟩] W fun e w' => e = .returned (.string (tailZ (magn i))) ∧ w' = W := fun W => Tryz.strings_TrimRight_one ((itoaBA (1000 + Int.tmod (magn i) 1000)).extract 1 (itoaBA (1000 + Int.tmod (magn i) 1000)).size) 48 (by decide) W (by rw [ByteArray.size_extract]; have := hs1.out; omega)
    have hF : fracB (magn i) = if 0 < (tailZ (magn i)).size then tailZ (magn i) else ⟨#[48]⟩ := rfl
    have htz : (tailZ (magn i)).size ≤ 21 := by
      unfold tailZ
      refine Nat.le_trans (trimZ_size _) ?_
      rw [ByteArray.size_extract]; have := hs1.out; omega
    have HE : decB i = ((signB i ++ itoaBA (Int.tdiv (magn i) 1000)) ++ (⟨#[46]⟩ : ByteArray)) ++ fracB (magn i) := rfl
    have hsg : (signB i).size ≤ 1 := by unfold signB; split <;> decide
    generalize tailZ (magn i) = tz at *
    generalize fracB (magn i) = fz at *
    generalize signB i = sz at *
    have htr := Aside0.mk htr0
    have HF := Aside0.mk hF
    have HZ := Aside0.mk htz
    have HS := Aside0.mk hsg
    have HD := Aside0.mk HE
    clear htz hp1 hs1 hF htr0 hsg HE
    go_upto_if 44 with (first | (go_at_call 69; refine (htr.out _).mono ?_; rintro e w5 ⟨rfl, rfl⟩) | (go_at_call 68; refine (hIt.out _ HB.out).mono ?_; rintro e w4 ⟨rfl, hb4⟩))
    have hw2' := hw2.out
    have HB5 := Aside0.mk (below_then HB.out HB.out.size hb4)
    have K5 := Aside0.mk (fun W' (hb : Below w5.heap.size w5 W') => K.out W' (below_then hb4 hb4.size hb))
    clear hb4 htr hIt q1 q1b hw1'
    generalize itoaBA (1000 + Int.tmod (magn i) 1000) = x1 at *
    go_cut [6] (fun v6 wc => v6 = .string fz ∧ wc = w5)
    case first =>
      by_cases h0 : 0 < tz.size
      · have e1 : fz = tz := HF.out.trans (if_pos h0)
        have n1 : tz.toList.isEmpty = false := by have := (nonempty_ne tz h0).1; simpa using this
        clear h0 HF
        (first | rw [n1] | skip)
        go_wp2
        go_meet
        case rel => exact ⟨by rw [e1] <;> rfl, rfl⟩
      · have e1 : fz = ⟨#[48]⟩ := HF.out.trans (if_neg h0)
        have n1 : tz.toList.isEmpty = true := by have := (empty_eq tz h0).1; simpa using this
        clear h0 HF
        (first | rw [n1] | skip)
        go_wp2
        go_meet
        case rel => exact ⟨by rw [e1] <;> rfl, rfl⟩
    case rest =>
      obtain ⟨rfl, rfl⟩ := hcut
      have hfz : fz.size ≤ 21 := by
        rw [HF.out]
        split
        · exact HZ.out
        · decide
      have hId' := hId.out
      have hy := hs2.out
      have hs := HS.out
      generalize itoaBA (Int.tdiv (magn i) 1000) = y1 at *
      have z1 : (9223372036854775807 < sz.size + y1.size) = False := eq_false (by omega)
      have z1b : (sz.size + y1.size ≤ 9223372036854775807) = True := eq_true (by omega)
      have z2 : (9223372036854775807 < sz.size + y1.size + 1) = False := eq_false (by omega)
      have z2b : (sz.size + y1.size + 1 ≤ 9223372036854775807) = True := eq_true (by omega)
      have z3 : (9223372036854775807 < sz.size + y1.size + 1 + fz.size) = False := eq_false (by omega)
      have z3b : (sz.size + y1.size + 1 + fz.size ≤ 9223372036854775807) = True := eq_true (by omega)
      have HI := Aside0.mk hId'
      clear hId hId' hfz hy hs HF HZ HS hs2
      have HW := Aside0.mk HB
      obtain ⟨k2, k3⟩ := K5.out _ (Below.refl _ _)
      go_upto_region 13 with (fail)
      go_region_held3 (fun w' => w'.cell? ⟨w.heap.size, 2, none⟩ = some (.int .i64 i) ∧ w'.cell? ⟨w.heap.size, 3, none⟩ = some (.string t)) (first | exact K5.out _ (below_drew (Below.refl _ _)) | exact K5.out _ (Below.refl _ _) | exact K5.out _ (by assumption)) (first | (go_at_call 68; (try rw [i64_w]); (try rw [hw2.out]); ((with_reducible refine (HI.out _ ?_).mono ?_); (first | exact HB5.out | exact below_drew1 HB5.out); rintro e w6 ⟨rfl, hb6⟩; have hb7 := below_then (below_drew (Below.refl wc.heap.size wc)) (Nat.le_refl _) hb6; clear hb6)))
      go_wp2
      go_ret2
      exact ⟨by rw [HD.out]; rfl, below_then HB5.out HB5.out.size hb7⟩
set_option maxHeartbeats 8000000 in
set_option maxRecDepth 100000 in
theorem value_token (k t : ByteArray) (w : World) (b : Bool) (hb : sfitem_whole.f t 4 = some b) :
    Calls Tryz.prog 38 #[.agg #[.string k, .int .i64 4, .int .i64 0, .string t]] w fun e w' => e = .returned (.tuple #[.string t, .bool b]) ∧ Below w.heap.size w w' := by
  have hu60 := Tryz.underlying60
  have hP : PB (w.alloc (.cells #[.string k, .int .i64 4, .int .i64 0, .string t] 60)) w.heap.size k 4 0 t := PB_new4 _ _ _ _ _
  have hB := below_alloc (Below.refl w.heap.size w) (.cells #[.string k, .int .i64 4, .int .i64 0, .string t] 60)
  have d1 : decide ((0 : Int) < -999999999999999) = false := by decide
  have d2 : decide (999999999999999 < (0 : Int)) = false := by decide
  have hWh := Aside0.mk (fun W => sfitem_whole.calls t 4 b W hb)
  clear hb
  go_enter Tryz.func38, Tryz.ntmps38
  have c1 := hP.c1
  have c2 := hP.c2
  have c3 := hP.c3
  have HB := Aside0.mk hB
  have HP := Aside0.mk hP
  clear hP hB
  go_upto_region 29 with (fail)
  have hK : ∀ W', Below (w.alloc (.cells #[.string k, .int .i64 4, .int .i64 0, .string t] 60)).heap.size (w.alloc (.cells #[.string k, .int .i64 4, .int .i64 0, .string t] 60)) W' → W'.cell? ⟨w.heap.size, 2, none⟩ = some (.int .i64 0) ∧ W'.cell? ⟨w.heap.size, 3, none⟩ = some (.string t) := (PB_held HP.out).out
  have K := Aside0.mk hK
  clear hK HP c1
  generalize w.alloc (.cells #[.string k, .int .i64 4, .int .i64 0, .string t] 60) = w1 at *
  go_region_held3 (fun w' => w'.cell? ⟨w.heap.size, 2, none⟩ = some (.int .i64 0) ∧ w'.cell? ⟨w.heap.size, 3, none⟩ = some (.string t)) (first | exact K.out _ (below_drew (Below.refl _ _)) | exact K.out _ (Below.refl _ _) | exact K.out _ (by assumption)) (first | (go_at_call 71; ((with_reducible refine (hWh.out _).mono ?_); rintro e w3 ⟨rfl, hb3⟩; have hb4 := below_then (below_drew (Below.refl w1.heap.size w1)) (Nat.le_refl _) hb3; clear hb3)))
  go_wp2
  go_ret2
  exact ⟨rfl, below_then HB.out HB.out.size hb4⟩
set_option maxHeartbeats 8000000 in
set_option maxRecDepth 100000 in
theorem value_bytesZ (k t : ByteArray) (w : World) (b : Bool) (hz : t.size ≤ 2199023255540) (hb : sfitem_whole.f (((⟨#[58]⟩ : ByteArray) ++ t) ++ (⟨#[58]⟩ : ByteArray)) 5 = some b) :
    Calls Tryz.prog 38 #[.agg #[.string k, .int .i64 5, .int .i64 0, .string t]] w fun e w' => e = .returned (.tuple #[.string (((⟨#[58]⟩ : ByteArray) ++ t) ++ (⟨#[58]⟩ : ByteArray)), .bool b]) ∧ Below w.heap.size w w' := by
  have hu60 := Tryz.underlying60
  have hP : PB (w.alloc (.cells #[.string k, .int .i64 5, .int .i64 0, .string t] 60)) w.heap.size k 5 0 t := PB_new4 _ _ _ _ _
  have hB := below_alloc (Below.refl w.heap.size w) (.cells #[.string k, .int .i64 5, .int .i64 0, .string t] 60)
  have d1 : decide ((0 : Int) < -999999999999999) = false := by decide
  have d2 : decide (999999999999999 < (0 : Int)) = false := by decide
  have hWh := Aside0.mk (fun W => sfitem_whole.calls _ 5 b W hb)
  clear hb
  have z1 : (9223372036854775807 < 1 + t.size) = False := eq_false (by omega)
  have z1b : (1 + t.size ≤ 9223372036854775807) = True := eq_true (by omega)
  have z2 : (9223372036854775807 < 1 + t.size + 1) = False := eq_false (by omega)
  have z2b : (1 + t.size + 1 ≤ 9223372036854775807) = True := eq_true (by omega)
  clear hz
  go_enter Tryz.func38, Tryz.ntmps38
  have c1 := hP.c1
  have c2 := hP.c2
  have c3 := hP.c3
  have HB := Aside0.mk hB
  have HP := Aside0.mk hP
  clear hP hB
  go_wp2_with (first | (go_at_call 71; ((with_reducible refine (hWh.out _).mono ?_); rintro e w3 ⟨rfl, hb3⟩; skip)))
  go_ret2
  exact ⟨rfl, below_then HB.out HB.out.size hb3⟩
set_option maxHeartbeats 8000000 in
set_option maxRecDepth 100000 in
theorem value_bytesN (k t : ByteArray) (i : Int) (w : World) (hi : -999999999999999 ≤ i ∧ i ≤ 999999999999999) (hz : t.size ≤ 2199023255540) (hn : ¬ i = 0) :
    Calls Tryz.prog 38 #[.agg #[.string k, .int .i64 5, .int .i64 i, .string t]] w fun e w' => e = .returned (.tuple #[.string (((⟨#[58]⟩ : ByteArray) ++ t) ++ (⟨#[58]⟩ : ByteArray)), .bool false]) ∧ Below w.heap.size w w' := by
  have hu60 := Tryz.underlying60
  have hP : PB (w.alloc (.cells #[.string k, .int .i64 5, .int .i64 i, .string t] 60)) w.heap.size k 5 i t := PB_new4 _ _ _ _ _
  have hB := below_alloc (Below.refl w.heap.size w) (.cells #[.string k, .int .i64 5, .int .i64 i, .string t] 60)
  have d1 : decide (i < -999999999999999) = false := decide_eq_false (by omega)
  have d2 : decide (999999999999999 < i) = false := decide_eq_false (by omega)
  have d3 : (i == 0) = false := by simp [hn]
  clear hn hi
  have z1 : (9223372036854775807 < 1 + t.size) = False := eq_false (by omega)
  have z1b : (1 + t.size ≤ 9223372036854775807) = True := eq_true (by omega)
  have z2 : (9223372036854775807 < 1 + t.size + 1) = False := eq_false (by omega)
  have z2b : (1 + t.size + 1 ≤ 9223372036854775807) = True := eq_true (by omega)
  clear hz
  go_enter Tryz.func38, Tryz.ntmps38
  have c1 := hP.c1
  have c2 := hP.c2
  have c3 := hP.c3
  have HB := Aside0.mk hB
  have HP := Aside0.mk hP
  clear hP hB
  go_wp2
  go_ret2
  exact ⟨rfl, HB.out⟩
/-- A text in quotes, as far as k bytes: none: a byte that may not be. -/
def qOut (t : ByteArray) : Nat → Option ByteArray
  | 0 => some ⟨#[34]⟩
  | k + 1 => (qOut t k).bind fun o => if bt t k < 32 ∨ 126 < bt t k then none else some ((if wiP (bt t k) ⟨#[34, 92]⟩ = true then o ++ (⟨#[92]⟩ : ByteArray) else o) ++ strOfNums [bt t k])
theorem qOut_none (t : ByteArray) (k : Nat) (h : qOut t k = none) : ∀ n, k ≤ n → qOut t n = none := by
  intro n hn
  induction n with
  | zero => obtain rfl : k = 0 := by omega
            exact h
  | succ n ih =>
    by_cases hk : k = n + 1
    · rw [← hk]; exact h
    · rw [qOut, ih (by omega)]; rfl
theorem num_size (c : Int) : (strOfNums [c]).size = 1 := by unfold strOfNums; rfl
theorem qOut_size (t : ByteArray) : ∀ (k : Nat) (o : ByteArray), qOut t k = some o → o.size ≤ 1 + 2 * k := by
  intro k
  induction k with
  | zero => intro o h; rw [qOut] at h; obtain rfl := Option.some.inj h; exact Nat.le_refl _
  | succ k ih =>
    intro o h
    rw [qOut] at h
    obtain ⟨o', h1, h2⟩ := Option.bind_eq_some_iff.1 h
    have := ih o' h1
    by_cases c : bt t k < 32 ∨ 126 < bt t k
    · rw [if_pos c] at h2; cases h2
    · rw [if_neg c] at h2
      have h2 := Option.some.inj h2
      rw [← h2, ByteArray.size_append, num_size]
      by_cases c2 : wiP (bt t k) ⟨#[34, 92]⟩ = true
      · rw [if_pos c2, ByteArray.size_append]
        have : (⟨#[92]⟩ : ByteArray).size = 1 := rfl
        omega
      · rw [if_neg c2]; omega
theorem bt_nat2 (s : ByteArray) (j : Nat) : bt s (j : Int) = ((s.data.toList.getD j 0).toNat : Int) := by
  unfold bt
  split
  · rename_i h
    have h' : j < s.data.toList.length := by rw [data_length]; simpa using h
    simp [List.getD_eq_getElem?_getD, List.getElem?_eq_getElem h']
    rfl
  · rename_i h
    have h' : s.data.toList.length ≤ j := by rw [data_length]; simp at h; omega
    simp [List.getD_eq_getElem?_getD, List.getElem?_eq_none h']
def textF (i : Int) (t : ByteArray) : ByteArray × Bool := match qOut t t.size with | some o => (o ++ (⟨#[34]⟩ : ByteArray), i == 0) | none => (⟨#[]⟩, false)
set_option maxHeartbeats 8000000 in
set_option maxRecDepth 100000 in
theorem value_text (k t : ByteArray) (i : Int) (w : World) (hi : -999999999999999 ≤ i ∧ i ≤ 999999999999999) (hz : t.size ≤ 2199023255552) :
    Calls Tryz.prog 38 #[.agg #[.string k, .int .i64 3, .int .i64 i, .string t]] w fun e w' => e = .returned (.tuple #[.string (textF i t).1, .bool (textF i t).2]) ∧ Below w.heap.size w w' := by
  have hu60 := Tryz.underlying60
  have hP : PB (w.alloc (.cells #[.string k, .int .i64 3, .int .i64 i, .string t] 60)) w.heap.size k 3 i t := PB_new4 _ _ _ _ _
  have hB := below_alloc (Below.refl w.heap.size w) (.cells #[.string k, .int .i64 3, .int .i64 i, .string t] 60)
  have d1 : decide (i < -999999999999999) = false := decide_eq_false (by omega)
  have d2 : decide (999999999999999 < i) = false := decide_eq_false (by omega)
  clear hi
  go_enter Tryz.func38, Tryz.ntmps38
  have c1 := hP.c1
  have c2 := hP.c2
  have c3 := hP.c3
  have HB := Aside0.mk hB
  have HP := Aside0.mk hP
  clear hP hB
  go_upto_region 18 with (fail)
  have hK : ∀ W', Below (w.alloc (.cells #[.string k, .int .i64 3, .int .i64 i, .string t] 60)).heap.size (w.alloc (.cells #[.string k, .int .i64 3, .int .i64 i, .string t] 60)) W' → W'.cell? ⟨w.heap.size, 2, none⟩ = some (.int .i64 i) ∧ W'.cell? ⟨w.heap.size, 3, none⟩ = some (.string t) := (PB_held HP.out).out
  have K := Aside0.mk hK
  clear hK HP c1 c2
  generalize w.alloc (.cells #[.string k, .int .i64 3, .int .i64 i, .string t] 60) = w1 at *
  have kb := fun W => print_bytes (P := Tryz.prog) 9 93 5 Tryz.underlying9 Tryz.underlying93 Tryz.underlying5 t W
  have hC : ∀ j : Nat, j < t.size → (Lib.bytesWorld w1 5 t).cell? ⟨w1.heap.size, j, none⟩ = some (.int .u8 (bt t j)) := fun j hj => by rw [Lib.bytesWorld_cell w1 5 t j hj, bt_nat2]
  have hB2 : Below w.heap.size w (Lib.bytesWorld w1 5 t) := bytes_below HB.out HB.out.size _ _
  have hK2 := Aside0.mk (fun W' (hb : Below (Lib.bytesWorld w1 5 t).heap.size (Lib.bytesWorld w1 5 t) W') => K.out W' (below_then (bytes_below (Below.refl _ _) (Nat.le_refl _) _ _) (bytes_below (Below.refl w1.heap.size w1) (Nat.le_refl _) 5 t).size hb))
  have HC := Aside0.mk hC
  have HB2 := Aside0.mk hB2
  clear hC hB2 K HB
  go_wp2
  generalize grownCap w1 t.size 0 5 = cap
  generalize Lib.bytesWorld w1 5 t = W2 at *
  generalize w1.heap.size = gb at *
  clear kb c3
  have hcv : ∀ (c : Int) (W : World), (convert 93 9 (.slice (some ⟨W.heap.size, 0, none⟩) 1 1)).run Tryz.prog (W.alloc (.cells #[.int .u8 c] 5)) = .ok (.string (strOfNums [c])) (W.alloc (.cells #[.int .u8 c] 5)) := fun c W => by
    refine run_convert_bytes_arg _ 93 5 Tryz.underlying93 Tryz.underlying5 W.heap.size 0 1 1 [c] rfl (fun j hj => ?_) 9 Tryz.underlying9
    obtain rfl : j = 0 := by omega
    exact (blk_cell (by have := blk_new W (.cells #[.int .u8 c] 5); simpa using this) 0).trans rfl
  go_loopw [7, 9, 77] (fun v7 v9 v77 wr => ∃ (k : Nat) (o : ByteArray), k ≤ t.size ∧ v77 = .int .i64 k ∧ v7 = .string o ∧ Aside0 (qOut t k = some o) ∧ Aside0 (Below W2.heap.size W2 wr)) (fun _ _ v77 _ => t.size - (intOf v77).toNat)
  case atStart => exact ⟨0, _, Nat.zero_le _, rfl, rfl, ⟨rfl⟩, ⟨Below.refl _ _⟩⟩
  case round =>
    obtain ⟨n, o, hn, rfl, rfl, HQ, HBr⟩ := hrel
    by_cases hlt : n < t.size
    · have hcell : wr.cell? ⟨gb, n, none⟩ = some (.int .u8 (bt t n)) := pw_cell_below HBr.out (HC.out n hlt)
      have p1 : (0 ≤ (n : Int)) = True := eq_true (by omega)
      have p2 : ((n : Int) < (t.size : Int)) = True := eq_true (by omega)
      have hltd : decide ((n : Int) < (t.size : Int)) = true := decide_eq_true (by omega)
      have hos := qOut_size t n o HQ.out
      have hq1 : qOut t (n + 1) = if bt t n < 32 ∨ 126 < bt t n then none else some ((if wiP (bt t n) ⟨#[34, 92]⟩ = true then o ++ (⟨#[92]⟩ : ByteArray) else o) ++ strOfNums [bt t n]) := by rw [qOut, HQ.out]; rfl
      have hwi := fun W => asks_within (bt t n) ⟨#[34, 92]⟩ W
      by_cases e1 : bt t n < 32
      · rw [if_pos (Or.inl e1)] at hq1
        have HT2 : Aside0 (textF i t = (⟨#[]⟩, false)) := ⟨by unfold textF; rw [qOut_none t (n + 1) hq1 t.size (by omega)]⟩
        have f1 : decide (bt t n < 32) = true := decide_eq_true e1
        clear hq1 e1 hwi HQ
        generalize bt t n = c at *
        go_wp2
        go_ret2
        exact ⟨by rw [HT2.out]; rfl, below_then HB2.out HB2.out.size HBr.out⟩
      · by_cases e2 : 126 < bt t n
        · rw [if_pos (Or.inr e2)] at hq1
          have HT2 : Aside0 (textF i t = (⟨#[]⟩, false)) := ⟨by unfold textF; rw [qOut_none t (n + 1) hq1 t.size (by omega)]⟩
          have f1 : decide (bt t n < 32) = false := decide_eq_false e1
          have f2 : decide (126 < bt t n) = true := decide_eq_true e2
          clear hq1 e1 e2 hwi HQ
          generalize bt t n = c at *
          go_wp2
          go_ret2
          exact ⟨by rw [HT2.out]; rfl, below_then HB2.out HB2.out.size HBr.out⟩
        · rw [if_neg (fun h => h.elim e1 e2)] at hq1
          have f1 : decide (bt t n < 32) = false := decide_eq_false e1
          have f2 : decide (126 < bt t n) = false := decide_eq_false e2
          have hns := num_size (bt t n)
          cases e5 : wiP (bt t n) ⟨#[34, 92]⟩ with
          | true =>
            rw [e5] at hq1 hwi
            have HQ1 : Aside0 (qOut t (n + 1) = some ((o ++ (⟨#[92]⟩ : ByteArray)) ++ strOfNums [bt t n])) := ⟨hq1⟩
            have z1 : (9223372036854775807 < o.size + 1) = False := eq_false (by omega)
            have z1b : (o.size + 1 ≤ 9223372036854775807) = True := eq_true (by omega)
            have z2 : (9223372036854775807 < o.size + 1 + (strOfNums [bt t n]).size) = False := eq_false (by omega)
            have z2b : (o.size + 1 + (strOfNums [bt t n]).size ≤ 9223372036854775807) = True := eq_true (by omega)
            have hcv' : ∀ q : Nat, (convert 93 9 (.slice (some ⟨wr.heap.size, 0, none⟩) 1 1)).run Tryz.prog ((wr.drewN q).alloc (.cells #[.int .u8 (bt t n)] 5)) = .ok (.string (strOfNums [bt t n])) ((wr.drewN q).alloc (.cells #[.int .u8 (bt t n)] 5)) := fun q => hcv (bt t n) (wr.drewN q)
            clear hq1 e1 e2 e5 HQ hns hos
            generalize bt t n = c at *
            generalize strOfNums [c] = sc at *
            go_wp2_with (first | (go_at_call 70; refine (hwi _).mono ?_; rintro e w' ⟨rfl, ⟨q, rfl⟩⟩))
            go_roundw
            case rel => exact ⟨n + 1, _, by omega, by go_num, rfl, HQ1, ⟨below_alloc (pw_below_drewN HBr.out _) _⟩⟩
            case measure => simp [intOf]; omega
          | false =>
            rw [e5] at hq1 hwi
            have HQ1 : Aside0 (qOut t (n + 1) = some (o ++ strOfNums [bt t n])) := ⟨hq1⟩
            have z2 : (9223372036854775807 < o.size + (strOfNums [bt t n]).size) = False := eq_false (by omega)
            have z2b : (o.size + (strOfNums [bt t n]).size ≤ 9223372036854775807) = True := eq_true (by omega)
            have hcv' : ∀ q : Nat, (convert 93 9 (.slice (some ⟨wr.heap.size, 0, none⟩) 1 1)).run Tryz.prog ((wr.drewN q).alloc (.cells #[.int .u8 (bt t n)] 5)) = .ok (.string (strOfNums [bt t n])) ((wr.drewN q).alloc (.cells #[.int .u8 (bt t n)] 5)) := fun q => hcv (bt t n) (wr.drewN q)
            clear hq1 e1 e2 e5 HQ hns hos
            generalize bt t n = c at *
            generalize strOfNums [c] = sc at *
            go_wp2_with (first | (go_at_call 70; refine (hwi _).mono ?_; rintro e w' ⟨rfl, ⟨q, rfl⟩⟩))
            go_roundw
            case rel => exact ⟨n + 1, _, by omega, by go_num, rfl, HQ1, ⟨below_alloc (pw_below_drewN HBr.out _) _⟩⟩
            case measure => simp [intOf]; omega
    · obtain rfl : n = t.size := by omega
      have hltd : decide ((t.size : Int) < (t.size : Int)) = false := decide_eq_false (by omega)
      have HT2 : Aside0 (textF i t = (o ++ (⟨#[34]⟩ : ByteArray), i == 0)) := ⟨by unfold textF; rw [HQ.out]⟩
      have hos := qOut_size t _ o HQ.out
      have z1 : (9223372036854775807 < o.size + 1) = False := eq_false (by omega)
      have z1b : (o.size + 1 ≤ 9223372036854775807) = True := eq_true (by omega)
      obtain ⟨k2, k3⟩ := hK2.out _ HBr.out
      clear hos HQ
      go_upto_region 27 with (fail)
      go_region
      all_goals (go_wp2; go_ret2; exact ⟨by rw [HT2.out]; rfl, below_drew1 (below_then HB2.out HB2.out.size HBr.out)⟩)
set_option maxHeartbeats 4000000 in
set_option maxRecDepth 100000 in
theorem value_boolN (k t : ByteArray) (i : Int) (w : World) (hT : Aside0 (TabW w)) (hi : -999999999999999 ≤ i ∧ i ≤ 999999999999999) (ht : (t.toList == ([] : List UInt8)) = false) :
    Calls Tryz.prog 38 #[.agg #[.string k, .int .i64 6, .int .i64 i, .string t]] w fun e w' => e = .returned (.tuple #[.string ((⟨#[63]⟩ : ByteArray) ++ itoaBA i), .bool false]) ∧ Below w.heap.size w w' := by
  have hu60 := Tryz.underlying60
  have hP : PB (w.alloc (.cells #[.string k, .int .i64 6, .int .i64 i, .string t] 60)) w.heap.size k 6 i t := PB_new4 _ _ _ _ _
  have hB := below_alloc (Below.refl w.heap.size w) (.cells #[.string k, .int .i64 6, .int .i64 i, .string t] 60)
  have d1 : decide (i < -999999999999999) = false := decide_eq_false (by omega)
  have d2 : decide (999999999999999 < i) = false := decide_eq_false (by omega)
  have hIt := Aside0.mk (fun W (hb : Below w.heap.size w W) => itoa_at i hi W (tab_ hT hb))
  have hz := itoa_size i (by omega) (by omega)
  have z1 : (9223372036854775807 < 1 + (itoaBA i).size) = False := eq_false (by omega)
  have z1b : (1 + (itoaBA i).size ≤ 9223372036854775807) = True := eq_true (by omega)
  clear hi hT hz
  go_enter Tryz.func38, Tryz.ntmps38
  have c1 := hP.c1
  have c2 := hP.c2
  have c3 := hP.c3
  have HB := Aside0.mk hB
  have HP := Aside0.mk hP
  clear hP hB
  go_upto_region 15 with (fail)
  have hK : ∀ W', Below (w.alloc (.cells #[.string k, .int .i64 6, .int .i64 i, .string t] 60)).heap.size (w.alloc (.cells #[.string k, .int .i64 6, .int .i64 i, .string t] 60)) W' → W'.cell? ⟨w.heap.size, 2, none⟩ = some (.int .i64 i) ∧ W'.cell? ⟨w.heap.size, 3, none⟩ = some (.string t) := (PB_held HP.out).out
  have K := Aside0.mk hK
  clear hK HP c1
  generalize w.alloc (.cells #[.string k, .int .i64 6, .int .i64 i, .string t] 60) = w1 at *
  refine wp_region_held_drew (S := fun w' => w'.cell? ⟨w.heap.size, 2, none⟩ = some (.int .i64 i) ∧ w'.cell? ⟨w.heap.size, 3, none⟩ = some (.string t)) (by kernel_rfl) (K.out _ (below_drew (Below.refl _ _))) (fun hHeld => ?_)
  refine wpAnyH_take (i := 0) (oi := { dst := some 58, op := _, type := _, pos := _, after := _, guard := _ }) rfl (by kernel_rfl) (by kernel_rfl) (by kernel_rfl) (fun _ _ _ h => h) (Or.inl ⟨by rfl, by (intro w hSw; (try dsimp only at hSw); go_simp); first | done | (with_reducible rfl)⟩) (by assumption) ?_
  try simp only [Act.put, List.setIfInBounds_toArray, List.set_cons_zero, List.set_cons_succ]
  refine wpAnyH_take (i := 1) (oi := { dst := some 59, op := _, type := _, pos := _, after := _, guard := _ }) rfl (by kernel_rfl) (by kernel_rfl) (by kernel_rfl) (fun _ _ _ h => h) (Or.inl ⟨by rfl, by (intro w hSw; (try dsimp only at hSw); go_simp); first | done | (with_reducible rfl)⟩) (by assumption) ?_
  try simp only [Act.put, List.setIfInBounds_toArray, List.set_cons_zero, List.set_cons_succ]
  refine wpAnyH_take (i := 4) (oi := { dst := some 62, op := _, type := _, pos := _, after := _, guard := _ }) rfl (by kernel_rfl) (by kernel_rfl) (by kernel_rfl) (fun _ _ _ h => h) (Or.inl ⟨by rfl, by (intro w hSw; (try dsimp only at hSw); go_simp); first | done | (with_reducible rfl)⟩) (by assumption) ?_
  try simp only [Act.put, List.setIfInBounds_toArray, List.set_cons_zero, List.set_cons_succ]
  refine wpAnyH_take (i := 5) (oi := { dst := some 63, op := _, type := _, pos := _, after := _, guard := _ }) rfl (by kernel_rfl) (by kernel_rfl) (by kernel_rfl) (fun _ _ _ h => h) (Or.inl ⟨by rfl, by (intro w hSw; (try dsimp only at hSw); go_simp); first | done | (with_reducible rfl)⟩) (by assumption) ?_
  try simp only [Act.put, List.setIfInBounds_toArray, List.set_cons_zero, List.set_cons_succ]
  refine wpAnyH_take (i := 6) (oi := { dst := some 64, op := _, type := _, pos := _, after := _, guard := _ }) rfl (by kernel_rfl) (by kernel_rfl) (by kernel_rfl) (fun _ _ _ h => h) (Or.inl ⟨by rfl, by (intro w hSw; (try dsimp only at hSw); go_simp); first | done | (with_reducible rfl)⟩) (by assumption) ?_
  try simp only [Act.put, List.setIfInBounds_toArray, List.set_cons_zero, List.set_cons_succ]
  refine wpAnyH_ready (rs := [2]) (by kernel_rfl) (by simp) ?_
  refine AllReadyH.cons rfl (fun Kq hK => ?_) ?_
  · go_simp
    (go_at_call 68; ((with_reducible refine (hIt.out _ ?_).mono ?_); (first | exact HB.out | exact below_drew1 HB.out); rintro e w3 ⟨rfl, hb3⟩; have hb4 := below_then (below_drew (Below.refl w1.heap.size w1)) (Nat.le_refl _) hb3; clear hb3))
    refine hK.out _ _ (K.out _ (by assumption)) (fun hHeld2 => ?_)
    clear hK Kq
    try simp only [Act.put, List.setIfInBounds_toArray, List.set_cons_zero, List.set_cons_succ]
    refine wpAnyH_take (i := 3) (oi := { dst := some 61, op := _, type := _, pos := _, after := _, guard := _ }) rfl (by kernel_rfl) (by kernel_rfl) (by kernel_rfl) (fun _ _ _ h => h) (Or.inl ⟨by rfl, by (intro w hSw; (try dsimp only at hSw); go_simp); first | done | (with_reducible rfl)⟩) (by assumption) ?_
    try simp only [Act.put, List.setIfInBounds_toArray, List.set_cons_zero, List.set_cons_succ]
    refine wpAnyH_take (i := 7) (oi := { dst := some 65, op := _, type := _, pos := _, after := _, guard := _ }) rfl (by kernel_rfl) (by kernel_rfl) (by kernel_rfl) (fun _ _ _ h => h) (Or.inl ⟨by rfl, by (intro w hSw; (try dsimp only at hSw); go_simp); first | done | (with_reducible rfl)⟩) (by assumption) ?_
    try simp only [Act.put, List.setIfInBounds_toArray, List.set_cons_zero, List.set_cons_succ]
    refine wpAnyH_take (i := 8) (oi := { dst := some 66, op := _, type := _, pos := _, after := _, guard := _ }) (v := undef) rfl (by kernel_rfl) (by kernel_rfl) (by kernel_rfl) (fun _ _ _ h => h) (Or.inr ⟨by rfl, rfl⟩) (by assumption) ?_
    try simp only [Act.put, List.setIfInBounds_toArray, List.set_cons_zero, List.set_cons_succ]
    refine wpAnyH_take (i := 9) (oi := { dst := some 67, op := _, type := _, pos := _, after := _, guard := _ }) (v := undef) rfl (by kernel_rfl) (by kernel_rfl) (by kernel_rfl) (fun _ _ _ h => h) (Or.inr ⟨by rfl, rfl⟩) (by assumption) ?_
    try simp only [Act.put, List.setIfInBounds_toArray, List.set_cons_zero, List.set_cons_succ]
    refine wpAnyH_take (i := 10) (oi := { dst := some 68, op := _, type := _, pos := _, after := _, guard := _ }) (v := undef) rfl (by kernel_rfl) (by kernel_rfl) (by kernel_rfl) (fun _ _ _ h => h) (Or.inr ⟨by rfl, rfl⟩) (by assumption) ?_
    try simp only [Act.put, List.setIfInBounds_toArray, List.set_cons_zero, List.set_cons_succ]
    refine wpAnyH_take (i := 11) (oi := { dst := some 69, op := _, type := _, pos := _, after := _, guard := _ }) (v := undef) rfl (by kernel_rfl) (by kernel_rfl) (by kernel_rfl) (fun _ _ _ h => h) (Or.inr ⟨by rfl, rfl⟩) (by assumption) ?_
    try simp only [Act.put, List.setIfInBounds_toArray, List.set_cons_zero, List.set_cons_succ]
    refine wpAnyH_take (i := 12) (oi := { dst := some 70, op := _, type := _, pos := _, after := _, guard := _ }) rfl (by kernel_rfl) (by kernel_rfl) (by kernel_rfl) (fun _ _ _ h => h) (Or.inl ⟨by rfl, by (intro w hSw; (try dsimp only at hSw); go_simp); first | done | (with_reducible rfl)⟩) (by assumption) ?_
    try simp only [Act.put, List.setIfInBounds_toArray, List.set_cons_zero, List.set_cons_succ]
    refine wpAnyH_take (i := 13) (oi := { dst := some 2, op := _, type := _, pos := _, after := _, guard := _ }) rfl (by kernel_rfl) (by kernel_rfl) (by kernel_rfl) (fun _ _ _ h => h) (Or.inl ⟨by rfl, by (intro w hSw; (try dsimp only at hSw); go_simp); first | done | (with_reducible rfl)⟩) (by assumption) ?_
    try simp only [Act.put, List.setIfInBounds_toArray, List.set_cons_zero, List.set_cons_succ]
    refine wpAnyH_take (i := 14) (oi := { dst := some 3, op := _, type := _, pos := _, after := _, guard := _ }) rfl (by kernel_rfl) (by kernel_rfl) (by kernel_rfl) (fun _ _ _ h => h) (Or.inl ⟨by rfl, by (intro w hSw; (try dsimp only at hSw); go_simp); first | done | (with_reducible rfl)⟩) (by assumption) ?_
    try simp only [Act.put, List.setIfInBounds_toArray, List.set_cons_zero, List.set_cons_succ]
    refine wpAnyH_done (by kernel_rfl) ?_ _
    go_wp2
    go_ret2
    exact ⟨rfl, below_then HB.out HB.out.size hb4⟩
  · exact AllReadyH.nil
set_option maxHeartbeats 4000000 in
set_option maxRecDepth 100000 in
theorem value_tokN (k t : ByteArray) (i : Int) (w : World) (hi : -999999999999999 ≤ i ∧ i ≤ 999999999999999) (hn : ¬ i = 0) :
    Calls Tryz.prog 38 #[.agg #[.string k, .int .i64 4, .int .i64 i, .string t]] w fun e w' => e = .returned (.tuple #[.string t, .bool false]) ∧ Below w.heap.size w w' := by
  have hu60 := Tryz.underlying60
  have hP : PB (w.alloc (.cells #[.string k, .int .i64 4, .int .i64 i, .string t] 60)) w.heap.size k 4 i t := PB_new4 _ _ _ _ _
  have hB := below_alloc (Below.refl w.heap.size w) (.cells #[.string k, .int .i64 4, .int .i64 i, .string t] 60)
  have d1 : decide (i < -999999999999999) = false := decide_eq_false (by omega)
  have d2 : decide (999999999999999 < i) = false := decide_eq_false (by omega)
  have d3 : (i == 0) = false := by simp [hn]
  clear hi hn
  go_enter Tryz.func38, Tryz.ntmps38
  have c1 := hP.c1
  have c2 := hP.c2
  have c3 := hP.c3
  have HB := Aside0.mk hB
  have HP := Aside0.mk hP
  clear hP hB
  go_upto_region 29 with (fail)
  have hK : ∀ W', Below (w.alloc (.cells #[.string k, .int .i64 4, .int .i64 i, .string t] 60)).heap.size (w.alloc (.cells #[.string k, .int .i64 4, .int .i64 i, .string t] 60)) W' → W'.cell? ⟨w.heap.size, 2, none⟩ = some (.int .i64 i) ∧ W'.cell? ⟨w.heap.size, 3, none⟩ = some (.string t) := (PB_held HP.out).out
  have K := Aside0.mk hK
  clear hK HP c1
  generalize w.alloc (.cells #[.string k, .int .i64 4, .int .i64 i, .string t] 60) = w1 at *
  refine wp_region_held_drew (S := fun w' => w'.cell? ⟨w.heap.size, 2, none⟩ = some (.int .i64 i) ∧ w'.cell? ⟨w.heap.size, 3, none⟩ = some (.string t)) (by kernel_rfl) (K.out _ (below_drew (Below.refl _ _))) (fun hHeld => ?_)
  refine wpAnyH_take (i := 0) (oi := { dst := some 104, op := _, type := _, pos := _, after := _, guard := _ }) rfl (by kernel_rfl) (by kernel_rfl) (by kernel_rfl) (fun _ _ _ h => h) (Or.inl ⟨by rfl, by (intro w hSw; (try dsimp only at hSw); go_simp); first | done | (with_reducible rfl)⟩) (by assumption) ?_
  try simp only [Act.put, List.setIfInBounds_toArray, List.set_cons_zero, List.set_cons_succ]
  refine wpAnyH_take (i := 1) (oi := { dst := some 105, op := _, type := _, pos := _, after := _, guard := _ }) rfl (by kernel_rfl) (by kernel_rfl) (by kernel_rfl) (fun _ _ _ h => h) (Or.inl ⟨by rfl, by (intro w hSw; (try dsimp only at hSw); go_simp); first | done | (with_reducible rfl)⟩) (by assumption) ?_
  try simp only [Act.put, List.setIfInBounds_toArray, List.set_cons_zero, List.set_cons_succ]
  refine wpAnyH_take (i := 2) (oi := { dst := some 106, op := _, type := _, pos := _, after := _, guard := _ }) rfl (by kernel_rfl) (by kernel_rfl) (by kernel_rfl) (fun _ _ _ h => h) (Or.inl ⟨by rfl, by (intro w hSw; (try dsimp only at hSw); go_simp); first | done | (with_reducible rfl)⟩) (by assumption) ?_
  try simp only [Act.put, List.setIfInBounds_toArray, List.set_cons_zero, List.set_cons_succ]
  refine wpAnyH_take (i := 3) (oi := { dst := some 107, op := _, type := _, pos := _, after := _, guard := _ }) rfl (by kernel_rfl) (by kernel_rfl) (by kernel_rfl) (fun _ _ _ h => h) (Or.inl ⟨by rfl, by (intro w hSw; (try dsimp only at hSw); go_simp); first | done | (with_reducible rfl)⟩) (by assumption) ?_
  try simp only [Act.put, List.setIfInBounds_toArray, List.set_cons_zero, List.set_cons_succ]
  refine wpAnyH_take (i := 4) (oi := { dst := some 108, op := _, type := _, pos := _, after := _, guard := _ }) rfl (by kernel_rfl) (by kernel_rfl) (by kernel_rfl) (fun _ _ _ h => h) (Or.inl ⟨by rfl, by (intro w hSw; (try dsimp only at hSw); go_simp); first | done | (with_reducible rfl)⟩) (by assumption) ?_
  try simp only [Act.put, List.setIfInBounds_toArray, List.set_cons_zero, List.set_cons_succ]
  refine wpAnyH_take (i := 5) (oi := { dst := some 109, op := _, type := _, pos := _, after := _, guard := _ }) rfl (by kernel_rfl) (by kernel_rfl) (by kernel_rfl) (fun _ _ _ h => h) (Or.inl ⟨by rfl, by (intro w hSw; (try dsimp only at hSw); go_simp); first | done | (with_reducible rfl)⟩) (by assumption) ?_
  try simp only [Act.put, List.setIfInBounds_toArray, List.set_cons_zero, List.set_cons_succ]
  refine wpAnyH_take (i := 6) (oi := { dst := some 110, op := _, type := _, pos := _, after := _, guard := _ }) (v := undef) rfl (by kernel_rfl) (by kernel_rfl) (by kernel_rfl) (fun _ _ _ h => h) (Or.inr ⟨by rfl, rfl⟩) (by assumption) ?_
  try simp only [Act.put, List.setIfInBounds_toArray, List.set_cons_zero, List.set_cons_succ]
  refine wpAnyH_take (i := 7) (oi := { dst := some 111, op := _, type := _, pos := _, after := _, guard := _ }) (v := undef) rfl (by kernel_rfl) (by kernel_rfl) (by kernel_rfl) (fun _ _ _ h => h) (Or.inr ⟨by rfl, rfl⟩) (by assumption) ?_
  try simp only [Act.put, List.setIfInBounds_toArray, List.set_cons_zero, List.set_cons_succ]
  refine wpAnyH_take (i := 8) (oi := { dst := some 112, op := _, type := _, pos := _, after := _, guard := _ }) (v := undef) rfl (by kernel_rfl) (by kernel_rfl) (by kernel_rfl) (fun _ _ _ h => h) (Or.inr ⟨by rfl, rfl⟩) (by assumption) ?_
  try simp only [Act.put, List.setIfInBounds_toArray, List.set_cons_zero, List.set_cons_succ]
  refine wpAnyH_take (i := 9) (oi := { dst := some 113, op := _, type := _, pos := _, after := _, guard := _ }) rfl (by kernel_rfl) (by kernel_rfl) (by kernel_rfl) (fun _ _ _ h => h) (Or.inl ⟨by rfl, by (intro w hSw; (try dsimp only at hSw); go_simp); first | done | (with_reducible rfl)⟩) (by assumption) ?_
  try simp only [Act.put, List.setIfInBounds_toArray, List.set_cons_zero, List.set_cons_succ]
  refine wpAnyH_take (i := 10) (oi := { dst := some 2, op := _, type := _, pos := _, after := _, guard := _ }) rfl (by kernel_rfl) (by kernel_rfl) (by kernel_rfl) (fun _ _ _ h => h) (Or.inl ⟨by rfl, by (intro w hSw; (try dsimp only at hSw); go_simp); first | done | (with_reducible rfl)⟩) (by assumption) ?_
  try simp only [Act.put, List.setIfInBounds_toArray, List.set_cons_zero, List.set_cons_succ]
  refine wpAnyH_take (i := 11) (oi := { dst := some 3, op := _, type := _, pos := _, after := _, guard := _ }) rfl (by kernel_rfl) (by kernel_rfl) (by kernel_rfl) (fun _ _ _ h => h) (Or.inl ⟨by rfl, by (intro w hSw; (try dsimp only at hSw); go_simp); first | done | (with_reducible rfl)⟩) (by assumption) ?_
  try simp only [Act.put, List.setIfInBounds_toArray, List.set_cons_zero, List.set_cons_succ]
  refine wpAnyH_done (by kernel_rfl) ?_ _
  go_wp2
  go_ret2
  exact ⟨rfl, below_drew1 HB.out⟩
def sfitem_value.f (a0_0 : ByteArray) (a0_1 : Int) (a0_2 : Int) (a0_3 : ByteArray) : Option (ByteArray × Bool) :=
  if ¬ a0_3.size ≤ 2199023255540 then none
  else if a0_2 < -999999999999999 ∨ 999999999999999 < a0_2 then some (⟨#[]⟩, false)
  else if a0_1 = 1 then some (itoaBA a0_2, a0_3.toList.isEmpty)
  else if a0_1 = 2 then some (decB a0_2, a0_3.toList.isEmpty)
  else if a0_1 = 6 then (if (a0_3.toList == ([] : List UInt8)) = true then some ((⟨#[63]⟩ : ByteArray) ++ itoaBA a0_2, Go.bits .andNot .i64 a0_2 1 == 0) else some ((⟨#[63]⟩ : ByteArray) ++ itoaBA a0_2, false))
  else if a0_1 = 3 then some (textF a0_2 a0_3)
  else if a0_1 = 4 then (if a0_2 = 0 then (sfitem_whole.f a0_3 4).bind fun b => some (a0_3, b) else some (a0_3, false))
  else if a0_1 = 5 then (if a0_2 = 0 then (sfitem_whole.f (((⟨#[58]⟩ : ByteArray) ++ a0_3) ++ (⟨#[58]⟩ : ByteArray)) 5).bind fun b => some (((⟨#[58]⟩ : ByteArray) ++ a0_3) ++ (⟨#[58]⟩ : ByteArray), b) else some (((⟨#[58]⟩ : ByteArray) ++ a0_3) ++ (⟨#[58]⟩ : ByteArray), false))
  else some (⟨#[]⟩, false)
theorem sfitem_value.calls (a0_0 : ByteArray) (a0_1 : Int) (a0_2 : Int) (a0_3 : ByteArray) (r1 : ByteArray) (r2 : Bool) (w : World) (hT_ : Aside0 (TabW w)) (h : sfitem_value.f a0_0 a0_1 a0_2 a0_3 = some (r1, r2)) :
    Calls Tryz.prog 38 #[.agg #[.string a0_0, .int .i64 a0_1, .int .i64 a0_2, .string a0_3]] w fun e w' => e = .returned (.tuple #[.string r1, .bool r2]) ∧ Below w.heap.size w w' := by
  unfold sfitem_value.f at h
  by_cases hz : a0_3.size ≤ 2199023255540
  · rw [if_neg (fun h => h hz)] at h
    by_cases hr : a0_2 < -999999999999999 ∨ 999999999999999 < a0_2
    · rw [if_pos hr] at h
      obtain ⟨rfl, rfl⟩ := Prod.mk.inj (Option.some.inj h)
      by_cases h1 : a0_2 < -999999999999999
      · exact value_low a0_0 a0_3 a0_2 w a0_1 h1
      · exact value_high a0_0 a0_3 a0_2 w a0_1 h1 (hr.resolve_left h1)
    · rw [if_neg hr] at h
      have hi : -999999999999999 ≤ a0_2 ∧ a0_2 ≤ 999999999999999 := ⟨Int.not_lt.1 (fun h => hr (Or.inl h)), Int.not_lt.1 (fun h => hr (Or.inr h))⟩
      by_cases k1 : a0_1 = 1
      · subst k1
        rw [if_pos rfl] at h
        obtain ⟨rfl, rfl⟩ := Prod.mk.inj (Option.some.inj h)
        exact value_int a0_0 a0_3 a0_2 w hT_ hi
      · rw [if_neg k1] at h
        by_cases k2 : a0_1 = 2
        · subst k2
          rw [if_pos rfl] at h
          obtain ⟨rfl, rfl⟩ := Prod.mk.inj (Option.some.inj h)
          exact value_dec a0_0 a0_3 a0_2 w hT_ hi
        · rw [if_neg k2] at h
          by_cases k6 : a0_1 = 6
          · subst k6
            rw [if_pos rfl] at h
            by_cases he : (a0_3.toList == ([] : List UInt8)) = true
            · rw [if_pos he] at h
              obtain ⟨rfl, rfl⟩ := Prod.mk.inj (Option.some.inj h)
              exact value_boolE a0_0 a0_3 a0_2 w hT_ hi he
            · rw [if_neg he] at h
              obtain ⟨rfl, rfl⟩ := Prod.mk.inj (Option.some.inj h)
              exact value_boolN a0_0 a0_3 a0_2 w hT_ hi (Bool.eq_false_iff.mpr he)
          · rw [if_neg k6] at h
            by_cases k3 : a0_1 = 3
            · subst k3
              rw [if_pos rfl] at h
              have h := Option.some.inj h
              have e1 : (textF a0_2 a0_3).1 = r1 := by rw [h]
              have e2 : (textF a0_2 a0_3).2 = r2 := by rw [h]
              subst e1 e2
              exact value_text a0_0 a0_3 a0_2 w hi (by omega)
            · rw [if_neg k3] at h
              by_cases k4 : a0_1 = 4
              · subst k4
                rw [if_pos rfl] at h
                by_cases h0 : a0_2 = 0
                · subst h0
                  rw [if_pos rfl] at h
                  obtain ⟨b, hb, h⟩ := Option.bind_eq_some_iff.1 h
                  obtain ⟨rfl, rfl⟩ := Prod.mk.inj (Option.some.inj h)
                  exact value_token a0_0 a0_3 w b hb
                · rw [if_neg h0] at h
                  obtain ⟨rfl, rfl⟩ := Prod.mk.inj (Option.some.inj h)
                  exact value_tokN a0_0 a0_3 a0_2 w hi h0
              · rw [if_neg k4] at h
                by_cases k5 : a0_1 = 5
                · subst k5
                  rw [if_pos rfl] at h
                  by_cases h0 : a0_2 = 0
                  · subst h0
                    rw [if_pos rfl] at h
                    obtain ⟨b, hb, h⟩ := Option.bind_eq_some_iff.1 h
                    obtain ⟨rfl, rfl⟩ := Prod.mk.inj (Option.some.inj h)
                    exact value_bytesZ a0_0 a0_3 w b hz hb
                  · rw [if_neg h0] at h
                    obtain ⟨rfl, rfl⟩ := Prod.mk.inj (Option.some.inj h)
                    exact value_bytesN a0_0 a0_3 a0_2 w hi hz h0
                · rw [if_neg k5] at h
                  obtain ⟨rfl, rfl⟩ := Prod.mk.inj (Option.some.inj h)
                  exact value_none a0_0 a0_3 a0_2 w a0_1 hi ⟨k1, k2, k6, k3, k4, k5⟩
  · rw [if_pos hz] at h; cases h
end Go.Proofs.YtjdbiicjfpgjkaaGreatDoor.Q
