-- Laid by this seat's own driver (wip/tools/drive.py) out of the translation.
import Derived.Test.YtciigmlibnpeeaaDoorQx0
namespace Go.Proofs.YtciigmlibnpeeaaDoor.Q
open Go.RowKit Go.Proofs.YtciigmlibnpeeaaDoorW.PrintWords Go.Proofs.YtciigmlibnpeeaaDoorW.PrintLast Go.Proofs.YtciigmlibnpeeaaDoorW.PrintMore
attribute [local go_sem] max2_int min2_int max_two min_two max_three min_three max_four min_four   -- for this text's walks alone
set_option linter.unusedVariables false
set_option linter.unusedSimpArgs false

/-! ### sfitem_Next: function 21 -/
open Go.Proofs.YtciigmlibnpeeaaDoor.Sf
theorem str_eq (s t : ByteArray) : (s.toList == t.toList) = decide (s = t) := by
  by_cases h : s = t
  · subst h; simp
  · have : ¬ s.toList = t.toList := fun e => h (by
      rw [Lib.toList_data, Lib.toList_data] at e
      exact ByteArray.ext (Array.toList_inj.1 e))
    rw [decide_eq_false h]; exact beq_eq_false_iff_ne.mpr this
/-- A block that holds a text. -/
def SB (W : World) (b : Nat) (s : ByteArray) : Prop := W.heap[b]? = some (.cells #[.string s] 9 (0, 0))
theorem SB.cell {W : World} {b : Nat} {s : ByteArray} (h : SB W b s) : W.cell? ⟨b, 0, none⟩ = some (.string s) := (blk_cell h 0).trans rfl
set_option maxHeartbeats 2000000 in
theorem same_key (q : S52) (kb : Nat) (key : ByteArray) (W : World) (hk : SB W kb key) :
    Calls Tryd.prog 54 #[.agg #[.string q.f0, .int .i64 q.f1, .int .i64 q.f2, .string q.f3], .pointer (some ⟨kb, 0, none⟩)] W fun e w' => e = .returned (.bool (q.f0.toList == key.toList)) ∧ Below W.heap.size W w' := by
  have hc := hk.cell
  have hc2 : (W.alloc (.cells #[.string q.f0, .int .i64 q.f1, .int .i64 q.f2, .string q.f3] 52)).cell? ⟨kb, 0, none⟩ = some (.string key) := (show SB (W.alloc _) kb key from blk_alloc hk _).cell
  clear hk
  go_enter Tryd.func54, Tryd.ntmps54
  go_wp2
  go_ret
  exact ⟨rfl, below_alloc (Below.refl _ _) _⟩
/-- Where a key stands. -/
def IdxAt (key : ByteArray) (l : List S52) (r : Int) : Prop := (∃ i : Nat, r = i ∧ i < l.length ∧ (rd_T52 l i).f0 = key ∧ ∀ j : Nat, j < i → (rd_T52 l j).f0 ≠ key) ∨ (r = -1 ∧ ∀ j : Nat, j < l.length → (rd_T52 l j).f0 ≠ key)
theorem SB.below {W W' : World} {b : Nat} {s : ByteArray} (h : SB W b s) (hb : Below W.heap.size W W') : SB W' b s := blk_below h hb
set_option maxHeartbeats 2000000 in
set_option maxRecDepth 100000 in
theorem index_calls (A : Option Addr) (c : Nat) (l : List S52) (kb : Nat) (key : ByteArray) (w : World) (hC : Kd.C k52 w A l.length l) (hk : SB w kb key) (hl : l.length ≤ 4611686018427387904) :
    Calls Tryd.prog 53 #[.slice A l.length c, .func (.func 54) #[] #[.pointer (some ⟨kb, 0, none⟩)]] w fun e w' => (∃ r : Int, e = .returned (.int .i64 r) ∧ IdxAt key l r) ∧ Below w.heap.size w w' := by
  have hu52 := Tryd.underlying52
  have HC := Aside0.mk hC
  have HK := Aside0.mk hk
  clear hC hk
  go_enter Tryd.func53, Tryd.ntmps53
  go_wp2
  go_loopw [8] (fun v8 wr => ∃ k : Nat, k ≤ l.length ∧ v8 = .int .i64 k ∧ Aside0 (∀ j : Nat, j < k → (rd_T52 l j).f0 ≠ key) ∧ Aside0 (Below w.heap.size w wr)) (fun v8 _ => l.length - (intOf v8).toNat)
  case atStart => exact ⟨0, Nat.zero_le _, rfl, ⟨fun j hj => by omega⟩, ⟨Below.refl _ _⟩⟩
  case round =>
    obtain ⟨k, hk, rfl, hJ, hB⟩ := hrel
    by_cases hlt : k < l.length
    · have hltd : decide ((k : Int) < (l.length : Int)) = true := decide_eq_true (by omega)
      have hK2 := HK.out.below hB.out
      obtain ⟨ad, hA, h0, h1, h2, h3⟩ := at_T52 (Kd.C_below HC.out hB.out) (k : Int) (by omega) (by omega)
      subst hA
      simp only [Int.toNat_natCast] at h0 h1 h2 h3
      have p1 : (0 ≤ (k : Int)) = True := eq_true (by omega)
      have p2 : ((k : Int) < (l.length : Int)) = True := eq_true (by omega)
      have hcall := same_key (rd_T52 l k) kb key wr hK2
      rw [str_eq] at hcall
      by_cases hm : (rd_T52 l k).f0 = key
      · rw [decide_eq_true hm] at hcall
        have hI : Aside0 (IdxAt key l (k : Int)) := ⟨Or.inl ⟨k, rfl, hlt, hm, hJ.out⟩⟩
        clear hm hJ
        generalize hq : rd_T52 l k = q at *
        clear hq
        go_wp2_with (first | (go_at_call 54; refine hcall.mono ?_; rintro e w' ⟨rfl, hb⟩))
        go_ret
        exact ⟨⟨_, rfl, hI.out⟩, hB.out.trans (hb.mono hB.out.size)⟩
      · rw [decide_eq_false hm] at hcall
        have hI : Aside0 (∀ j : Nat, j < k + 1 → (rd_T52 l j).f0 ≠ key) := ⟨fun j hj => by
          by_cases h : j < k
          · exact hJ.out j h
          · obtain rfl : j = k := by omega
            exact hm⟩
        clear hm hJ
        generalize hq : rd_T52 l k = q at *
        clear hq
        go_wp2_with (first | (go_at_call 54; refine hcall.mono ?_; rintro e w' ⟨rfl, hb⟩))
        go_roundw
        case rel => exact ⟨k + 1, by omega, by go_num, hI, ⟨hB.out.trans (hb.mono hB.out.size)⟩⟩
        case measure => simp [intOf]; omega
    · obtain rfl : k = l.length := by omega
      have hltd : decide ((l.length : Int) < (l.length : Int)) = false := decide_eq_false (by omega)
      have hI : Aside0 (IdxAt key l (-1)) := ⟨Or.inr ⟨rfl, hJ.out⟩⟩
      clear hJ
      go_wp2
      go_ret
      exact ⟨⟨_, rfl, hI.out⟩, hB.out⟩
/-- The parameters that a text begins with. -/
def withP (key : ByteArray) (l : List S52) (p : S52) : List S52 :=
  match l.findIdx? (fun q => decide (q.f0 = key)) with | some i => l.set i p | none => l ++ [p]
def pF : Nat → ByteArray → List S52 → Option (List S52 × ByteArray)
  | 0, _, _ => none
  | d + 1, s, l => if atF s 59 = true then
      (rdKey (drpB spP (tl s))).bind fun kr =>
        if atF kr.2 61 = true then (rdValue (tl kr.2)).bind fun vr => pF d vr.2 (withP kr.1 l ⟨kr.1, vr.1.1, vr.1.2.1, vr.1.2.2⟩)
        else pF d kr.2 (withP kr.1 l ⟨kr.1, 6, 1, ⟨#[]⟩⟩)
    else some (l, s)
def rdParams (s : ByteArray) : Option (List S52 × ByteArray) := pF (s.size + 1) s []
theorem withP_len (key : ByteArray) (l : List S52) (p : S52) : (withP key l p).length ≤ l.length + 1 := by
  unfold withP
  split
  · rw [List.length_set]; omega
  · simp
theorem rd_get (l : List S52) (j : Nat) (h : j < l.length) : rd_T52 l j = l[j] := by
  unfold rd_T52
  simp [List.getD_eq_getElem?_getD, List.getElem?_eq_getElem h]
theorem withP_at (key : ByteArray) (l : List S52) (p : S52) (i : Nat) (hi : i < l.length) (h1 : (rd_T52 l i).f0 = key) (h2 : ∀ j : Nat, j < i → (rd_T52 l j).f0 ≠ key) : withP key l p = l.set i p := by
  have : l.findIdx? (fun q => decide (q.f0 = key)) = some i := by
    rw [List.findIdx?_eq_some_iff_getElem]
    refine ⟨hi, by rw [rd_get l i hi] at h1; exact decide_eq_true h1, fun j hj => ?_⟩
    have := h2 j hj
    rw [rd_get l j (by omega)] at this
    simpa using this
  unfold withP; rw [this]
theorem withP_none (key : ByteArray) (l : List S52) (p : S52) (h : ∀ j : Nat, j < l.length → (rd_T52 l j).f0 ≠ key) : withP key l p = l ++ [p] := by
  have : l.findIdx? (fun q => decide (q.f0 = key)) = none := by
    rw [List.findIdx?_eq_none_iff]
    intro x hx
    obtain ⟨j, hj, rfl⟩ := List.getElem_of_mem hx
    have := h j hj
    rw [rd_get l j hj] at this
    simpa using this
  unfold withP; rw [this]
theorem key_rest {s : ByteArray} {k t : ByteArray} (h : rdKey s = some (k, t)) : t.size ≤ s.size := by
  unfold rdKey at h
  by_cases c : 0 < s.size ∧ (smP (bt s 0) = true ∨ bt s 0 = 42)
  · rw [if_pos c] at h
    have := (Prod.mk.inj (Option.some.inj h)).2
    rw [← this]; exact drp_size _ _
  · rw [if_neg c] at h; cases h
theorem some_rest {α : Type} {a v : α} {b t : ByteArray} {n : Nat} (h : some (a, b) = some (v, t)) (hb : b.size ≤ n) : t.size ≤ n := by
  have := (Prod.mk.inj (Option.some.inj h)).2
  rw [← this]; exact hb
theorem none_rest {α : Type} {v : α} {t : ByteArray} {P : Prop} (h : (none : Option (α × ByteArray)) = some (v, t)) : P := nomatch h
theorem number_rest {s : ByteArray} {v : Int × Int × ByteArray} {t : ByteArray} (h : rdNumber s = some (v, t)) : t.size ≤ s.size := by
  rw [rdNumber_eq] at h
  have h1 := atR_size s 45
  have h2 := drp_size dgP (atR s 45)
  have h3 := tl_size (drpB dgP (atR s 45))
  have h4 := drp_size dgP (tl (drpB dgP (atR s 45)))
  by_cases c1 : (takB dgP (atR s 45)).size = 0
  · rw [if_pos c1] at h; exact none_rest h
  · rw [if_neg c1] at h
    by_cases c2 : atF (drpB dgP (atR s 45)) 46 = true
    · rw [if_pos c2] at h
      by_cases c3 : (takB dgP (atR s 45)).size > 12 ∨ (takB dgP (tl (drpB dgP (atR s 45)))).size = 0 ∨ (takB dgP (tl (drpB dgP (atR s 45)))).size > 3
      · rw [if_pos c3] at h; exact none_rest h
      · rw [if_neg c3] at h; exact some_rest h (by omega)
    · rw [if_neg c2] at h
      by_cases c4 : (takB dgP (atR s 45)).size > 15
      · rw [if_pos c4] at h; exact none_rest h
      · rw [if_neg c4] at h; exact some_rest h (by omega)
theorem qF_rest : ∀ (d : Nat) (s : ByteArray) (xs : List Int) (o t : ByteArray), qF d s xs = some (o, t) → t.size ≤ s.size
  | 0, _, _, _, _, h => by rw [qF] at h; exact none_rest h
  | d + 1, s, xs, o, t, h => by
    have ih := qF_rest d
    rw [qF] at h
    have h1 := tl_size s
    have h2 := tl_size (tl s)
    by_cases c1 : 0 < s.size
    · rw [if_pos c1] at h
      by_cases c2 : bt s 0 = 34
      · rw [if_pos c2] at h; exact some_rest h h1
      · rw [if_neg c2] at h
        by_cases c3 : bt s 0 < 32 ∨ 126 < bt s 0 ∨ (bt s 0 = 92 ∧ ¬ (0 < (tl s).size ∧ wiP (bt (tl s) 0) ⟨#[34, 92]⟩ = true))
        · rw [if_pos c3] at h; exact none_rest h
        · rw [if_neg c3] at h
          by_cases c4 : bt s 0 = 92
          · rw [if_pos c4] at h; exact Nat.le_trans (ih _ _ _ _ h) (Nat.le_trans h2 h1)
          · rw [if_neg c4] at h; exact Nat.le_trans (ih _ _ _ _ h) h1
    · rw [if_neg c1] at h; exact none_rest h
theorem quoted_rest {s : ByteArray} {v : Int × Int × ByteArray} {t : ByteArray} (h : rdQuoted s = some (v, t)) : t.size ≤ s.size := by
  unfold rdQuoted at h
  obtain ⟨p, hp, he⟩ := Option.map_eq_some_iff.1 h
  have := (Prod.mk.inj he).2
  rw [← this]
  exact qF_rest _ _ _ p.1 p.2 hp
theorem value_rest {s : ByteArray} {v : Int × Int × ByteArray} {t : ByteArray} (h : rdValue s = some (v, t)) : t.size ≤ s.size := by
  have h1 := tl_size s
  unfold rdValue at h
  by_cases c0 : 0 < s.size
  · rw [if_pos c0] at h
    by_cases c1 : bt s 0 = 45 ∨ dgP (bt s 0) = true
    · rw [if_pos c1] at h; exact number_rest h
    · rw [if_neg c1] at h
      by_cases c2 : leP (bt s 0) = true ∨ bt s 0 = 42
      · rw [if_pos c2] at h; exact some_rest h (drp_size _ _)
      · rw [if_neg c2] at h
        by_cases c3 : bt s 0 = 34
        · rw [if_pos c3] at h; exact Nat.le_trans (quoted_rest h) h1
        · rw [if_neg c3] at h
          by_cases c4 : bt s 0 = 58
          · rw [if_pos c4] at h
            unfold rdBytes at h
            by_cases c5 : atF (drpB baP (tl s)) 58 = true
            · rw [if_pos c5] at h; exact some_rest h (Nat.le_trans (tl_size _) (Nat.le_trans (drp_size _ _) h1))
            · rw [if_neg c5] at h; exact none_rest h
          · rw [if_neg c4] at h
            by_cases c6 : bt s 0 = 63
            · rw [if_pos c6] at h
              unfold rdBool at h
              by_cases c7 : atF (tl s) 49 = true
              · rw [if_pos c7] at h; exact some_rest h (Nat.le_trans (tl_size _) h1)
              · rw [if_neg c7] at h
                by_cases c8 : atF (tl s) 48 = true
                · rw [if_pos c8] at h; exact some_rest h (Nat.le_trans (tl_size _) h1)
                · rw [if_neg c8] at h; exact none_rest h
            · rw [if_neg c6] at h; exact none_rest h
  · rw [if_neg c0] at h; exact none_rest h
theorem R_kb {W W' : World} {B g : Nat} {ok : Nat → Prop} {v : Value} {l : List S52} (h : Kd.R k52 52 W B ok v l) (hk : KB g W W') (hok : ∀ k, ok k → k ≠ g) : Kd.R k52 52 W' B ok v l := Kd.R_step h (fun k ho hl => hk.block k hl (hok k ho))
theorem SB.far {W : World} {b : Nat} {s : ByteArray} (h : SB W b s) {p : Addr} (hp : b ≠ p.block) (u : Value) : SB (W.setCell p u) b s := blk_far h hp u
theorem SB.put {W : World} {b c : Nat} {s : ByteArray} (h : SB W b s) (hc : b ≠ c) (k : ByteArray) (n i : Int) (t : ByteArray) : SB (putP W c k n i t) b s :=
  (((h.far (p := ⟨c, 0, none⟩) hc _).far (p := ⟨c, 1, none⟩) hc _).far (p := ⟨c, 2, none⟩) hc _).far (p := ⟨c, 3, none⟩) hc _
theorem R_put {W : World} {B b : Nat} {ok : Nat → Prop} {v : Value} {l : List S52} (h : Kd.R k52 52 W B ok v l) (hok : ∀ k, ok k → k ≠ b) (k : ByteArray) (n i : Int) (t : ByteArray) : Kd.R k52 52 (putP W b k n i t) B ok v l :=
  Kd.R_far (p := ⟨b, 3, none⟩) (Kd.R_far (p := ⟨b, 2, none⟩) (Kd.R_far (p := ⟨b, 1, none⟩) (Kd.R_far (p := ⟨b, 0, none⟩) h hok _) hok _) hok _) hok _
theorem R_block {W : World} {B : Nat} {ok : Nat → Prop} {A : Option Addr} {c : Nat} {l : List S52} (h : Kd.R k52 52 W B ok (.slice A l.length c) l) (hl : 0 < l.length) : ∃ gl, A = some ⟨gl, 0, none⟩ := by
  obtain ⟨inner, ho⟩ := Kd.R_own h
  rcases ho.2 with ⟨he, h0⟩ | ⟨g, cap, cur, he, _⟩
  · omega
  · injection he with h1 h2 h3
    exact ⟨g, h1⟩
/-- What params gives. -/
def GivesL (g : Nat) (w : World) (r : Option (List S52 × ByteArray)) (e : Ending) (w' : World) : Prop :=
  (match r with | some (l, t) => ∃ v : Value, e = .returned v ∧ Kd.R k52 52 w' w.heap.size (fun _ => True) v l ∧ Rd w' g t | none => e = gave) ∧ KB g w w'
theorem GivesL.dead {g : Nat} {w w' : World} {r : Option (List S52 × ByteArray)} (h : r = none) (hk : KB g w w') : GivesL g w r gave w' := by subst h; exact ⟨rfl, hk⟩
theorem GivesL.ok {g : Nat} {w w' : World} {r : Option (List S52 × ByteArray)} {l : List S52} {t : ByteArray} {v : Value} {e : Ending} (h : r = some (l, t)) (he : e = .returned v) (hR : Kd.R k52 52 w' w.heap.size (fun _ => True) v l) (hD : Rd w' g t) (hk : KB g w w') : GivesL g w r e w' := by subst h; exact ⟨⟨v, he, hR, hD⟩, hk⟩
theorem while_space (g : Nat) (s : ByteArray) (w : World) (hs : s.size ≤ 9223372036854775806) (hI : Rd w g s) :
    Calls Tryd.prog 46 #[.pointer (some ⟨g, 0, none⟩), .func (.func 51) #[] #[]] w fun e w' => e = .returned (.string (takB spP s)) ∧ Rd w' g (drpB spP s) ∧ KB g w w' := while_calls 51 spP asks_space (Go.Proofs.enters_of Tryd.func51 (by kernel_rfl) rfl) g s w hs hI
set_option maxHeartbeats 8000000 in
set_option maxRecDepth 100000 in
theorem params_calls (g : Nat) (s : ByteArray) (w : World) (hs : s.size ≤ 2199023255552) (hI : Rd w g s) :
    Calls Tryd.prog 30 #[.pointer (some ⟨g, 0, none⟩)] w fun e w' => GivesL g w (rdParams s) e w' := by
  have hmf : ∀ (fn : Fn) (first cap : Array Value) (w : World), (Instr.makeFunc fn first cap).run Tryd.prog w = .ok (.func fn first cap) w := fun _ _ _ _ => rfl
  have hu52 := Tryd.underlying52
  have hI1 := Aside0.mk hI
  clear hI
  go_enter Tryd.func30, Tryd.ntmps30
  go_wp2
  go_loopg [2, 4, 5, 6] (s.size + 1) (fun gf v2 v4 v5 v6 wx => ∃ (t : ByteArray) (l : List S52), Aside0 (Kd.R k52 52 wx w.heap.size (fun _ => True) v2 l) ∧ Aside0 (Rd wx g t) ∧ Aside0 (KB g w wx) ∧ Aside0 (rdParams s = pF gf t l) ∧ t.size < gf ∧ l.length + t.size ≤ s.size)
  case atStart => exact ⟨s, [], ⟨Kd.R_nil _ _ _ _ _⟩, hI1, ⟨KB.refl _ _⟩, ⟨rfl⟩, by omega, by simp⟩
  case round =>
    have hgw : g < w.heap.size := hI1.out.lt
    clear hI1
    obtain ⟨t, l, HR, HD, HK, HQ, hlt, hln⟩ := hrel
    obtain ⟨g', rfl⟩ : ∃ g', gk = g' + 1 := ⟨gk - 1, by omega⟩
    have hq : rdParams s = pF (g' + 1) t l := HQ.out
    clear HQ
    rw [pF] at hq
    cases h59 : atF t 59 with
    | false =>
      rw [if_neg (by rw [h59]; decide)] at hq
      have HG := Aside0.mk hq
      have hA := Aside0.mk (at_no g t 59 h59)
      clear hq h59
      go_wp2_with (first | (go_at_call 48; refine (hA.out _ HD.out).mono ?_; rintro e w2 ⟨rfl, hR2, hB2⟩))
      go_ret
      exact GivesL.ok HG.out rfl (Kd.R_mono (R_kb (Kd.R_types HR.out HD.out (by decide)) hB2 (fun _ hk => hk.2)) (fun _ _ => trivial)) hR2 (HK.out.trans hB2)
    | true =>
      rw [if_pos h59] at hq
      have h0 : 0 < t.size := (of_decide_eq_true h59).1
      have htl := tl_lt t h0
      have hA := Aside0.mk (at_yes g t 59 h59)
      have hz1 := drp_size spP (tl t)
      have hWs := Aside0.mk (fun W (h : Rd W g (tl t)) => while_space g (tl t) W (by omega) h)
      have hKc := fun W (h : Rd W g (drpB spP (tl t))) => key_calls g (drpB spP (tl t)) W (by omega) h
      cases hN : rdKey (drpB spP (tl t)) with
      | none =>
        rw [hN] at hq hKc
        have HG : Aside0 (rdParams s = none) := ⟨hq⟩
        have hKy := Aside0.mk hKc
        clear hq hKc hN h59
        go_wp2_with (first | (go_at_call 52; refine (hKy.out _ hR3).mono ?_; rintro e w4 ⟨rfl, hB4⟩) | (go_at_call 46; refine (hWs.out _ hR2).mono ?_; rintro e w3 ⟨rfl, hR3, hB3⟩) | (go_at_call 48; refine (hA.out _ HD.out).mono ?_; rintro e w2 ⟨rfl, hR2, hB2⟩))
        exact ⟨rfl, GivesL.dead HG.out (((HK.out.trans hB2).trans hB3).trans hB4)⟩
      | some kr =>
        obtain ⟨key, t2⟩ := kr
        have hz2 := key_rest hN
        rw [hN] at hq hKc
        have hq2 : rdParams s = if atF t2 61 = true then (rdValue (tl t2)).bind fun vr => pF g' vr.2 (withP key l ⟨key, vr.1.1, vr.1.2.1, vr.1.2.2⟩) else pF g' t2 (withP key l ⟨key, 6, 1, ⟨#[]⟩⟩) := hq
        have HQ := Aside0.mk hq2
        have hKy := Aside0.mk hKc
        clear hq hKc hN h59 hq2
        go_upto_region 6 with (first | (go_at_call 52; refine (hKy.out _ hR3).mono ?_; rintro e w4 ⟨⟨rfl, hR4⟩, hB4⟩) | (go_at_call 46; refine (hWs.out _ hR2).mono ?_; rintro e w3 ⟨rfl, hR3, hB3⟩) | (go_at_call 48; refine (hA.out _ HD.out).mono ?_; rintro e w2 ⟨rfl, hR2, hB2⟩))
        have hkb : w.heap.size ≤ w4.heap.size := ((((HK.out.trans hB2).trans hB3).trans hB4)).size
        have HR4 : Kd.R k52 52 w4 w.heap.size (fun k => k < w4.heap.size ∧ k ≠ g) u2 l :=
          Kd.R_mono (Kd.R_bound (R_kb (R_kb (R_kb (Kd.R_types HR.out HD.out (by decide)) hB2 (fun _ hk => hk.2)) hB3 (fun _ hk => hk.2)) hB4 (fun _ hk => hk.2))) (fun _ hk => ⟨hk.2.2.1, hk.1.2⟩)
        have HR5 := Aside0.mk (Kd.R_alloc (Kd.R_alloc HR4 (.cells #[.string key] 9)) (.cells #[.string ⟨#[]⟩, .int .i64 6, .int .i64 1, .string ⟨#[]⟩] 52))
        have HD5 := Aside0.mk ((hR4.alloc (.cells #[.string key] 9)).alloc (.cells #[.string ⟨#[]⟩, .int .i64 6, .int .i64 1, .string ⟨#[]⟩] 52))
        have HS5 : Aside0 (SB ((w4.alloc (.cells #[.string key] 9)).alloc (.cells #[.string ⟨#[]⟩, .int .i64 6, .int .i64 1, .string ⟨#[]⟩] 52)) w4.heap.size key) := ⟨blk_alloc (by have := blk_new w4 (.cells #[.string key] 9); simpa using this) _⟩
        have HP5 : Aside0 (PB ((w4.alloc (.cells #[.string key] 9)).alloc (.cells #[.string ⟨#[]⟩, .int .i64 6, .int .i64 1, .string ⟨#[]⟩] 52)) (w4.heap.size + 1) ⟨#[]⟩ 6 1 ⟨#[]⟩) := ⟨by
          have := PB.mk_new (w4.alloc (.cells #[.string key] 9)) 6 1 ⟨#[]⟩
          simpa using this⟩
        have HK5 := Aside0.mk (((((HK.out.trans hB2).trans hB3).trans hB4).alloc (.cells #[.string key] 9)).alloc (.cells #[.string ⟨#[]⟩, .int .i64 6, .int .i64 1, .string ⟨#[]⟩] 52))
        clear hB2 hB3 hB4 hR2 hR3 hR4 HR4 HR HD HK hA hWs hKy
        generalize (w4.alloc (.cells #[.string key] 9)).alloc (.cells #[.string ⟨#[]⟩, .int .i64 6, .int .i64 1, .string ⟨#[]⟩] 52) = w5 at *
        generalize w4.heap.size = kb at *
        have hgk : kb ≠ g := by omega
        have hgk1 : kb + 1 ≠ g := by omega
        have hA6 := Aside0.mk (fun W (h : Rd W g t2) => at_calls g t2 61 W h)
        go_upto_if 17 with (first | (go_at_call 48; refine (hA6.out _ HD5.out).mono ?_; rintro e w6 ⟨rfl, hR6, hB6⟩))
        have HR6 := Aside0.mk (R_kb HR5.out hB6 (fun _ hk => hk.2))
        have HS6 : Aside0 (SB w6 kb key) := ⟨hB6.blk HS5.out hgk⟩
        have HP6 := Aside0.mk (HP5.out.kb hB6 hgk1)
        have HK6 := Aside0.mk (HK5.out.trans hB6)
        have HD6 := Aside0.mk hR6
        clear hB6 hR6 HR5 HD5 HS5 HP5 HK5 hA6
        go_cut [] (fun wc => ∃ (kd iv : Int) (tx t3 : ByteArray), Aside0 (Rd wc g t3) ∧ Aside0 (SB wc kb key) ∧ Aside0 (PB wc (kb + 1) ⟨#[]⟩ kd iv tx) ∧ Aside0 (Kd.R k52 52 wc w.heap.size (fun k => k < kb ∧ k ≠ g) u2 l) ∧ Aside0 (KB g w wc) ∧ Aside0 (rdParams s = pF g' t3 (withP key l ⟨key, kd, iv, tx⟩)) ∧ t3.size ≤ t2.size)
        case first =>
          cases h61 : atF t2 61 with
          | false =>
            have hq := HQ.out
            rw [if_neg (by rw [h61]; decide)] at hq
            have HG := Aside0.mk hq
            have er : atR t2 61 = t2 := if_neg (by rw [h61]; decide)
            rw [er] at HD6
            clear HQ hq
            go_wp2
            go_meet
            case rel => exact ⟨6, 1, _, t2, HD6, HS6, HP6, HR6, HK6, HG, Nat.le_refl _⟩
          | true =>
            have hq := HQ.out
            rw [if_pos h61] at hq
            have er : atR t2 61 = tl t2 := if_pos h61
            rw [er] at HD6
            have hzt := tl_size t2
            have hVc := fun W (h : Rd W g (tl t2)) => value_calls g (tl t2) W (by omega) h
            cases hN : rdValue (tl t2) with
            | none =>
              rw [hN] at hq hVc
              have HG : Aside0 (rdParams s = none) := ⟨hq⟩
              have hVa := Aside0.mk hVc
              clear HQ hq hVc hN
              go_wp2_with (first | (go_at_call 29; refine (hVa.out _ HD6.out).mono ?_; rintro e w7 ⟨rfl, hB7⟩))
              exact ⟨rfl, GivesL.dead HG.out (HK6.out.trans hB7)⟩
            | some vr =>
              obtain ⟨⟨kd, iv, tx⟩, t3⟩ := vr
              have hz3 := value_rest hN
              rw [hN] at hq hVc
              have hq2 : rdParams s = pF g' t3 (withP key l ⟨key, kd, iv, tx⟩) := hq
              have HG := Aside0.mk hq2
              have hVa := Aside0.mk hVc
              clear HQ hq hVc hN hq2
              go_wp2_with (first | (go_at_call 29; refine ((hVa.out _ HD6.out).mono (fun e w' h => gp h)).mono ?_; rintro e w7 ⟨⟨rfl, hR7⟩, hB7⟩; have hP7 := HP6.out.kb hB7 hgk1; have hp0 := hP7.c0; have hp1 := hP7.c1; have hp2 := hP7.c2; have hp3 := hP7.c3; have hf0 := hP7.fr 0; have hf1 := hP7.fr 1; have hf2 := hP7.fr 2; have hf3 := hP7.fr 3))
              go_meet
              case rel => exact ⟨kd, iv, tx, t3, ⟨hR7.put (fun e => hgk1 e.symm) _ _ _ _⟩, ⟨SB.put (hB7.blk HS6.out hgk) (by omega) _ _ _ _⟩, ⟨hP7.put _ _ _ _⟩, ⟨R_put (R_kb HR6.out hB7 (fun _ hk => hk.2)) (fun k hk => by omega) _ _ _ _⟩, ⟨(HK6.out.trans hB7).put (by omega) _ _ _ _⟩, HG, by omega⟩
        case rest =>
          clear HQ HR6 HS6 HP6 HK6 HD6
          obtain ⟨kd, iv, tx, t3, HD7, HS7, HP7, HR7, HK7, HG, hz3⟩ := hcut
          obtain ⟨A, c, hv⟩ := Kd.R_slice HR7.out
          subst hv
          have hf0 := HP7.out.fr 0
          have hc0 := HP7.out.c0
          have hs0 := HS7.out.cell
          have HP8 : Aside0 (PB (wc.setCell ⟨kb + 1, 0, none⟩ (.string key)) (kb + 1) key kd iv tx) := ⟨by have := blk_set HP7.out 0 (.string key); simpa [PB] using this⟩
          have HS8 := Aside0.mk (HS7.out.far (p := ⟨kb + 1, 0, none⟩) (by simp) (.string key))
          have HD8 := Aside0.mk (HD7.out.far (p := ⟨kb + 1, 0, none⟩) (fun e => hgk1 e.symm) (.string key))
          have HR8 := Aside0.mk (Kd.R_far (p := ⟨kb + 1, 0, none⟩) HR7.out (fun k hk => by simp only; omega) (.string key))
          have HK8 := Aside0.mk (HK7.out.far (p := ⟨kb + 1, 0, none⟩) (by simp only; omega) (.string key))
          have hIx := Aside0.mk (index_calls A c l kb key _ (Kd.R_reads' HR8.out).2.2 HS8.out (by omega))
          clear HD7 HS7 HP7 HR7 HK7
          go_upto_region 10 with (first | (go_at_call 53; refine hIx.out.mono ?_; rintro e w9 ⟨⟨r, rfl, hAt⟩, hb9⟩))
          have HP9 : Aside0 (PB w9 (kb + 1) key kd iv tx) := ⟨blk_below HP8.out hb9⟩
          have HD9 : Aside0 (Rd w9 g t3) := ⟨blk_below HD8.out hb9⟩
          have HR9 := Aside0.mk (Kd.R_below HR8.out hb9)
          have HK9 := Aside0.mk (HK8.out.below hb9)
          clear hf0 hc0 hs0 HP8 HS8 HD8 HR8 HK8 hIx hb9
          have hc0 := HP9.out.c0
          have hc1 := HP9.out.c1
          have hc2 := HP9.out.c2
          have hc3 := HP9.out.c3
          rcases hAt with ⟨i, rfl, hi, hm, hn⟩ | ⟨rfl, hn⟩
          · have HE := Aside0.mk (HG.out.trans (by rw [withP_at key l _ i hi hm hn]))
            clear HG hm hn
            have hd : decide (0 ≤ (i : Int)) = true := decide_eq_true (by omega)
            have p1 : (0 ≤ (i : Int)) = True := eq_true (by omega)
            have p2 : ((i : Int) < (l.length : Int)) = True := eq_true (by omega)
            obtain ⟨gl, rfl⟩ := R_block HR9.out (by omega)
            have hne2 : gl ≠ g := by
              have := (HR9.out.1 gl (by simp [Value.ownBlock])).2
              exact this
            have hcc : ∀ (j : Nat) (u : Value), ([.string (rd_T52 l i).f0, .int .i64 (rd_T52 l i).f1, .int .i64 (rd_T52 l i).f2, .string (rd_T52 l i).f3] : List Value)[j]? = some u → w9.cell? ⟨gl, (i : Int).toNat * 4 + j, none⟩ = some u := by
              obtain ⟨ad, hA, h0, h1, h2, h3⟩ := at_T52 (Kd.R_reads' HR9.out).2.2 (i : Int) (by omega) (by omega)
              injection hA with hA
              subst hA
              have ea : (⟨gl, 0, none⟩ : Addr).add ((i : Int).toNat * 4) = ⟨gl, (i : Int).toNat * 4, none⟩ := by simp [Addr.add]; omega
              rw [ea] at h0 h1 h2 h3
              intro j u hj
              rcases j with _ | _ | _ | _ | j
              · simp at hj; subst hj; exact h0
              · simp at hj; subst hj; exact h1
              · simp at hj; subst hj; exact h2
              · simp at hj; subst hj; exact h3
              · simp at hj
            have HCC := Aside0.mk hcc
            clear hcc
            go_wp2_with (first | ((with_reducible refine gate_ (.store 52 (.tmp 30) (.tmp 29)) rfl ?_); refine Kd.R_store k52 (w0 := w9) (W := w9) w.heap.size rfl rfl 52 (.tmp 30) (.tmp 29) rfl 52 (g := gl) (i : Int) 0 l ⟨key, kd, iv, tx⟩ (.agg #[.string key, .int .i64 kd, .int .i64 iv, .string tx]) [.string key, .int .i64 kd, .int .i64 iv, .string tx] _ (fun k => k < kb ∧ k ≠ g) (fun _ => False) rfl ?hoff rfl rfl (by kernel_rfl) ?h1 HR9.out (by omega) (by omega) rfl HCC.out (Nat.le_refl _) (k52_mkM _ _ _ ⟨key, kd, iv, tx⟩) (fun _ hk => hk.elim) (Below.refl _ _) ?_; (case hoff => simp [k52, Kd.iso, Kd.pair, Kd.string, Kd.int, Kd.scalar]); (case h1 => simp [Value.oneCell']); intro w1 ho1 hb1 hg1; have hR1 : Rd w1 g t3 := blk_grown HD9.out hg1 (by simp only [ne_eq, Option.some.injEq]; exact fun e => hne2 e.symm); have hK1 := HK9.out.belowB hb1 (Nat.le_refl _); have HO1 := Aside0.mk (Kd.R_mono (ok' := fun _ => True) ho1 (fun _ _ => trivial)); have HR1 := Aside0.mk hR1; have HK1 := Aside0.mk hK1; clear ho1 hb1 hg1 hR1 hK1))
            go_roundg g'
            case measure => omega
            case rel => exact ⟨t3, l.set i ⟨key, kd, iv, tx⟩, by simpa using HO1, HR1, HK1, HE, by omega, by rw [List.length_set]; omega⟩
          · have HE := Aside0.mk (HG.out.trans (by rw [withP_none key l _ hn]))
            clear HG hn
            go_wp2_with (first | ((with_reducible refine gate_builtin (b := .append) (xs := #[.tmp 31, .tmp 33]) rfl ?_); at_builtin; refine Kd.R_append k52 (w0 := w9) w.heap.size rfl (.tmp 31) (.tmp 33) 45 52 (.agg #[.string ⟨#[]⟩, .int .i64 0, .int .i64 0, .string ⟨#[]⟩]) 48 rfl Tryd.underlying45 (by kernel_rfl) rfl (by decide) (by omega) (.slice A l.length c) l ⟨key, kd, iv, tx⟩ [.string key, .int .i64 kd, .int .i64 iv, .string tx] (fun _ => True) (fun _ => False) rfl rfl ?aP (fun _ hk => hk.elim) ?aF ?aO ?aB ?aS ?aL ?_; (case aP => exact k52_mkM _ _ _ ⟨key, kd, iv, tx⟩); (case aF => exact (fun _ _ => trivial)); (case aO => exact Kd.R_mono HR9.out (fun _ _ => trivial)); (case aB => exact Below.refl _ _); (case aS => exact HK9.out.size); (case aL => omega); intro v1 w1 ho1 hb1 hg1 hat1; have hR1 : Rd w1 g t3 := blk_grown HD9.out hg1 (Kd.R_ne HR9.out HD9.out (by decide)); have hK1 := HK9.out.belowB hb1 (Nat.le_refl _); have HO1 := Aside0.mk ho1; have HR1 := Aside0.mk hR1; have HK1 := Aside0.mk hK1; clear ho1 hb1 hg1 hat1 hR1 hK1))
            go_roundg g'
            case measure => omega
            case rel => exact ⟨t3, l ++ [⟨key, kd, iv, tx⟩], HO1, HR1, HK1, HE, by omega, by simp only [List.length_append, List.length_cons, List.length_nil]; omega⟩
set_option maxRecDepth 100000 in
theorem caught_some (w : World) : Calls Tryd.prog 28 #[.iface 48 (.int .i64 50)] w fun e w' => e = .returned (.int .i64 50) ∧ w' = w := by
  have hta : ∀ w : World, (Instr.typeAssert (.iface 48 (.int .i64 50)) 20 48 true).run Tryd.prog w = .ok (.tuple #[.int .i64 50, .bool true]) w := fun w => by
    simp [Instr.typeAssert, run_underlying Tryd.underlying48, go_sem, Result.andThen]
  go_enter Tryd.func28, Tryd.ntmps28
  go_wp2
  go_ret
  exact ⟨rfl, rfl⟩
set_option maxRecDepth 100000 in
theorem caught_none (w : World) : Calls Tryd.prog 28 #[.nilIface] w fun e w' => e = .returned (.int .i64 0) ∧ w' = w := by
  have hta : ∀ w : World, (Instr.typeAssert .nilIface 20 48 true).run Tryd.prog w = .ok (.tuple #[.int .i64 0, .bool false]) w := fun w => by
    simp [Instr.typeAssert, run_underlying Tryd.underlying48, go_sem, Result.andThen, Tryd.zeroValue48]
  go_enter Tryd.func28, Tryd.ntmps28
  go_wp2
  go_ret
  exact ⟨rfl, rfl⟩
abbrev thrown (b : Bool) : PanicEntry := { v := .iface 48 (.int .i64 50), recovered := b }
/-- A block of an item. -/
def IB (W : World) (b : Nat) (n i : Int) (t : ByteArray) (v : Value) : Prop := W.heap[b]? = some (.cells #[.int .i64 n, .int .i64 i, .string t, v] 47 (0, 0))
theorem IB.c0 {W : World} {b : Nat} {n i : Int} {t : ByteArray} {v : Value} (h : IB W b n i t v) : W.cell? ⟨b, 0, none⟩ = some (.int .i64 n) := (blk_cell h 0).trans rfl
theorem IB.c1 {W : World} {b : Nat} {n i : Int} {t : ByteArray} {v : Value} (h : IB W b n i t v) : W.cell? ⟨b, 1, none⟩ = some (.int .i64 i) := (blk_cell h 1).trans rfl
theorem IB.c2 {W : World} {b : Nat} {n i : Int} {t : ByteArray} {v : Value} (h : IB W b n i t v) : W.cell? ⟨b, 2, none⟩ = some (.string t) := (blk_cell h 2).trans rfl
theorem IB.c3 {W : World} {b : Nat} {n i : Int} {t : ByteArray} {v : Value} (h : IB W b n i t v) : W.cell? ⟨b, 3, none⟩ = some v := (blk_cell h 3).trans rfl
theorem IB.fr {W : World} {b : Nat} {n i : Int} {t : ByteArray} {v : Value} (h : IB W b n i t v) (j : Nat) : W.frozen? ⟨b, j, none⟩ = false := blk_frozen h j
def putI (W : World) (b : Nat) (n i : Int) (t : ByteArray) (v : Value) : World := (((W.setCell ⟨b, 0, none⟩ (.int .i64 n)).setCell ⟨b, 1, none⟩ (.int .i64 i)).setCell ⟨b, 2, none⟩ (.string t)).setCell ⟨b, 3, none⟩ v
set_option maxRecDepth 100000 in
set_option maxHeartbeats 2000000 in
theorem next_catch_panicking (pe px pr : Nat) (s2 : ByteArray) (n i k : Int) (t : ByteArray) (v : Value) (w : World) (he : w.heap[pe]? = some (.cells #[.int .i64 n] 48 (0, 0))) (hx : IB w px k i t v) (hr : SB w pr s2) :
    CallsD Tryd.prog 27 #[.pointer (some ⟨pe, 0, none⟩), .pointer (some ⟨px, 0, none⟩), .pointer (some ⟨pr, 0, none⟩)] (.panicking [thrown false]) w fun e u' w' =>
      e = .returned (.tuple #[]) ∧ u' = .panicking [thrown true] ∧ w' = (putI (w.setCell ⟨pe, 0, none⟩ (.int .i64 50)) px 0 0 ⟨#[]⟩ (.slice none 0 0)).setCell ⟨pr, 0, none⟩ (.string ⟨#[]⟩) := by
  have hne1 : pe ≠ px := blk_ne he hx (by decide)
  have hne2 : pe ≠ pr := blk_ne he hr (by decide)
  have hne3 : px ≠ pr := blk_ne hx hr (by decide)
  have hc0 : w.cell? ⟨pe, 0, none⟩ = some (.int .i64 n) := (blk_cell he 0).trans rfl
  have hf0 := blk_frozen he 0
  have hx0 := hx.c0
  have hx1 := hx.c1
  have hx2 := hx.c2
  have hx3 := hx.c3
  have hxf0 := hx.fr 0
  have hxf1 := hx.fr 1
  have hxf2 := hx.fr 2
  have hxf3 := hx.fr 3
  have hc2 := hr.cell
  have hf2 := blk_frozen hr 0
  refine callsD_of_wpS Tryd.func27 rfl fun c₀ cs hu => ?_
  apply wpS_seq
  apply wpS_region
  simp [wpOpsS, go_sem, recoverD, hu, Tryd.ntmps27, Exit.thenS]
  refine (caught_some _).mono ?_
  rintro e w' ⟨rfl, rfl⟩
  simp [go_sem, hc0, hf0]
  refine wpS_of_wp ?_
  go_wp2
  simp [bodyPostS, results, Tryd.results27, putI]
set_option maxRecDepth 100000 in
set_option maxHeartbeats 2000000 in
theorem next_catch_idle (pe pk pr : Nat) (n : Int) (w : World) (he : w.heap[pe]? = some (.cells #[.int .i64 n] 48 (0, 0))) :
    CallsD Tryd.prog 27 #[.pointer (some ⟨pe, 0, none⟩), .pointer (some ⟨pk, 0, none⟩), .pointer (some ⟨pr, 0, none⟩)] .returning w fun e u' w' =>
      e = .returned (.tuple #[]) ∧ u' = .returning ∧ w' = w.setCell ⟨pe, 0, none⟩ (.int .i64 0) := by
  have hc0 : w.cell? ⟨pe, 0, none⟩ = some (.int .i64 n) := (blk_cell he 0).trans rfl
  have hf0 := blk_frozen he 0
  refine callsD_of_wpS Tryd.func27 rfl fun c₀ cs hu => ?_
  apply wpS_seq
  apply wpS_region
  simp [wpOpsS, go_sem, recoverD, hu, Tryd.ntmps27, Exit.thenS]
  refine (caught_none _).mono ?_
  rintro e w' ⟨rfl, rfl⟩
  simp [go_sem, hc0, hf0]
  refine wpS_of_wp ?_
  go_wp2
  cases c₀
  simp_all [bodyPostS, results, Tryd.results27]
/-- A block of an error's number. -/
def EB (W : World) (b : Nat) (n : Int) : Prop := W.heap[b]? = some (.cells #[.int .i64 n] 48 (0, 0))
theorem EB.cell {W : World} {b : Nat} {n : Int} (h : EB W b n) : W.cell? ⟨b, 0, none⟩ = some (.int .i64 n) := (blk_cell h 0).trans rfl
theorem SB.set {W : World} {b : Nat} {s : ByteArray} (h : SB W b s) (t : ByteArray) : SB (W.setCell ⟨b, 0, none⟩ (.string t)) b t := by have := blk_set h 0 (.string t); simpa [SB] using this
theorem EB.set {W : World} {b : Nat} {n : Int} (h : EB W b n) (m : Int) : EB (W.setCell ⟨b, 0, none⟩ (.int .i64 m)) b m := by have := blk_set h 0 (.int .i64 m); simpa [EB] using this
theorem EB.far {W : World} {b : Nat} {n : Int} (h : EB W b n) {p : Addr} (hp : b ≠ p.block) (u : Value) : EB (W.setCell p u) b n := blk_far h hp u
def rdNext (s : ByteArray) : Option ((Int × Int × ByteArray) × List S52 × ByteArray) := (rdValue s).bind fun v => (rdParams v.2).bind fun p => some (v.1, p.1, p.2)
theorem IB.kb {W W' : World} {b g : Nat} {n i : Int} {t : ByteArray} {v : Value} (h : IB W b n i t v) (hk : KB g W W') (hg : b ≠ g) : IB W' b n i t v := hk.blk h hg
theorem IB.put {W : World} {b : Nat} {n i : Int} {t : ByteArray} {v : Value} (h : IB W b n i t v) (n' i' : Int) (t' : ByteArray) (v' : Value) : IB (putI W b n' i' t' v') b n' i' t' v' := by
  have h1 := blk_set h 0 (.int .i64 n'); have h2 := blk_set h1 1 (.int .i64 i'); have h3 := blk_set h2 2 (.string t'); have h4 := blk_set h3 3 v'
  unfold putI IB
  simpa using h4
theorem IB.set3 {W : World} {b : Nat} {n i : Int} {t : ByteArray} {v : Value} (h : IB W b n i t v) (v' : Value) : IB (W.setCell ⟨b, 3, none⟩ v') b n i t v' := by have := blk_set h 3 v'; simpa [IB] using this
theorem IB.far {W : World} {b : Nat} {n i : Int} {t : ByteArray} {v : Value} (h : IB W b n i t v) {p : Addr} (hp : b ≠ p.block) (u : Value) : IB (W.setCell p u) b n i t v := blk_far h hp u
theorem blk_putI {W : World} {g b : Nat} {o : Obj} (h : W.heap[g]? = some o) (hg : g ≠ b) (n i : Int) (t : ByteArray) (v : Value) : (putI W b n i t v).heap[g]? = some o := by
  unfold putI
  rw [Below.heap_setCell _ ⟨b, 3, none⟩ _ _ hg, Below.heap_setCell _ ⟨b, 2, none⟩ _ _ hg, Below.heap_setCell _ ⟨b, 1, none⟩ _ _ hg, Below.heap_setCell _ ⟨b, 0, none⟩ _ _ hg]
  exact h
theorem below_putI {w W : World} {b : Nat} (h : Below w.heap.size w W) (hb : w.heap.size ≤ b) (n i : Int) (t : ByteArray) (v : Value) : Below w.heap.size w (putI W b n i t v) :=
  (((h.setCell (p := ⟨b, 0, none⟩) hb _).setCell (p := ⟨b, 1, none⟩) hb _).setCell (p := ⟨b, 2, none⟩) hb _).setCell (p := ⟨b, 3, none⟩) hb _
theorem R_putI {W : World} {B b : Nat} {ok : Nat → Prop} {v : Value} {l : List S52} (h : Kd.R k52 52 W B ok v l) (hok : ∀ k, ok k → k ≠ b) (n i : Int) (t : ByteArray) (u : Value) : Kd.R k52 52 (putI W b n i t u) B ok v l :=
  Kd.R_far (p := ⟨b, 3, none⟩) (Kd.R_far (p := ⟨b, 2, none⟩) (Kd.R_far (p := ⟨b, 1, none⟩) (Kd.R_far (p := ⟨b, 0, none⟩) h hok _) hok _) hok _) hok _
/-- Next's four blocks. -/
structure N4 (w W : World) (s : ByteArray) : Prop where
  item : IB W w.heap.size 0 0 ⟨#[]⟩ (.slice none 0 0)
  rest : SB W (w.heap.size + 1) ⟨#[]⟩
  err : EB W (w.heap.size + 1 + 1) 0
  rd : Rd W (w.heap.size + 1 + 1 + 1) s
  below : Below w.heap.size w W
theorem N4.new (w : World) (s : ByteArray) : N4 w ((((w.alloc (.cells #[.int .i64 0, .int .i64 0, .string ⟨#[]⟩, .slice none 0 0] 47)).alloc (.cells #[.string ⟨#[]⟩] 9)).alloc (.cells #[.int .i64 0] 48)).alloc (.cells #[.string s] 74)) s where
  item := blk_alloc (blk_alloc (blk_alloc (by have := blk_new w (.cells #[.int .i64 0, .int .i64 0, .string ⟨#[]⟩, .slice none 0 0] 47); simpa using this) _) _) _
  rest := blk_alloc (blk_alloc (by have := blk_new (w.alloc (.cells #[.int .i64 0, .int .i64 0, .string ⟨#[]⟩, .slice none 0 0] 47)) (.cells #[.string ⟨#[]⟩] 9); simpa using this) _) _
  err := blk_alloc (by have := blk_new ((w.alloc (.cells #[.int .i64 0, .int .i64 0, .string ⟨#[]⟩, .slice none 0 0] 47)).alloc (.cells #[.string ⟨#[]⟩] 9)) (.cells #[.int .i64 0] 48); simpa using this) _
  rd := by have := blk_new (((w.alloc (.cells #[.int .i64 0, .int .i64 0, .string ⟨#[]⟩, .slice none 0 0] 47)).alloc (.cells #[.string ⟨#[]⟩] 9)).alloc (.cells #[.int .i64 0] 48)) (.cells #[.string s] 74); simpa [Rd] using this
  below := ((((Below.refl _ _).alloc (Nat.le_refl _) _).alloc (by simp) _).alloc (by simp; omega) _).alloc (by simp; omega) _
/-- What Next's results read as. -/
theorem next_results (w : World) (tmps : Array Value) (W : World) (n i : Int) (t u : ByteArray) (v : Value) (c : Int) (h2 : tmps.getD 2 undef = .pointer (some ⟨w.heap.size, 0, none⟩)) (h3 : tmps.getD 3 undef = .pointer (some ⟨w.heap.size + 1, 0, none⟩)) (h4 : tmps.getD 4 undef = .pointer (some ⟨w.heap.size + 1 + 1, 0, none⟩))
    (hI : IB W w.heap.size n i t v) (hS : SB W (w.heap.size + 1) u) (hE : EB W (w.heap.size + 1 + 1) c) :
    (results Tryd.f21 tmps).run Tryd.prog W = .ok (.tuple #[.agg #[.int .i64 n, .int .i64 i, .string t, v], .string u, .int .i64 c]) W := by
  have c0 := hI.c0
  have c1 := hI.c1
  have c2 := hI.c2
  have c3 := hI.c3
  have c4 := hS.cell
  have c5 := hE.cell
  have h2' : tmps[2]?.getD undef = .pointer (some ⟨w.heap.size, 0, none⟩) := by simpa using h2
  have h3' : tmps[3]?.getD undef = .pointer (some ⟨w.heap.size + 1, 0, none⟩) := by simpa using h3
  have h4' : tmps[4]?.getD undef = .pointer (some ⟨w.heap.size + 1 + 1, 0, none⟩) := by simpa using h4
  simp [results, Tryd.results21, go_sem, h2', h3', h4', c0, c1, c2, c3, c4, c5]
def NextPost (s : ByteArray) (w : World) (e : Ending) (w' : World) : Prop :=
  (match rdNext s with
    | some (v, l, t) => ∃ u : Value, e = .returned (.tuple #[.agg #[.int .i64 v.1, .int .i64 v.2.1, .string v.2.2, u], .string t, .int .i64 0]) ∧ Kd.R k52 52 w' w.heap.size (fun _ => True) u l
    | none => e = .returned (.tuple #[.agg #[.int .i64 0, .int .i64 0, .string ⟨#[]⟩, .slice none 0 0], .string ⟨#[]⟩, .int .i64 50])) ∧ Below w.heap.size w w'
theorem NextPost.dead {s : ByteArray} {w w' : World} (h : rdNext s = none) (hb : Below w.heap.size w w') : NextPost s w (.returned (.tuple #[.agg #[.int .i64 0, .int .i64 0, .string ⟨#[]⟩, .slice none 0 0], .string ⟨#[]⟩, .int .i64 50])) w' := by
  refine ⟨?_, hb⟩
  rw [h]
theorem NextPost.ok {s : ByteArray} {w w' : World} {v : Int × Int × ByteArray} {l : List S52} {t : ByteArray} {u : Value} (h : rdNext s = some (v, l, t)) (hR : Kd.R k52 52 w' w.heap.size (fun _ => True) u l) (hb : Below w.heap.size w w') : NextPost s w (.returned (.tuple #[.agg #[.int .i64 v.1, .int .i64 v.2.1, .string v.2.2, u], .string t, .int .i64 0])) w' := by
  refine ⟨?_, hb⟩
  rw [h]
  exact ⟨u, rfl, hR⟩
set_option maxRecDepth 100000 in
set_option maxHeartbeats 8000000 in
theorem Next_calls (s : ByteArray) (w : World) (hs : s.size ≤ 2199023255552) :
    Calls Tryd.prog 21 #[.string s] w fun e w' => NextPost s w e w' := by
  have hmf : ∀ (fn : Fn) (first cap : Array Value) (w : World), (Instr.makeFunc fn first cap).run Tryd.prog w = .ok (.func fn first cap) w := fun _ _ _ _ => rfl
  have h4 := Aside0.mk (N4.new w s)
  go_enter_defers Tryd.func21, Tryd.ntmps21
  go_upto_region 3 with (fail)
  generalize (((w.alloc (.cells #[.int .i64 0, .int .i64 0, .string ⟨#[]⟩, .slice none 0 0] 47)).alloc (.cells #[.string ⟨#[]⟩] 9)).alloc (.cells #[.int .i64 0] 48)).alloc (.cells #[.string s] 74) = w3 at *
  have hVc := value_calls _ s w3 (by omega) h4.out.rd
  cases hN : rdValue s with
  | none =>
    have HF : Aside0 (rdNext s = none) := ⟨by unfold rdNext; rw [hN]; rfl⟩
    rw [hN] at hVc
    have hVa := Aside0.mk hVc
    clear hVc hN
    go_wp2_with (first | (go_at_call 29; refine hVa.out.mono ?_; rintro e w4 ⟨rfl, hB4⟩))
    have hI4 : IB w4 w.heap.size 0 0 ⟨#[]⟩ (.slice none 0 0) := h4.out.item.kb hB4 (by omega)
    have hS4 : SB w4 (w.heap.size + 1) ⟨#[]⟩ := hB4.blk h4.out.rest (by omega)
    have hE4 : EB w4 (w.heap.size + 1 + 1) 0 := hB4.blk h4.out.err (by omega)
    have hb4 := hB4.toBelow h4.out.below (by omega)
    clear hB4
    refine leaves_cons (f := 27) (args := #[.pointer (some ⟨w.heap.size + 1 + 1, 0, none⟩), .pointer (some ⟨w.heap.size, 0, none⟩), .pointer (some ⟨w.heap.size + 1, 0, none⟩)]) (by simp) (by simp [go_sem]) ?_
    refine (next_catch_panicking _ _ _ _ _ _ _ _ _ _ hE4 hI4 hS4).mono ?_
    rintro e u' w'' ⟨rfl, rfl, rfl⟩
    have hI9 := ((hI4.far (p := ⟨w.heap.size + 1 + 1, 0, none⟩) (by simp only; omega) (.int .i64 50)).put 0 0 ⟨#[]⟩ (.slice none 0 0)).far (p := ⟨w.heap.size + 1, 0, none⟩) (by simp only; omega) (.string ⟨#[]⟩)
    have hS8 : SB (putI (w4.setCell ⟨w.heap.size + 1 + 1, 0, none⟩ (.int .i64 50)) w.heap.size 0 0 ⟨#[]⟩ (.slice none 0 0)) (w.heap.size + 1) ⟨#[]⟩ := blk_putI (hS4.far (p := ⟨w.heap.size + 1 + 1, 0, none⟩) (by simp only; omega) (.int .i64 50)) (by omega) 0 0 ⟨#[]⟩ (.slice none 0 0)
    have hE8 : EB (putI (w4.setCell ⟨w.heap.size + 1 + 1, 0, none⟩ (.int .i64 50)) w.heap.size 0 0 ⟨#[]⟩ (.slice none 0 0)) (w.heap.size + 1 + 1) 50 := blk_putI (hE4.set 50) (by omega) 0 0 ⟨#[]⟩ (.slice none 0 0)
    have hS9 := hS8.set ⟨#[]⟩
    have hE9 := hE8.far (p := ⟨w.heap.size + 1, 0, none⟩) (by simp only; omega) (.string ⟨#[]⟩)
    clear hS8 hE8
    have hb9 := (below_putI (hb4.setCell (p := ⟨w.heap.size + 1 + 1, 0, none⟩) (by simp only; omega) (.int .i64 50)) (Nat.le_refl _) 0 0 ⟨#[]⟩ (.slice none 0 0)).setCell (p := ⟨w.heap.size + 1, 0, none⟩) (by simp only; omega) (.string ⟨#[]⟩)
    generalize (putI (w4.setCell ⟨w.heap.size + 1 + 1, 0, none⟩ (.int .i64 50)) w.heap.size 0 0 ⟨#[]⟩ (.slice none 0 0)).setCell ⟨w.heap.size + 1, 0, none⟩ (.string ⟨#[]⟩) = w9 at *
    refine ⟨.tuple #[.agg #[.int .i64 0, .int .i64 0, .string ⟨#[]⟩, .slice none 0 0], .string ⟨#[]⟩, .int .i64 50], ?_, ?_⟩
    · exact next_results w _ w9 0 0 ⟨#[]⟩ ⟨#[]⟩ (.slice none 0 0) 50 rfl rfl rfl hI9 hS9 hE9
    · exact NextPost.dead HF.out hb9
  | some vt =>
    obtain ⟨⟨k, i, tx⟩, t⟩ := vt
    have hzt := value_rest hN
    rw [hN] at hVc
    have hVa := Aside0.mk hVc
    clear hVc
    go_upto_region 4 with (first | (go_at_call 29; refine (hVa.out.mono (fun e w' h => gp h)).mono ?_; rintro e w4 ⟨⟨rfl, hR4⟩, hB4⟩))
    have hR5 := hR4.alloc (.cells #[.string ⟨#[]⟩, .int .i64 k, .int .i64 i, .string tx] 52)
    have hP5 := PB.mk_new w4 k i tx
    have hI5 : IB (w4.alloc (.cells #[.string ⟨#[]⟩, .int .i64 k, .int .i64 i, .string tx] 52)) w.heap.size 0 0 ⟨#[]⟩ (.slice none 0 0) := blk_alloc (h4.out.item.kb hB4 (by omega)) _
    have hS5 : SB (w4.alloc (.cells #[.string ⟨#[]⟩, .int .i64 k, .int .i64 i, .string tx] 52)) (w.heap.size + 1) ⟨#[]⟩ := blk_alloc (hB4.blk h4.out.rest (by omega)) _
    have hE5 : EB (w4.alloc (.cells #[.string ⟨#[]⟩, .int .i64 k, .int .i64 i, .string tx] 52)) (w.heap.size + 1 + 1) 0 := blk_alloc (hB4.blk h4.out.err (by omega)) _
    have hb5 := below_alloc (hB4.toBelow h4.out.below (by omega)) (.cells #[.string ⟨#[]⟩, .int .i64 k, .int .i64 i, .string tx] 52)
    clear hR4 hB4 hVa h4
    generalize w4.alloc (.cells #[.string ⟨#[]⟩, .int .i64 k, .int .i64 i, .string tx] 52) = w5 at *
    have q1 := hP5.c1
    have q2 := hP5.c2
    have q3 := hP5.c3
    have i0 := hI5.c0
    have i1 := hI5.c1
    have i2 := hI5.c2
    have i3 := hI5.c3
    have j0 := hI5.fr 0
    have j1 := hI5.fr 1
    have j2 := hI5.fr 2
    have j3 := hI5.fr 3
    go_upto_region 5 with (fail)
    have hI6 := hI5.put k i tx (.slice none 0 0)
    have hS6 : SB (putI w5 w.heap.size k i tx (.slice none 0 0)) (w.heap.size + 1) ⟨#[]⟩ := blk_putI hS5 (by omega) _ _ _ _
    have hE6 : EB (putI w5 w.heap.size k i tx (.slice none 0 0)) (w.heap.size + 1 + 1) 0 := blk_putI hE5 (by omega) _ _ _ _
    have hR6 : Rd (putI w5 w.heap.size k i tx (.slice none 0 0)) (w.heap.size + 1 + 1 + 1) t := blk_putI hR5 (by omega) _ _ _ _
    have hb6 := below_putI hb5 (Nat.le_refl _) k i tx (.slice none 0 0)
    clear i0 i1 i2 i3 j0 j1 j2 j3 q1 q2 q3 hI5 hS5 hE5 hR5 hb5 hP5
    have hw6 : (((w5.setCell ⟨w.heap.size, 0, none⟩ (.int .i64 k)).setCell ⟨w.heap.size, 1, none⟩ (.int .i64 i)).setCell ⟨w.heap.size, 2, none⟩ (.string tx)).setCell ⟨w.heap.size, 3, none⟩ (.slice none 0 0) = putI w5 w.heap.size k i tx (.slice none 0 0) := rfl
    rw [hw6]
    clear hw6
    generalize putI w5 w.heap.size k i tx (.slice none 0 0) = w6 at *
    have hPc := params_calls _ t w6 (by omega) hR6
    cases hM : rdParams t with
    | none =>
      have HF : Aside0 (rdNext s = none) := ⟨by unfold rdNext; rw [hN]; show (rdParams t).bind _ = _; rw [hM]; rfl⟩
      rw [hM] at hPc
      have hPa := Aside0.mk hPc
      clear hPc hM hN
      go_wp2_with (first | (go_at_call 30; refine hPa.out.mono ?_; rintro e w7 ⟨rfl, hB7⟩))
      have hI7 := hI6.kb hB7 (by omega)
      have hS7 : SB w7 (w.heap.size + 1) ⟨#[]⟩ := hB7.blk hS6 (by omega)
      have hE7 : EB w7 (w.heap.size + 1 + 1) 0 := hB7.blk hE6 (by omega)
      have hb7 := hB7.toBelow hb6 (by omega)
      clear hB7
      refine leaves_cons (f := 27) (args := #[.pointer (some ⟨w.heap.size + 1 + 1, 0, none⟩), .pointer (some ⟨w.heap.size, 0, none⟩), .pointer (some ⟨w.heap.size + 1, 0, none⟩)]) (by simp) (by simp [go_sem]) ?_
      refine (next_catch_panicking _ _ _ _ _ _ _ _ _ _ hE7 hI7 hS7).mono ?_
      rintro e u' w'' ⟨rfl, rfl, rfl⟩
      have hI9 := ((hI7.far (p := ⟨w.heap.size + 1 + 1, 0, none⟩) (by simp only; omega) (.int .i64 50)).put 0 0 ⟨#[]⟩ (.slice none 0 0)).far (p := ⟨w.heap.size + 1, 0, none⟩) (by simp only; omega) (.string ⟨#[]⟩)
      have hS8 : SB (putI (w7.setCell ⟨w.heap.size + 1 + 1, 0, none⟩ (.int .i64 50)) w.heap.size 0 0 ⟨#[]⟩ (.slice none 0 0)) (w.heap.size + 1) ⟨#[]⟩ := blk_putI (hS7.far (p := ⟨w.heap.size + 1 + 1, 0, none⟩) (by simp only; omega) (.int .i64 50)) (by omega) 0 0 ⟨#[]⟩ (.slice none 0 0)
      have hE8 : EB (putI (w7.setCell ⟨w.heap.size + 1 + 1, 0, none⟩ (.int .i64 50)) w.heap.size 0 0 ⟨#[]⟩ (.slice none 0 0)) (w.heap.size + 1 + 1) 50 := blk_putI (hE7.set 50) (by omega) 0 0 ⟨#[]⟩ (.slice none 0 0)
      have hS9 := hS8.set ⟨#[]⟩
      have hE9 := hE8.far (p := ⟨w.heap.size + 1, 0, none⟩) (by simp only; omega) (.string ⟨#[]⟩)
      clear hS8 hE8
      have hb9 := (below_putI (hb7.setCell (p := ⟨w.heap.size + 1 + 1, 0, none⟩) (by simp only; omega) (.int .i64 50)) (Nat.le_refl _) 0 0 ⟨#[]⟩ (.slice none 0 0)).setCell (p := ⟨w.heap.size + 1, 0, none⟩) (by simp only; omega) (.string ⟨#[]⟩)
      generalize (putI (w7.setCell ⟨w.heap.size + 1 + 1, 0, none⟩ (.int .i64 50)) w.heap.size 0 0 ⟨#[]⟩ (.slice none 0 0)).setCell ⟨w.heap.size + 1, 0, none⟩ (.string ⟨#[]⟩) = w9 at *
      refine ⟨.tuple #[.agg #[.int .i64 0, .int .i64 0, .string ⟨#[]⟩, .slice none 0 0], .string ⟨#[]⟩, .int .i64 50], ?_, ?_⟩
      · exact next_results w _ w9 0 0 ⟨#[]⟩ ⟨#[]⟩ (.slice none 0 0) 50 rfl rfl rfl hI9 hS9 hE9
      · exact NextPost.dead HF.out hb9
    | some lr =>
      obtain ⟨l, r⟩ := lr
      have HF : Aside0 (rdNext s = some ((k, i, tx), l, r)) := ⟨by unfold rdNext; rw [hN]; show (rdParams t).bind _ = _; rw [hM]; rfl⟩
      rw [hM] at hPc
      have hPa := Aside0.mk hPc
      clear hPc hM hN
      go_upto_region 6 with (first | (go_at_call 30; refine hPa.out.mono ?_; rintro e w7 ⟨⟨v, rfl, hL7, hR7⟩, hB7⟩; obtain ⟨A7, c7, hv7⟩ := Kd.R_slice hL7; subst hv7; have hI7 := hI6.kb hB7 (by omega); have i3 := hI7.c3; have j3 := hI7.fr 3))
      have hS7 : SB w7 (w.heap.size + 1) ⟨#[]⟩ := hB7.blk hS6 (by omega)
      have hE7 : EB w7 (w.heap.size + 1 + 1) 0 := hB7.blk hE6 (by omega)
      have hb7 := hB7.toBelow hb6 (by omega)
      have hL8 := Kd.R_set (Kd.R_lower hL7 hb6.size) hI7 (by decide) 3 (.slice A7 l.length c7)
      have hI8 := hI7.set3 (.slice A7 l.length c7)
      have hS8 := hS7.far (p := ⟨w.heap.size, 3, none⟩) (by simp only; omega) (.slice A7 l.length c7)
      have hE8 := hE7.far (p := ⟨w.heap.size, 3, none⟩) (by simp only; omega) (.slice A7 l.length c7)
      have hR8 := hR7.far (p := ⟨w.heap.size, 3, none⟩) (by simp only; omega) (.slice A7 l.length c7)
      have hb8 := hb7.setCell (p := ⟨w.heap.size, 3, none⟩) (by simp only; omega) (.slice A7 l.length c7)
      clear hL7 hI7 hS7 hE7 hR7 hb7 hB7 i3 j3 hI6 hS6 hE6 hR6 hb6 hPa
      generalize w7.setCell ⟨w.heap.size, 3, none⟩ (.slice A7 l.length c7) = w8 at *
      have i0 := hI8.c0
      have i1 := hI8.c1
      have i2 := hI8.c2
      have i3 := hI8.c3
      have j0 := hI8.fr 0
      have j1 := hI8.fr 1
      have j2 := hI8.fr 2
      have j3 := hI8.fr 3
      have c1 := hS8.cell
      have f1 := blk_frozen hS8 0
      have c2 := hE8.cell
      have f2 := blk_frozen hE8 0
      have c3 := hR8.cell
      go_region
      have hL9 := Kd.R_set (Kd.R_set (R_putI (Kd.R_mono (Kd.R_types hL8 hI8 (by decide)) (ok' := fun k => k ≠ w.heap.size) (fun _ hk => hk.2)) (fun _ hk => hk) k i tx (.slice A7 l.length c7)) (show SB _ (w.heap.size + 1) ⟨#[]⟩ from blk_putI hS8 (by omega) _ _ _ _) (by decide) 0 (.string r)) (show EB _ (w.heap.size + 1 + 1) 0 from EB.far (blk_putI hE8 (by omega) k i tx (.slice A7 l.length c7)) (p := ⟨w.heap.size + 1, 0, none⟩) (by simp only; omega) (.string r)) (by decide) 0 (.int .i64 0)
      have hI9 := ((hI8.put k i tx (.slice A7 l.length c7)).far (p := ⟨w.heap.size + 1, 0, none⟩) (by simp only; omega) (.string r)).far (p := ⟨w.heap.size + 1 + 1, 0, none⟩) (by simp only; omega) (.int .i64 0)
      have hS9 := (SB.set (show SB (putI w8 w.heap.size k i tx (.slice A7 l.length c7)) (w.heap.size + 1) ⟨#[]⟩ from blk_putI hS8 (by omega) _ _ _ _) r).far (p := ⟨w.heap.size + 1 + 1, 0, none⟩) (by simp only; omega) (.int .i64 0)
      have hE9 := (EB.far (show EB (putI w8 w.heap.size k i tx (.slice A7 l.length c7)) (w.heap.size + 1 + 1) 0 from blk_putI hE8 (by omega) _ _ _ _) (p := ⟨w.heap.size + 1, 0, none⟩) (by simp only; omega) (.string r)).set 0
      have hb9 := ((below_putI hb8 (Nat.le_refl _) k i tx (.slice A7 l.length c7)).setCell (p := ⟨w.heap.size + 1, 0, none⟩) (by simp only; omega) (.string r)).setCell (p := ⟨w.heap.size + 1 + 1, 0, none⟩) (by simp only; omega) (.int .i64 0)
      clear hL8 hI8 hS8 hE8 hR8 hb8 i0 i1 i2 i3 j0 j1 j2 j3 c1 f1 c2 f2 c3
      have hw9 : (((((w8.setCell ⟨w.heap.size, 0, none⟩ (.int .i64 k)).setCell ⟨w.heap.size, 1, none⟩ (.int .i64 i)).setCell ⟨w.heap.size, 2, none⟩ (.string tx)).setCell ⟨w.heap.size, 3, none⟩ (.slice A7 l.length c7)).setCell ⟨w.heap.size + 1, 0, none⟩ (.string r)).setCell ⟨w.heap.size + 1 + 1, 0, none⟩ (.int .i64 0) = ((putI w8 w.heap.size k i tx (.slice A7 l.length c7)).setCell ⟨w.heap.size + 1, 0, none⟩ (.string r)).setCell ⟨w.heap.size + 1 + 1, 0, none⟩ (.int .i64 0) := rfl
      rw [hw9]
      clear hw9
      generalize ((putI w8 w.heap.size k i tx (.slice A7 l.length c7)).setCell ⟨w.heap.size + 1, 0, none⟩ (.string r)).setCell ⟨w.heap.size + 1 + 1, 0, none⟩ (.int .i64 0) = w9 at *
      have hLa := Kd.R_drew hL9
      have hIa : IB w9.drew w.heap.size k i tx (.slice A7 l.length c7) := hI9
      have hSa : SB w9.drew (w.heap.size + 1) r := hS9
      have hEa : EB w9.drew (w.heap.size + 1 + 1) 0 := hE9
      have hba : Below w.heap.size w w9.drew := below_drew1 hb9
      clear hL9 hI9 hS9 hE9 hb9
      generalize w9.drew = wa at *
      go_wp2
      refine leaves_cons (f := 27) (args := #[.pointer (some ⟨w.heap.size + 1 + 1, 0, none⟩), .pointer (some ⟨w.heap.size, 0, none⟩), .pointer (some ⟨w.heap.size + 1, 0, none⟩)]) (by simp) (by simp [go_sem]) ?_
      refine (next_catch_idle _ _ _ _ _ hEa).mono ?_
      rintro e u' w'' ⟨rfl, rfl, rfl⟩
      have hLb := Kd.R_mono (ok' := fun _ => True) (Kd.R_set hLa hEa (by decide) 0 (.int .i64 0)) (fun _ _ => trivial)
      have hIb := hIa.far (p := ⟨w.heap.size + 1 + 1, 0, none⟩) (by simp only; omega) (.int .i64 0)
      have hSb := hSa.far (p := ⟨w.heap.size + 1 + 1, 0, none⟩) (by simp only; omega) (.int .i64 0)
      have hEb := hEa.set 0
      have hbb := hba.setCell (p := ⟨w.heap.size + 1 + 1, 0, none⟩) (by simp only; omega) (.int .i64 0)
      clear hLa hIa hSa hEa hba
      generalize wa.setCell ⟨w.heap.size + 1 + 1, 0, none⟩ (.int .i64 0) = wb at *
      refine ⟨.tuple #[.agg #[.int .i64 k, .int .i64 i, .string tx, .slice A7 l.length c7], .string r, .int .i64 0], ?_, ?_⟩
      · exact next_results w _ wb k i tx r (.slice A7 l.length c7) 0 rfl rfl rfl hIb hSb hEb
      · exact NextPost.ok HF.out hLb hbb
def sfitem_Next.f (a0 : ByteArray) : Option (Int × Int × ByteArray × List S52 × ByteArray × Int) :=
  if a0.size ≤ 2199023255552 then (match rdNext a0 with | some (v, l, t) => some (v.1, v.2.1, v.2.2, l, t, 0) | none => some (0, 0, ⟨#[]⟩, [], ⟨#[]⟩, 50)) else none
theorem sfitem_Next.calls (a0 : ByteArray) (r1 : Int) (r2 : Int) (r3 : ByteArray) (r4 : List S52) (r5 : ByteArray) (r6 : Int) (w : World) (h : sfitem_Next.f a0 = some (r1, r2, r3, r4, r5, r6)) :
    Calls Tryd.prog 21 #[.string a0] w fun e w' => ∃ v4_ : Value, e = .returned (.tuple #[.agg #[.int .i64 r1, .int .i64 r2, .string r3, v4_], .string r5, .int .i64 r6]) ∧ Kd.R k52 52 w' w.heap.size (fun _ => True) v4_ r4 ∧ Below w.heap.size w w' := by
  unfold sfitem_Next.f at h
  by_cases hs : a0.size ≤ 2199023255552
  · rw [if_pos hs] at h
    refine (Next_calls a0 w hs).mono ?_
    intro e w' hp
    unfold NextPost at hp
    cases hN : rdNext a0 with
    | none =>
      rw [hN] at h hp
      simp only [Option.some.injEq, Prod.mk.injEq] at h
      obtain ⟨rfl, rfl, rfl, rfl, rfl, rfl⟩ := h
      exact ⟨.slice none 0 0, hp.1, Kd.R_nil _ _ _ _ _, hp.2⟩
    | some y =>
      obtain ⟨v, l, t⟩ := y
      rw [hN] at h hp
      simp only [Option.some.injEq, Prod.mk.injEq] at h
      obtain ⟨rfl, rfl, rfl, rfl, rfl, rfl⟩ := h
      obtain ⟨⟨u, he, hR⟩, hb⟩ := hp
      exact ⟨u, he, hR, hb⟩
  · rw [if_neg hs] at h; cases h


/-! ### strings_Trim: function 22 -/
/-- A text without the blanks (bytes 32) at its ends. -/
def trimSp (s : ByteArray) : ByteArray := ⟨(Lib.trimB s.data.toList 32).toArray⟩
def strings_Trim.f (a0 a1 : ByteArray) : Option ByteArray := if a1 = ⟨#[32]⟩ ∧ a0.size ≤ 9223372036854775807 then some (trimSp a0) else none
theorem strings_Trim.calls (a0 : ByteArray) (a1 : ByteArray) (r : ByteArray) (w : World) (h : strings_Trim.f a0 a1 = some r) :
    Calls Tryd.prog 22 #[.string a0, .string a1] w fun e w' => e = .returned (.string r) ∧ Below w.heap.size w w' := by
  unfold strings_Trim.f at h
  by_cases hs : a1 = ⟨#[32]⟩ ∧ a0.size ≤ 9223372036854775807
  · rw [if_pos hs] at h
    obtain ⟨rfl, hz⟩ := hs
    obtain rfl := Option.some.inj h
    refine (Tryd.strings_Trim_one a0 32 (by decide) w hz).mono ?_
    rintro e w' ⟨he, hw⟩
    refine ⟨he, ?_⟩
    rcases hw with rfl | rfl
    · exact Below.refl _ _
    · exact below_drew1 (Below.refl _ _)
  · rw [if_neg hs] at h; cases h


/-! ### sfitem_Parse: function 18 -/
def sfitem_Parse.f (a0 : ByteArray) : Option (Int × Int × ByteArray × (List (S52)) × Int) := (strings_Trim.f a0 (⟨#[32]⟩ : ByteArray)).bind fun t108 => ((sfitem_Next.f t108).bind fun bt109 => (if bt109.2.2.2.2.2 = 0 then (if bt109.2.2.2.2.1.toList = ([] : List UInt8) then (if (a0.size : Int) > 4000 then (some (0, 0, (⟨#[]⟩ : ByteArray), ([] : List (S52)), 50)) else (some (bt109.1, bt109.2.1, bt109.2.2.1, bt109.2.2.2.1, 0))) else (some (0, 0, (⟨#[]⟩ : ByteArray), ([] : List (S52)), 50))) else (some (0, 0, (⟨#[]⟩ : ByteArray), ([] : List (S52)), 50))))
set_option maxHeartbeats 8000000 in
set_option maxRecDepth 100000 in
theorem sfitem_Parse.calls (a0 : ByteArray) (r1 : Int) (r2 : Int) (r3 : ByteArray) (r4 : List (S52)) (r5 : Int) (w : World) (h : sfitem_Parse.f a0 = some (r1, r2, r3, r4, r5)) :
    Calls Tryd.prog 18 #[.string a0] w fun e w' => ∃ v3_ : Value, e = .returned (.tuple #[.agg #[.int .i64 r1, .int .i64 r2, .string r3, v3_], .int .i64 r5]) ∧ Kd.R k52 52 w' w.heap.size (fun _ => True) v3_ r4 ∧ Below w.heap.size w w' := by
  have hu47 := Tryd.underlying47
  have HB := Aside0.mk (Below.refl w.heap.size w)
  have H : ((strings_Trim.f a0 (⟨#[32]⟩ : ByteArray)).bind fun t108 => ((sfitem_Next.f t108).bind fun bt109 => (if bt109.2.2.2.2.2 = 0 then (if bt109.2.2.2.2.1.toList = ([] : List UInt8) then (if (a0.size : Int) > 4000 then (some (0, 0, (⟨#[]⟩ : ByteArray), ([] : List (S52)), 50)) else (some (bt109.1, bt109.2.1, bt109.2.2.1, bt109.2.2.2.1, 0))) else (some (0, 0, (⟨#[]⟩ : ByteArray), ([] : List (S52)), 50))) else (some (0, 0, (⟨#[]⟩ : ByteArray), ([] : List (S52)), 50))))) = some (r1, r2, r3, r4, r5) := h
  clear h
  replace H := Option.bind_eq_some_iff.mp H
  obtain ⟨t108, A20, H⟩ := H
  replace H : ((sfitem_Next.f t108).bind fun bt109 => (if bt109.2.2.2.2.2 = 0 then (if bt109.2.2.2.2.1.toList = ([] : List UInt8) then (if (a0.size : Int) > 4000 then (some (0, 0, (⟨#[]⟩ : ByteArray), ([] : List (S52)), 50)) else (some (bt109.1, bt109.2.1, bt109.2.2.1, bt109.2.2.2.1, 0))) else (some (0, 0, (⟨#[]⟩ : ByteArray), ([] : List (S52)), 50))) else (some (0, 0, (⟨#[]⟩ : ByteArray), ([] : List (S52)), 50)))) = some (r1, r2, r3, r4, r5) := H
  have A2 := Aside0.mk A20
  clear A20
  replace H := Option.bind_eq_some_iff.mp H
  obtain ⟨⟨t109, t110, t111, t112, t115, t116⟩, A30, H⟩ := H
  replace H : (if t116 = 0 then (if t115.toList = ([] : List UInt8) then (if (a0.size : Int) > 4000 then (some (0, 0, (⟨#[]⟩ : ByteArray), ([] : List (S52)), 50)) else (some (t109, t110, t111, t112, 0))) else (some (0, 0, (⟨#[]⟩ : ByteArray), ([] : List (S52)), 50))) else (some (0, 0, (⟨#[]⟩ : ByteArray), ([] : List (S52)), 50))) = some (r1, r2, r3, r4, r5) := H
  have A3 := Aside0.mk A30
  clear A30
  by_cases c4 : t116 = 0
  · rw [if_pos c4] at H
    have c4b0 : (t116 == 0) = true := beq_iff_eq.mpr c4
    have c4b1 : (t116 != 0) = false := bne_eq_false_iff_eq.mpr c4
    clear c4
    by_cases c5 : t115.toList = ([] : List UInt8)
    · rw [if_pos c5] at H
      have c5b0 : (t115.toList == ([] : List UInt8)) = true := beq_iff_eq.mpr c5
      have c5b1 : (t115.toList != ([] : List UInt8)) = false := bne_eq_false_iff_eq.mpr c5
      clear c5
      by_cases c6 : (a0.size : Int) > 4000
      · rw [if_pos c6] at H
        have c6b0 : decide (4000 < (a0.size : Int)) = true := decide_eq_true c6
        have c6b1 : decide (4000 < a0.size) = true := decide_eq_true (by omega)
        clear c6
        simp only [Option.some.injEq, Prod.mk.injEq] at H
        obtain ⟨rfl, rfl, rfl, rfl, rfl⟩ := H
        go_enter Tryd.func18, Tryd.ntmps18
        go_wp2_with (first | ((with_reducible refine gate_dst (N := 2) rfl ?_); (try (refine gate_guard (by rfl) ?_; dsimp only)); refine box_event ?hg (N := 2) ?hd (cs := #[.int .i64 0, .int .i64 0, .string (⟨#[]⟩ : ByteArray), .slice none 0 0]) (t := 47) ?hr ?_; (case hd => rfl); (case hg => rfl); (case hr => first | (go_simp; done) | (go_simp; rfl)); intro gb107 hg w7 hbox hb; have n0_ := Aside0.mk (below_step (by repeat (first | (with_reducible first | exact HB.out | apply below_alloc | apply pw_below_drewN | apply below_drew1) | exact HB.out)) hb); have n1_ := Aside0.mk (hbox); have n2_ := Aside0.mk ((by rw [hg]; exact (below_size (by repeat (first | (with_reducible first | exact HB.out | apply below_alloc | apply pw_below_drewN | apply below_drew1) | exact HB.out))) : w.heap.size ≤ gb107)); have n3_ := Aside0.mk ((by rw [hg]; exact (below_size (by repeat (first | (with_reducible first | exact HB.out | apply below_alloc | apply pw_below_drewN | apply below_drew1) | exact HB.out))) : w.heap.size ≤ gb107)); clear HB; have HB := n0_; have BK107 := n1_; have GW107 := n2_; have GE107 := n3_; clear n0_ n1_ n2_ n3_; clear hb hbox hg) | ((with_reducible refine gate_callee (f := 22) rfl ?_); refine goesL_ (some 9) rfl rfl Tryd.func22 (by kernel_rfl) rfl #[.string a0, .string (⟨#[32]⟩ : ByteArray)] rfl (by (try simp only [List.map_toArray, List.map_cons, List.map_nil]); first | done | rfl | (simp only [List.length_drop, List.length_take]; rfl)) ?_; (with_reducible refine (strings_Trim.calls a0 (⟨#[32]⟩ : ByteArray) t108 _ A2.out).mono ?_); rintro e w8 ⟨rfl, hb⟩; refine ⟨_, rfl, ?_⟩; have n0_ := Aside0.mk (blk_below (g := gb107) (o := .cells #[.int .i64 0, .int .i64 0, .string (⟨#[]⟩ : ByteArray), .slice none 0 0] 47 (0, 0)) (by (with_reducible repeat (first | refine blk_drewN ?_ _ | refine blk_drew ?_ | refine blk_alloc ?_ _)); exact BK107.out) hb); have n1_ := Aside0.mk (below_step (by repeat (first | (with_reducible first | exact HB.out | apply below_alloc | apply pw_below_drewN | apply below_drew1 | refine below_set ?_ GE107.out) | exact HB.out)) hb); clear BK107; clear HB; have BK107 := n0_; have HB := n1_; clear n0_ n1_; (try clear hb); (try clear hb2); (try clear hk); (try clear hi)) | ((with_reducible refine gate_callee (f := 21) rfl ?_); refine goesL_ (some 10) rfl rfl Tryd.func21 (by kernel_rfl) rfl #[.string t108] rfl (by (try simp only [List.map_toArray, List.map_cons, List.map_nil]); first | done | rfl | (simp only [List.length_drop, List.length_take]; rfl)) ?_; (with_reducible refine (sfitem_Next.calls t108 t109 t110 t111 t112 t115 t116 _ A3.out).mono ?_); rintro e w9 ⟨v113, rfl, ho0, hb⟩; refine ⟨_, rfl, ?_⟩; have n0_ := Aside0.mk (Kd.R_lower ho0 (below_size (by repeat (first | (with_reducible first | exact HB.out | apply below_alloc | apply pw_below_drewN | apply below_drew1 | refine below_set ?_ GE107.out) | exact HB.out)))); have n1_ := Aside0.mk (blk_below (g := gb107) (o := .cells #[.int .i64 0, .int .i64 0, .string (⟨#[]⟩ : ByteArray), .slice none 0 0] 47 (0, 0)) (by (with_reducible repeat (first | refine blk_drewN ?_ _ | refine blk_drew ?_ | refine blk_alloc ?_ _)); exact BK107.out) hb); have n2_ := Aside0.mk (below_step (by repeat (first | (with_reducible first | exact HB.out | apply below_alloc | apply pw_below_drewN | apply below_drew1 | refine below_set ?_ GE107.out) | exact HB.out)) hb); clear BK107; clear HB; have HO114 := n0_; have BK107 := n1_; have HB := n2_; clear n0_ n1_ n2_; (try clear hb); (try clear hb2); (try clear hk); (try clear hi); (try clear ho0)) | ((with_reducible refine gate_dst (N := 4) rfl ?_); (try (refine gate_guard (by rfl) ?_; dsimp only)); refine box_event ?hg (N := 4) ?hd (cs := #[.int .i64 0, .int .i64 0, .string (⟨#[]⟩ : ByteArray), .slice none 0 0]) (t := 47) ?hr ?_; (case hd => rfl); (case hg => rfl); (case hr => first | (go_simp; done) | (go_simp; rfl)); intro gb117 hg w10 hbox hb; have n0_ := Aside0.mk (Kd.R_below (by (with_reducible repeat (first | apply Kd.R_alloc | apply Kd.R_drewN | apply Kd.R_drew)); exact HO114.out) hb); have n1_ := Aside0.mk (blk_below (g := gb107) (o := .cells #[.int .i64 0, .int .i64 0, .string (⟨#[]⟩ : ByteArray), .slice none 0 0] 47 (0, 0)) (by (with_reducible repeat (first | refine blk_drewN ?_ _ | refine blk_drew ?_ | refine blk_alloc ?_ _)); exact BK107.out) hb); have n2_ := Aside0.mk (below_step (by repeat (first | (with_reducible first | exact HB.out | apply below_alloc | apply pw_below_drewN | apply below_drew1 | refine below_set ?_ GE107.out) | exact HB.out)) hb); have n3_ := Aside0.mk (hbox); have n4_ := Aside0.mk ((by rw [hg]; exact (below_size (by repeat (first | (with_reducible first | exact HB.out | apply below_alloc | apply pw_below_drewN | apply below_drew1 | refine below_set ?_ GE107.out) | exact HB.out))) : w.heap.size ≤ gb117)); have n5_ := Aside0.mk ((by rw [hg]; exact (below_size (by repeat (first | (with_reducible first | exact HB.out | apply below_alloc | apply pw_below_drewN | apply below_drew1 | refine below_set ?_ GE107.out) | exact HB.out))) : w.heap.size ≤ gb117)); have n6_ := Aside0.mk ((by rw [hg]; exact Nat.ne_of_lt (blk_lt (g := gb107) (o := .cells #[.int .i64 0, .int .i64 0, .string (⟨#[]⟩ : ByteArray), .slice none 0 0] 47 (0, 0)) (by (with_reducible repeat (first | refine blk_drewN ?_ _ | refine blk_drew ?_ | refine blk_alloc ?_ _)); exact BK107.out)) : gb107 ≠ gb117)); have n7_ := Aside0.mk ((by rw [hg]; exact Nat.ne_of_gt (blk_lt (g := gb107) (o := .cells #[.int .i64 0, .int .i64 0, .string (⟨#[]⟩ : ByteArray), .slice none 0 0] 47 (0, 0)) (by (with_reducible repeat (first | refine blk_drewN ?_ _ | refine blk_drew ?_ | refine blk_alloc ?_ _)); exact BK107.out)) : gb117 ≠ gb107)); clear HO114; clear BK107; clear HB; have HO114 := n0_; have BK107 := n1_; have HB := n2_; have BK117 := n3_; have GW117 := n4_; have GE117 := n5_; have NB107_117 := n6_; have NB117_107 := n7_; clear n0_ n1_ n2_ n3_ n4_ n5_ n6_ n7_; clear hb hbox hg; have hnb11 := NB117_107.out; have hnc11 := NB107_117.out; have hcz12_0 : w10.cell? ⟨gb117, 0, none⟩ = some (.int .i64 0) := (blk_cell BK117.out 0).trans rfl; have hcz12_1 : w10.cell? ⟨gb117, 1, none⟩ = some (.int .i64 0) := (blk_cell BK117.out 1).trans rfl; have hcz12_2 : w10.cell? ⟨gb117, 2, none⟩ = some (.string (⟨#[]⟩ : ByteArray)) := (blk_cell BK117.out 2).trans rfl; have hcz12_3 : w10.cell? ⟨gb117, 3, none⟩ = some (.slice none 0 0) := (blk_cell BK117.out 3).trans rfl; have hfz12_0 := blk_frozen BK117.out 0; have hfz12_1 := blk_frozen BK117.out 1; have hfz12_2 := blk_frozen BK117.out 2; have hfz12_3 := blk_frozen BK117.out 3; obtain ⟨Ao13, co13, eo13⟩ := Kd.R_slice HO114.out; subst eo13; have hcz14_0 : w10.cell? ⟨gb107, 0, none⟩ = some (.int .i64 0) := (blk_cell BK107.out 0).trans rfl; have hcz14_1 : w10.cell? ⟨gb107, 1, none⟩ = some (.int .i64 0) := (blk_cell BK107.out 1).trans rfl; have hcz14_2 : w10.cell? ⟨gb107, 2, none⟩ = some (.string (⟨#[]⟩ : ByteArray)) := (blk_cell BK107.out 2).trans rfl; have hcz14_3 : w10.cell? ⟨gb107, 3, none⟩ = some (.slice none 0 0) := (blk_cell BK107.out 3).trans rfl; have hfz14_0 := blk_frozen BK107.out 0; have hfz14_1 := blk_frozen BK107.out 1; have hfz14_2 := blk_frozen BK107.out 2; have hfz14_3 := blk_frozen BK107.out 3))
        refine bodyPost_ret (results_ct rfl _ _ gb107 47 #[.int .i64 0, .int .i64 0, .string (⟨#[]⟩ : ByteArray), .slice none 0 0] (0, 0) _ rfl (by (with_reducible repeat (first | refine blk_drewN ?_ _ | refine blk_drew ?_ | refine blk_alloc ?_ _)); refine blk_put (cs := #[.int .i64 0, .int .i64 0, .string (⟨#[]⟩ : ByteArray), .slice none 0 0]) ?_ 3 _ rfl; (with_reducible repeat (first | refine blk_drewN ?_ _ | refine blk_drew ?_ | refine blk_alloc ?_ _)); refine blk_put (cs := #[.int .i64 0, .int .i64 0, .string (⟨#[]⟩ : ByteArray), .slice none 0 0]) ?_ 2 _ rfl; (with_reducible repeat (first | refine blk_drewN ?_ _ | refine blk_drew ?_ | refine blk_alloc ?_ _)); refine blk_put (cs := #[.int .i64 0, .int .i64 0, .string (⟨#[]⟩ : ByteArray), .slice none 0 0]) ?_ 1 _ rfl; (with_reducible repeat (first | refine blk_drewN ?_ _ | refine blk_drew ?_ | refine blk_alloc ?_ _)); refine blk_put (cs := #[.int .i64 0, .int .i64 0, .string (⟨#[]⟩ : ByteArray), .slice none 0 0]) ?_ 0 _ rfl; (with_reducible repeat (first | refine blk_drewN ?_ _ | refine blk_drew ?_ | refine blk_alloc ?_ _)); refine blk_far ?_ NB107_117.out _; (with_reducible repeat (first | refine blk_drewN ?_ _ | refine blk_drew ?_ | refine blk_alloc ?_ _)); refine blk_far ?_ NB107_117.out _; (with_reducible repeat (first | refine blk_drewN ?_ _ | refine blk_drew ?_ | refine blk_alloc ?_ _)); refine blk_far ?_ NB107_117.out _; (with_reducible repeat (first | refine blk_drewN ?_ _ | refine blk_drew ?_ | refine blk_alloc ?_ _)); refine blk_far ?_ NB107_117.out _; (with_reducible repeat (first | refine blk_drewN ?_ _ | refine blk_drew ?_ | refine blk_alloc ?_ _)); exact BK107.out) Tryd.underlying47 rfl (by kernel_rfl)) rfl ?_
        exact ⟨_, by first | rfl | (simp [errW_none, errW_some] <;> rfl) | (simp [*, errW_none, errW_some] <;> rfl) | (simp [q_ne_nil]; done), by first | exact Kd.R_nil _ _ _ _ _ | exact Kd.N_nil _ _ _ _ _ | exact Kd.V_nil _ _ _ _ _ | exact Kd.Q_nil _ _ _ _ _ | exact Kd.S_nil _ _ _ _ _, by repeat (first | (with_reducible first | exact HB.out | apply below_alloc | apply pw_below_drewN | apply below_drew1 | refine below_set ?_ GE107.out | refine below_set ?_ GE117.out) | exact HB.out)⟩
      · rw [if_neg c6] at H
        have c6b0 : decide (4000 < (a0.size : Int)) = false := decide_eq_false c6
        have c6b1 : decide (4000 < a0.size) = false := decide_eq_false (by omega)
        clear c6
        simp only [Option.some.injEq, Prod.mk.injEq] at H
        obtain ⟨rfl, rfl, rfl, rfl, rfl⟩ := H
        go_enter Tryd.func18, Tryd.ntmps18
        go_wp2_with (first | ((with_reducible refine gate_dst (N := 2) rfl ?_); (try (refine gate_guard (by rfl) ?_; dsimp only)); refine box_event ?hg (N := 2) ?hd (cs := #[.int .i64 0, .int .i64 0, .string (⟨#[]⟩ : ByteArray), .slice none 0 0]) (t := 47) ?hr ?_; (case hd => rfl); (case hg => rfl); (case hr => first | (go_simp; done) | (go_simp; rfl)); intro gb107 hg w15 hbox hb; have n0_ := Aside0.mk (below_step (by repeat (first | (with_reducible first | exact HB.out | apply below_alloc | apply pw_below_drewN | apply below_drew1) | exact HB.out)) hb); have n1_ := Aside0.mk (hbox); have n2_ := Aside0.mk ((by rw [hg]; exact (below_size (by repeat (first | (with_reducible first | exact HB.out | apply below_alloc | apply pw_below_drewN | apply below_drew1) | exact HB.out))) : w.heap.size ≤ gb107)); have n3_ := Aside0.mk ((by rw [hg]; exact (below_size (by repeat (first | (with_reducible first | exact HB.out | apply below_alloc | apply pw_below_drewN | apply below_drew1) | exact HB.out))) : w.heap.size ≤ gb107)); clear HB; have HB := n0_; have BK107 := n1_; have GW107 := n2_; have GE107 := n3_; clear n0_ n1_ n2_ n3_; clear hb hbox hg) | ((with_reducible refine gate_callee (f := 22) rfl ?_); refine goesL_ (some 9) rfl rfl Tryd.func22 (by kernel_rfl) rfl #[.string a0, .string (⟨#[32]⟩ : ByteArray)] rfl (by (try simp only [List.map_toArray, List.map_cons, List.map_nil]); first | done | rfl | (simp only [List.length_drop, List.length_take]; rfl)) ?_; (with_reducible refine (strings_Trim.calls a0 (⟨#[32]⟩ : ByteArray) t108 _ A2.out).mono ?_); rintro e w16 ⟨rfl, hb⟩; refine ⟨_, rfl, ?_⟩; have n0_ := Aside0.mk (blk_below (g := gb107) (o := .cells #[.int .i64 0, .int .i64 0, .string (⟨#[]⟩ : ByteArray), .slice none 0 0] 47 (0, 0)) (by (with_reducible repeat (first | refine blk_drewN ?_ _ | refine blk_drew ?_ | refine blk_alloc ?_ _)); exact BK107.out) hb); have n1_ := Aside0.mk (below_step (by repeat (first | (with_reducible first | exact HB.out | apply below_alloc | apply pw_below_drewN | apply below_drew1 | refine below_set ?_ GE107.out) | exact HB.out)) hb); clear BK107; clear HB; have BK107 := n0_; have HB := n1_; clear n0_ n1_; (try clear hb); (try clear hb2); (try clear hk); (try clear hi)) | ((with_reducible refine gate_callee (f := 21) rfl ?_); refine goesL_ (some 10) rfl rfl Tryd.func21 (by kernel_rfl) rfl #[.string t108] rfl (by (try simp only [List.map_toArray, List.map_cons, List.map_nil]); first | done | rfl | (simp only [List.length_drop, List.length_take]; rfl)) ?_; (with_reducible refine (sfitem_Next.calls t108 t109 t110 t111 t112 t115 t116 _ A3.out).mono ?_); rintro e w17 ⟨v113, rfl, ho0, hb⟩; refine ⟨_, rfl, ?_⟩; have n0_ := Aside0.mk (Kd.R_lower ho0 (below_size (by repeat (first | (with_reducible first | exact HB.out | apply below_alloc | apply pw_below_drewN | apply below_drew1 | refine below_set ?_ GE107.out) | exact HB.out)))); have n1_ := Aside0.mk (blk_below (g := gb107) (o := .cells #[.int .i64 0, .int .i64 0, .string (⟨#[]⟩ : ByteArray), .slice none 0 0] 47 (0, 0)) (by (with_reducible repeat (first | refine blk_drewN ?_ _ | refine blk_drew ?_ | refine blk_alloc ?_ _)); exact BK107.out) hb); have n2_ := Aside0.mk (below_step (by repeat (first | (with_reducible first | exact HB.out | apply below_alloc | apply pw_below_drewN | apply below_drew1 | refine below_set ?_ GE107.out) | exact HB.out)) hb); clear BK107; clear HB; have HO114 := n0_; have BK107 := n1_; have HB := n2_; clear n0_ n1_ n2_; (try clear hb); (try clear hb2); (try clear hk); (try clear hi); (try clear ho0)) | ((with_reducible refine gate_dst (N := 4) rfl ?_); (try (refine gate_guard (by rfl) ?_; dsimp only)); refine box_event ?hg (N := 4) ?hd (cs := #[.int .i64 0, .int .i64 0, .string (⟨#[]⟩ : ByteArray), .slice none 0 0]) (t := 47) ?hr ?_; (case hd => rfl); (case hg => rfl); (case hr => first | (go_simp; done) | (go_simp; rfl)); intro gb117 hg w18 hbox hb; have n0_ := Aside0.mk (Kd.R_below (by (with_reducible repeat (first | apply Kd.R_alloc | apply Kd.R_drewN | apply Kd.R_drew)); exact HO114.out) hb); have n1_ := Aside0.mk (blk_below (g := gb107) (o := .cells #[.int .i64 0, .int .i64 0, .string (⟨#[]⟩ : ByteArray), .slice none 0 0] 47 (0, 0)) (by (with_reducible repeat (first | refine blk_drewN ?_ _ | refine blk_drew ?_ | refine blk_alloc ?_ _)); exact BK107.out) hb); have n2_ := Aside0.mk (below_step (by repeat (first | (with_reducible first | exact HB.out | apply below_alloc | apply pw_below_drewN | apply below_drew1 | refine below_set ?_ GE107.out) | exact HB.out)) hb); have n3_ := Aside0.mk (hbox); have n4_ := Aside0.mk ((by rw [hg]; exact (below_size (by repeat (first | (with_reducible first | exact HB.out | apply below_alloc | apply pw_below_drewN | apply below_drew1 | refine below_set ?_ GE107.out) | exact HB.out))) : w.heap.size ≤ gb117)); have n5_ := Aside0.mk ((by rw [hg]; exact (below_size (by repeat (first | (with_reducible first | exact HB.out | apply below_alloc | apply pw_below_drewN | apply below_drew1 | refine below_set ?_ GE107.out) | exact HB.out))) : w.heap.size ≤ gb117)); have n6_ := Aside0.mk ((by rw [hg]; exact Nat.ne_of_lt (blk_lt (g := gb107) (o := .cells #[.int .i64 0, .int .i64 0, .string (⟨#[]⟩ : ByteArray), .slice none 0 0] 47 (0, 0)) (by (with_reducible repeat (first | refine blk_drewN ?_ _ | refine blk_drew ?_ | refine blk_alloc ?_ _)); exact BK107.out)) : gb107 ≠ gb117)); have n7_ := Aside0.mk ((by rw [hg]; exact Nat.ne_of_gt (blk_lt (g := gb107) (o := .cells #[.int .i64 0, .int .i64 0, .string (⟨#[]⟩ : ByteArray), .slice none 0 0] 47 (0, 0)) (by (with_reducible repeat (first | refine blk_drewN ?_ _ | refine blk_drew ?_ | refine blk_alloc ?_ _)); exact BK107.out)) : gb117 ≠ gb107)); clear HO114; clear BK107; clear HB; have HO114 := n0_; have BK107 := n1_; have HB := n2_; have BK117 := n3_; have GW117 := n4_; have GE117 := n5_; have NB107_117 := n6_; have NB117_107 := n7_; clear n0_ n1_ n2_ n3_ n4_ n5_ n6_ n7_; clear hb hbox hg; have hnb19 := NB117_107.out; have hnc19 := NB107_117.out; have hcz20_0 : w18.cell? ⟨gb117, 0, none⟩ = some (.int .i64 0) := (blk_cell BK117.out 0).trans rfl; have hcz20_1 : w18.cell? ⟨gb117, 1, none⟩ = some (.int .i64 0) := (blk_cell BK117.out 1).trans rfl; have hcz20_2 : w18.cell? ⟨gb117, 2, none⟩ = some (.string (⟨#[]⟩ : ByteArray)) := (blk_cell BK117.out 2).trans rfl; have hcz20_3 : w18.cell? ⟨gb117, 3, none⟩ = some (.slice none 0 0) := (blk_cell BK117.out 3).trans rfl; have hfz20_0 := blk_frozen BK117.out 0; have hfz20_1 := blk_frozen BK117.out 1; have hfz20_2 := blk_frozen BK117.out 2; have hfz20_3 := blk_frozen BK117.out 3; obtain ⟨Ao21, co21, eo21⟩ := Kd.R_slice HO114.out; subst eo21; have hcz22_0 : w18.cell? ⟨gb107, 0, none⟩ = some (.int .i64 0) := (blk_cell BK107.out 0).trans rfl; have hcz22_1 : w18.cell? ⟨gb107, 1, none⟩ = some (.int .i64 0) := (blk_cell BK107.out 1).trans rfl; have hcz22_2 : w18.cell? ⟨gb107, 2, none⟩ = some (.string (⟨#[]⟩ : ByteArray)) := (blk_cell BK107.out 2).trans rfl; have hcz22_3 : w18.cell? ⟨gb107, 3, none⟩ = some (.slice none 0 0) := (blk_cell BK107.out 3).trans rfl; have hfz22_0 := blk_frozen BK107.out 0; have hfz22_1 := blk_frozen BK107.out 1; have hfz22_2 := blk_frozen BK107.out 2; have hfz22_3 := blk_frozen BK107.out 3))
        refine bodyPost_ret (results_ct rfl _ _ gb107 47 #[.int .i64 t109, .int .i64 t110, .string t111, .slice Ao21 t112.length co21] (0, 0) _ rfl (by (with_reducible repeat (first | refine blk_drewN ?_ _ | refine blk_drew ?_ | refine blk_alloc ?_ _)); refine blk_put (cs := #[.int .i64 t109, .int .i64 t110, .string t111, .slice none 0 0]) ?_ 3 _ rfl; (with_reducible repeat (first | refine blk_drewN ?_ _ | refine blk_drew ?_ | refine blk_alloc ?_ _)); refine blk_put (cs := #[.int .i64 t109, .int .i64 t110, .string (⟨#[]⟩ : ByteArray), .slice none 0 0]) ?_ 2 _ rfl; (with_reducible repeat (first | refine blk_drewN ?_ _ | refine blk_drew ?_ | refine blk_alloc ?_ _)); refine blk_put (cs := #[.int .i64 t109, .int .i64 0, .string (⟨#[]⟩ : ByteArray), .slice none 0 0]) ?_ 1 _ rfl; (with_reducible repeat (first | refine blk_drewN ?_ _ | refine blk_drew ?_ | refine blk_alloc ?_ _)); refine blk_put (cs := #[.int .i64 0, .int .i64 0, .string (⟨#[]⟩ : ByteArray), .slice none 0 0]) ?_ 0 _ rfl; (with_reducible repeat (first | refine blk_drewN ?_ _ | refine blk_drew ?_ | refine blk_alloc ?_ _)); refine blk_far ?_ NB107_117.out _; (with_reducible repeat (first | refine blk_drewN ?_ _ | refine blk_drew ?_ | refine blk_alloc ?_ _)); refine blk_far ?_ NB107_117.out _; (with_reducible repeat (first | refine blk_drewN ?_ _ | refine blk_drew ?_ | refine blk_alloc ?_ _)); refine blk_far ?_ NB107_117.out _; (with_reducible repeat (first | refine blk_drewN ?_ _ | refine blk_drew ?_ | refine blk_alloc ?_ _)); refine blk_far ?_ NB107_117.out _; (with_reducible repeat (first | refine blk_drewN ?_ _ | refine blk_drew ?_ | refine blk_alloc ?_ _)); exact BK107.out) Tryd.underlying47 rfl (by kernel_rfl)) rfl ?_
        exact ⟨_, by first | rfl | (simp [errW_none, errW_some] <;> rfl) | (simp [*, errW_none, errW_some] <;> rfl) | (simp [q_ne_nil]; done), by (with_reducible repeat (first | apply Kd.R_alloc | apply Kd.R_drewN | apply Kd.R_drew)); exact Kd.R_mono (Kd.R_far (p := ⟨gb107, 3, none⟩) (Kd.R_far (p := ⟨gb107, 2, none⟩) (Kd.R_far (p := ⟨gb107, 1, none⟩) (Kd.R_far (p := ⟨gb107, 0, none⟩) (Kd.R_far (p := ⟨gb117, 3, none⟩) (Kd.R_far (p := ⟨gb117, 2, none⟩) (Kd.R_far (p := ⟨gb117, 1, none⟩) (Kd.R_far (p := ⟨gb117, 0, none⟩) (Kd.R_types (Kd.R_types HO114.out BK117.out (by decide)) BK107.out (by decide)) (fun _ hk => hk.1.2) (.int .i64 t109)) (fun _ hk => hk.1.2) (.int .i64 t110)) (fun _ hk => hk.1.2) (.string t111)) (fun _ hk => hk.1.2) (.slice Ao21 t112.length co21)) (fun _ hk => hk.2) (.int .i64 t109)) (fun _ hk => hk.2) (.int .i64 t110)) (fun _ hk => hk.2) (.string t111)) (fun _ hk => hk.2) (.slice Ao21 t112.length co21)) (fun _ hk => trivial), by repeat (first | (with_reducible first | exact HB.out | apply below_alloc | apply pw_below_drewN | apply below_drew1 | refine below_set ?_ GE107.out | refine below_set ?_ GE117.out) | exact HB.out)⟩
    · rw [if_neg c5] at H
      have c5b0 : (t115.toList == ([] : List UInt8)) = false := beq_eq_false_iff_ne.mpr c5
      have c5b1 : (t115.toList != ([] : List UInt8)) = true := bne_iff_ne.mpr c5
      simp only [Option.some.injEq, Prod.mk.injEq] at H
      obtain ⟨rfl, rfl, rfl, rfl, rfl⟩ := H
      go_enter Tryd.func18, Tryd.ntmps18
      go_wp2_with (first | ((with_reducible refine gate_dst (N := 2) rfl ?_); (try (refine gate_guard (by rfl) ?_; dsimp only)); refine box_event ?hg (N := 2) ?hd (cs := #[.int .i64 0, .int .i64 0, .string (⟨#[]⟩ : ByteArray), .slice none 0 0]) (t := 47) ?hr ?_; (case hd => rfl); (case hg => rfl); (case hr => first | (go_simp; done) | (go_simp; rfl)); intro gb107 hg w23 hbox hb; have n0_ := Aside0.mk (below_step (by repeat (first | (with_reducible first | exact HB.out | apply below_alloc | apply pw_below_drewN | apply below_drew1) | exact HB.out)) hb); have n1_ := Aside0.mk (hbox); have n2_ := Aside0.mk ((by rw [hg]; exact (below_size (by repeat (first | (with_reducible first | exact HB.out | apply below_alloc | apply pw_below_drewN | apply below_drew1) | exact HB.out))) : w.heap.size ≤ gb107)); have n3_ := Aside0.mk ((by rw [hg]; exact (below_size (by repeat (first | (with_reducible first | exact HB.out | apply below_alloc | apply pw_below_drewN | apply below_drew1) | exact HB.out))) : w.heap.size ≤ gb107)); clear HB; have HB := n0_; have BK107 := n1_; have GW107 := n2_; have GE107 := n3_; clear n0_ n1_ n2_ n3_; clear hb hbox hg) | ((with_reducible refine gate_callee (f := 22) rfl ?_); refine goesL_ (some 9) rfl rfl Tryd.func22 (by kernel_rfl) rfl #[.string a0, .string (⟨#[32]⟩ : ByteArray)] rfl (by (try simp only [List.map_toArray, List.map_cons, List.map_nil]); first | done | rfl | (simp only [List.length_drop, List.length_take]; rfl)) ?_; (with_reducible refine (strings_Trim.calls a0 (⟨#[32]⟩ : ByteArray) t108 _ A2.out).mono ?_); rintro e w24 ⟨rfl, hb⟩; refine ⟨_, rfl, ?_⟩; have n0_ := Aside0.mk (blk_below (g := gb107) (o := .cells #[.int .i64 0, .int .i64 0, .string (⟨#[]⟩ : ByteArray), .slice none 0 0] 47 (0, 0)) (by (with_reducible repeat (first | refine blk_drewN ?_ _ | refine blk_drew ?_ | refine blk_alloc ?_ _)); exact BK107.out) hb); have n1_ := Aside0.mk (below_step (by repeat (first | (with_reducible first | exact HB.out | apply below_alloc | apply pw_below_drewN | apply below_drew1 | refine below_set ?_ GE107.out) | exact HB.out)) hb); clear BK107; clear HB; have BK107 := n0_; have HB := n1_; clear n0_ n1_; (try clear hb); (try clear hb2); (try clear hk); (try clear hi)) | ((with_reducible refine gate_callee (f := 21) rfl ?_); refine goesL_ (some 10) rfl rfl Tryd.func21 (by kernel_rfl) rfl #[.string t108] rfl (by (try simp only [List.map_toArray, List.map_cons, List.map_nil]); first | done | rfl | (simp only [List.length_drop, List.length_take]; rfl)) ?_; (with_reducible refine (sfitem_Next.calls t108 t109 t110 t111 t112 t115 t116 _ A3.out).mono ?_); rintro e w25 ⟨v113, rfl, ho0, hb⟩; refine ⟨_, rfl, ?_⟩; have n0_ := Aside0.mk (Kd.R_lower ho0 (below_size (by repeat (first | (with_reducible first | exact HB.out | apply below_alloc | apply pw_below_drewN | apply below_drew1 | refine below_set ?_ GE107.out) | exact HB.out)))); have n1_ := Aside0.mk (blk_below (g := gb107) (o := .cells #[.int .i64 0, .int .i64 0, .string (⟨#[]⟩ : ByteArray), .slice none 0 0] 47 (0, 0)) (by (with_reducible repeat (first | refine blk_drewN ?_ _ | refine blk_drew ?_ | refine blk_alloc ?_ _)); exact BK107.out) hb); have n2_ := Aside0.mk (below_step (by repeat (first | (with_reducible first | exact HB.out | apply below_alloc | apply pw_below_drewN | apply below_drew1 | refine below_set ?_ GE107.out) | exact HB.out)) hb); clear BK107; clear HB; have HO114 := n0_; have BK107 := n1_; have HB := n2_; clear n0_ n1_ n2_; (try clear hb); (try clear hb2); (try clear hk); (try clear hi); (try clear ho0)) | ((with_reducible refine gate_dst (N := 4) rfl ?_); (try (refine gate_guard (by rfl) ?_; dsimp only)); refine box_event ?hg (N := 4) ?hd (cs := #[.int .i64 0, .int .i64 0, .string (⟨#[]⟩ : ByteArray), .slice none 0 0]) (t := 47) ?hr ?_; (case hd => rfl); (case hg => rfl); (case hr => first | (go_simp; done) | (go_simp; rfl)); intro gb117 hg w26 hbox hb; have n0_ := Aside0.mk (Kd.R_below (by (with_reducible repeat (first | apply Kd.R_alloc | apply Kd.R_drewN | apply Kd.R_drew)); exact HO114.out) hb); have n1_ := Aside0.mk (blk_below (g := gb107) (o := .cells #[.int .i64 0, .int .i64 0, .string (⟨#[]⟩ : ByteArray), .slice none 0 0] 47 (0, 0)) (by (with_reducible repeat (first | refine blk_drewN ?_ _ | refine blk_drew ?_ | refine blk_alloc ?_ _)); exact BK107.out) hb); have n2_ := Aside0.mk (below_step (by repeat (first | (with_reducible first | exact HB.out | apply below_alloc | apply pw_below_drewN | apply below_drew1 | refine below_set ?_ GE107.out) | exact HB.out)) hb); have n3_ := Aside0.mk (hbox); have n4_ := Aside0.mk ((by rw [hg]; exact (below_size (by repeat (first | (with_reducible first | exact HB.out | apply below_alloc | apply pw_below_drewN | apply below_drew1 | refine below_set ?_ GE107.out) | exact HB.out))) : w.heap.size ≤ gb117)); have n5_ := Aside0.mk ((by rw [hg]; exact (below_size (by repeat (first | (with_reducible first | exact HB.out | apply below_alloc | apply pw_below_drewN | apply below_drew1 | refine below_set ?_ GE107.out) | exact HB.out))) : w.heap.size ≤ gb117)); have n6_ := Aside0.mk ((by rw [hg]; exact Nat.ne_of_lt (blk_lt (g := gb107) (o := .cells #[.int .i64 0, .int .i64 0, .string (⟨#[]⟩ : ByteArray), .slice none 0 0] 47 (0, 0)) (by (with_reducible repeat (first | refine blk_drewN ?_ _ | refine blk_drew ?_ | refine blk_alloc ?_ _)); exact BK107.out)) : gb107 ≠ gb117)); have n7_ := Aside0.mk ((by rw [hg]; exact Nat.ne_of_gt (blk_lt (g := gb107) (o := .cells #[.int .i64 0, .int .i64 0, .string (⟨#[]⟩ : ByteArray), .slice none 0 0] 47 (0, 0)) (by (with_reducible repeat (first | refine blk_drewN ?_ _ | refine blk_drew ?_ | refine blk_alloc ?_ _)); exact BK107.out)) : gb117 ≠ gb107)); clear HO114; clear BK107; clear HB; have HO114 := n0_; have BK107 := n1_; have HB := n2_; have BK117 := n3_; have GW117 := n4_; have GE117 := n5_; have NB107_117 := n6_; have NB117_107 := n7_; clear n0_ n1_ n2_ n3_ n4_ n5_ n6_ n7_; clear hb hbox hg; have hnb27 := NB117_107.out; have hnc27 := NB107_117.out; have hcz28_0 : w26.cell? ⟨gb117, 0, none⟩ = some (.int .i64 0) := (blk_cell BK117.out 0).trans rfl; have hcz28_1 : w26.cell? ⟨gb117, 1, none⟩ = some (.int .i64 0) := (blk_cell BK117.out 1).trans rfl; have hcz28_2 : w26.cell? ⟨gb117, 2, none⟩ = some (.string (⟨#[]⟩ : ByteArray)) := (blk_cell BK117.out 2).trans rfl; have hcz28_3 : w26.cell? ⟨gb117, 3, none⟩ = some (.slice none 0 0) := (blk_cell BK117.out 3).trans rfl; have hfz28_0 := blk_frozen BK117.out 0; have hfz28_1 := blk_frozen BK117.out 1; have hfz28_2 := blk_frozen BK117.out 2; have hfz28_3 := blk_frozen BK117.out 3; obtain ⟨Ao29, co29, eo29⟩ := Kd.R_slice HO114.out; subst eo29; have hcz30_0 : w26.cell? ⟨gb107, 0, none⟩ = some (.int .i64 0) := (blk_cell BK107.out 0).trans rfl; have hcz30_1 : w26.cell? ⟨gb107, 1, none⟩ = some (.int .i64 0) := (blk_cell BK107.out 1).trans rfl; have hcz30_2 : w26.cell? ⟨gb107, 2, none⟩ = some (.string (⟨#[]⟩ : ByteArray)) := (blk_cell BK107.out 2).trans rfl; have hcz30_3 : w26.cell? ⟨gb107, 3, none⟩ = some (.slice none 0 0) := (blk_cell BK107.out 3).trans rfl; have hfz30_0 := blk_frozen BK107.out 0; have hfz30_1 := blk_frozen BK107.out 1; have hfz30_2 := blk_frozen BK107.out 2; have hfz30_3 := blk_frozen BK107.out 3))
      refine bodyPost_ret (results_ct rfl _ _ gb107 47 #[.int .i64 0, .int .i64 0, .string (⟨#[]⟩ : ByteArray), .slice none 0 0] (0, 0) _ rfl (by (with_reducible repeat (first | refine blk_drewN ?_ _ | refine blk_drew ?_ | refine blk_alloc ?_ _)); refine blk_put (cs := #[.int .i64 0, .int .i64 0, .string (⟨#[]⟩ : ByteArray), .slice none 0 0]) ?_ 3 _ rfl; (with_reducible repeat (first | refine blk_drewN ?_ _ | refine blk_drew ?_ | refine blk_alloc ?_ _)); refine blk_put (cs := #[.int .i64 0, .int .i64 0, .string (⟨#[]⟩ : ByteArray), .slice none 0 0]) ?_ 2 _ rfl; (with_reducible repeat (first | refine blk_drewN ?_ _ | refine blk_drew ?_ | refine blk_alloc ?_ _)); refine blk_put (cs := #[.int .i64 0, .int .i64 0, .string (⟨#[]⟩ : ByteArray), .slice none 0 0]) ?_ 1 _ rfl; (with_reducible repeat (first | refine blk_drewN ?_ _ | refine blk_drew ?_ | refine blk_alloc ?_ _)); refine blk_put (cs := #[.int .i64 0, .int .i64 0, .string (⟨#[]⟩ : ByteArray), .slice none 0 0]) ?_ 0 _ rfl; (with_reducible repeat (first | refine blk_drewN ?_ _ | refine blk_drew ?_ | refine blk_alloc ?_ _)); refine blk_far ?_ NB107_117.out _; (with_reducible repeat (first | refine blk_drewN ?_ _ | refine blk_drew ?_ | refine blk_alloc ?_ _)); refine blk_far ?_ NB107_117.out _; (with_reducible repeat (first | refine blk_drewN ?_ _ | refine blk_drew ?_ | refine blk_alloc ?_ _)); refine blk_far ?_ NB107_117.out _; (with_reducible repeat (first | refine blk_drewN ?_ _ | refine blk_drew ?_ | refine blk_alloc ?_ _)); refine blk_far ?_ NB107_117.out _; (with_reducible repeat (first | refine blk_drewN ?_ _ | refine blk_drew ?_ | refine blk_alloc ?_ _)); exact BK107.out) Tryd.underlying47 rfl (by kernel_rfl)) rfl ?_
      exact ⟨_, by first | rfl | (simp [errW_none, errW_some] <;> rfl) | (simp [*, errW_none, errW_some] <;> rfl) | (simp [q_ne_nil]; done), by first | exact Kd.R_nil _ _ _ _ _ | exact Kd.N_nil _ _ _ _ _ | exact Kd.V_nil _ _ _ _ _ | exact Kd.Q_nil _ _ _ _ _ | exact Kd.S_nil _ _ _ _ _, by repeat (first | (with_reducible first | exact HB.out | apply below_alloc | apply pw_below_drewN | apply below_drew1 | refine below_set ?_ GE107.out | refine below_set ?_ GE117.out) | exact HB.out)⟩
  · rw [if_neg c4] at H
    have c4b0 : (t116 == 0) = false := beq_eq_false_iff_ne.mpr c4
    have c4b1 : (t116 != 0) = true := bne_iff_ne.mpr c4
    simp only [Option.some.injEq, Prod.mk.injEq] at H
    obtain ⟨rfl, rfl, rfl, rfl, rfl⟩ := H
    go_enter Tryd.func18, Tryd.ntmps18
    go_wp2_with (first | ((with_reducible refine gate_dst (N := 2) rfl ?_); (try (refine gate_guard (by rfl) ?_; dsimp only)); refine box_event ?hg (N := 2) ?hd (cs := #[.int .i64 0, .int .i64 0, .string (⟨#[]⟩ : ByteArray), .slice none 0 0]) (t := 47) ?hr ?_; (case hd => rfl); (case hg => rfl); (case hr => first | (go_simp; done) | (go_simp; rfl)); intro gb107 hg w31 hbox hb; have n0_ := Aside0.mk (below_step (by repeat (first | (with_reducible first | exact HB.out | apply below_alloc | apply pw_below_drewN | apply below_drew1) | exact HB.out)) hb); have n1_ := Aside0.mk (hbox); have n2_ := Aside0.mk ((by rw [hg]; exact (below_size (by repeat (first | (with_reducible first | exact HB.out | apply below_alloc | apply pw_below_drewN | apply below_drew1) | exact HB.out))) : w.heap.size ≤ gb107)); have n3_ := Aside0.mk ((by rw [hg]; exact (below_size (by repeat (first | (with_reducible first | exact HB.out | apply below_alloc | apply pw_below_drewN | apply below_drew1) | exact HB.out))) : w.heap.size ≤ gb107)); clear HB; have HB := n0_; have BK107 := n1_; have GW107 := n2_; have GE107 := n3_; clear n0_ n1_ n2_ n3_; clear hb hbox hg) | ((with_reducible refine gate_callee (f := 22) rfl ?_); refine goesL_ (some 9) rfl rfl Tryd.func22 (by kernel_rfl) rfl #[.string a0, .string (⟨#[32]⟩ : ByteArray)] rfl (by (try simp only [List.map_toArray, List.map_cons, List.map_nil]); first | done | rfl | (simp only [List.length_drop, List.length_take]; rfl)) ?_; (with_reducible refine (strings_Trim.calls a0 (⟨#[32]⟩ : ByteArray) t108 _ A2.out).mono ?_); rintro e w32 ⟨rfl, hb⟩; refine ⟨_, rfl, ?_⟩; have n0_ := Aside0.mk (blk_below (g := gb107) (o := .cells #[.int .i64 0, .int .i64 0, .string (⟨#[]⟩ : ByteArray), .slice none 0 0] 47 (0, 0)) (by (with_reducible repeat (first | refine blk_drewN ?_ _ | refine blk_drew ?_ | refine blk_alloc ?_ _)); exact BK107.out) hb); have n1_ := Aside0.mk (below_step (by repeat (first | (with_reducible first | exact HB.out | apply below_alloc | apply pw_below_drewN | apply below_drew1 | refine below_set ?_ GE107.out) | exact HB.out)) hb); clear BK107; clear HB; have BK107 := n0_; have HB := n1_; clear n0_ n1_; (try clear hb); (try clear hb2); (try clear hk); (try clear hi)) | ((with_reducible refine gate_callee (f := 21) rfl ?_); refine goesL_ (some 10) rfl rfl Tryd.func21 (by kernel_rfl) rfl #[.string t108] rfl (by (try simp only [List.map_toArray, List.map_cons, List.map_nil]); first | done | rfl | (simp only [List.length_drop, List.length_take]; rfl)) ?_; (with_reducible refine (sfitem_Next.calls t108 t109 t110 t111 t112 t115 t116 _ A3.out).mono ?_); rintro e w33 ⟨v113, rfl, ho0, hb⟩; refine ⟨_, rfl, ?_⟩; have n0_ := Aside0.mk (Kd.R_lower ho0 (below_size (by repeat (first | (with_reducible first | exact HB.out | apply below_alloc | apply pw_below_drewN | apply below_drew1 | refine below_set ?_ GE107.out) | exact HB.out)))); have n1_ := Aside0.mk (blk_below (g := gb107) (o := .cells #[.int .i64 0, .int .i64 0, .string (⟨#[]⟩ : ByteArray), .slice none 0 0] 47 (0, 0)) (by (with_reducible repeat (first | refine blk_drewN ?_ _ | refine blk_drew ?_ | refine blk_alloc ?_ _)); exact BK107.out) hb); have n2_ := Aside0.mk (below_step (by repeat (first | (with_reducible first | exact HB.out | apply below_alloc | apply pw_below_drewN | apply below_drew1 | refine below_set ?_ GE107.out) | exact HB.out)) hb); clear BK107; clear HB; have HO114 := n0_; have BK107 := n1_; have HB := n2_; clear n0_ n1_ n2_; (try clear hb); (try clear hb2); (try clear hk); (try clear hi); (try clear ho0)) | ((with_reducible refine gate_dst (N := 4) rfl ?_); (try (refine gate_guard (by rfl) ?_; dsimp only)); refine box_event ?hg (N := 4) ?hd (cs := #[.int .i64 0, .int .i64 0, .string (⟨#[]⟩ : ByteArray), .slice none 0 0]) (t := 47) ?hr ?_; (case hd => rfl); (case hg => rfl); (case hr => first | (go_simp; done) | (go_simp; rfl)); intro gb117 hg w34 hbox hb; have n0_ := Aside0.mk (Kd.R_below (by (with_reducible repeat (first | apply Kd.R_alloc | apply Kd.R_drewN | apply Kd.R_drew)); exact HO114.out) hb); have n1_ := Aside0.mk (blk_below (g := gb107) (o := .cells #[.int .i64 0, .int .i64 0, .string (⟨#[]⟩ : ByteArray), .slice none 0 0] 47 (0, 0)) (by (with_reducible repeat (first | refine blk_drewN ?_ _ | refine blk_drew ?_ | refine blk_alloc ?_ _)); exact BK107.out) hb); have n2_ := Aside0.mk (below_step (by repeat (first | (with_reducible first | exact HB.out | apply below_alloc | apply pw_below_drewN | apply below_drew1 | refine below_set ?_ GE107.out) | exact HB.out)) hb); have n3_ := Aside0.mk (hbox); have n4_ := Aside0.mk ((by rw [hg]; exact (below_size (by repeat (first | (with_reducible first | exact HB.out | apply below_alloc | apply pw_below_drewN | apply below_drew1 | refine below_set ?_ GE107.out) | exact HB.out))) : w.heap.size ≤ gb117)); have n5_ := Aside0.mk ((by rw [hg]; exact (below_size (by repeat (first | (with_reducible first | exact HB.out | apply below_alloc | apply pw_below_drewN | apply below_drew1 | refine below_set ?_ GE107.out) | exact HB.out))) : w.heap.size ≤ gb117)); have n6_ := Aside0.mk ((by rw [hg]; exact Nat.ne_of_lt (blk_lt (g := gb107) (o := .cells #[.int .i64 0, .int .i64 0, .string (⟨#[]⟩ : ByteArray), .slice none 0 0] 47 (0, 0)) (by (with_reducible repeat (first | refine blk_drewN ?_ _ | refine blk_drew ?_ | refine blk_alloc ?_ _)); exact BK107.out)) : gb107 ≠ gb117)); have n7_ := Aside0.mk ((by rw [hg]; exact Nat.ne_of_gt (blk_lt (g := gb107) (o := .cells #[.int .i64 0, .int .i64 0, .string (⟨#[]⟩ : ByteArray), .slice none 0 0] 47 (0, 0)) (by (with_reducible repeat (first | refine blk_drewN ?_ _ | refine blk_drew ?_ | refine blk_alloc ?_ _)); exact BK107.out)) : gb117 ≠ gb107)); clear HO114; clear BK107; clear HB; have HO114 := n0_; have BK107 := n1_; have HB := n2_; have BK117 := n3_; have GW117 := n4_; have GE117 := n5_; have NB107_117 := n6_; have NB117_107 := n7_; clear n0_ n1_ n2_ n3_ n4_ n5_ n6_ n7_; clear hb hbox hg; have hnb35 := NB117_107.out; have hnc35 := NB107_117.out; have hcz36_0 : w34.cell? ⟨gb117, 0, none⟩ = some (.int .i64 0) := (blk_cell BK117.out 0).trans rfl; have hcz36_1 : w34.cell? ⟨gb117, 1, none⟩ = some (.int .i64 0) := (blk_cell BK117.out 1).trans rfl; have hcz36_2 : w34.cell? ⟨gb117, 2, none⟩ = some (.string (⟨#[]⟩ : ByteArray)) := (blk_cell BK117.out 2).trans rfl; have hcz36_3 : w34.cell? ⟨gb117, 3, none⟩ = some (.slice none 0 0) := (blk_cell BK117.out 3).trans rfl; have hfz36_0 := blk_frozen BK117.out 0; have hfz36_1 := blk_frozen BK117.out 1; have hfz36_2 := blk_frozen BK117.out 2; have hfz36_3 := blk_frozen BK117.out 3; obtain ⟨Ao37, co37, eo37⟩ := Kd.R_slice HO114.out; subst eo37; have hcz38_0 : w34.cell? ⟨gb107, 0, none⟩ = some (.int .i64 0) := (blk_cell BK107.out 0).trans rfl; have hcz38_1 : w34.cell? ⟨gb107, 1, none⟩ = some (.int .i64 0) := (blk_cell BK107.out 1).trans rfl; have hcz38_2 : w34.cell? ⟨gb107, 2, none⟩ = some (.string (⟨#[]⟩ : ByteArray)) := (blk_cell BK107.out 2).trans rfl; have hcz38_3 : w34.cell? ⟨gb107, 3, none⟩ = some (.slice none 0 0) := (blk_cell BK107.out 3).trans rfl; have hfz38_0 := blk_frozen BK107.out 0; have hfz38_1 := blk_frozen BK107.out 1; have hfz38_2 := blk_frozen BK107.out 2; have hfz38_3 := blk_frozen BK107.out 3))
    refine bodyPost_ret (results_ct rfl _ _ gb107 47 #[.int .i64 0, .int .i64 0, .string (⟨#[]⟩ : ByteArray), .slice none 0 0] (0, 0) _ rfl (by (with_reducible repeat (first | refine blk_drewN ?_ _ | refine blk_drew ?_ | refine blk_alloc ?_ _)); refine blk_put (cs := #[.int .i64 0, .int .i64 0, .string (⟨#[]⟩ : ByteArray), .slice none 0 0]) ?_ 3 _ rfl; (with_reducible repeat (first | refine blk_drewN ?_ _ | refine blk_drew ?_ | refine blk_alloc ?_ _)); refine blk_put (cs := #[.int .i64 0, .int .i64 0, .string (⟨#[]⟩ : ByteArray), .slice none 0 0]) ?_ 2 _ rfl; (with_reducible repeat (first | refine blk_drewN ?_ _ | refine blk_drew ?_ | refine blk_alloc ?_ _)); refine blk_put (cs := #[.int .i64 0, .int .i64 0, .string (⟨#[]⟩ : ByteArray), .slice none 0 0]) ?_ 1 _ rfl; (with_reducible repeat (first | refine blk_drewN ?_ _ | refine blk_drew ?_ | refine blk_alloc ?_ _)); refine blk_put (cs := #[.int .i64 0, .int .i64 0, .string (⟨#[]⟩ : ByteArray), .slice none 0 0]) ?_ 0 _ rfl; (with_reducible repeat (first | refine blk_drewN ?_ _ | refine blk_drew ?_ | refine blk_alloc ?_ _)); refine blk_far ?_ NB107_117.out _; (with_reducible repeat (first | refine blk_drewN ?_ _ | refine blk_drew ?_ | refine blk_alloc ?_ _)); refine blk_far ?_ NB107_117.out _; (with_reducible repeat (first | refine blk_drewN ?_ _ | refine blk_drew ?_ | refine blk_alloc ?_ _)); refine blk_far ?_ NB107_117.out _; (with_reducible repeat (first | refine blk_drewN ?_ _ | refine blk_drew ?_ | refine blk_alloc ?_ _)); refine blk_far ?_ NB107_117.out _; (with_reducible repeat (first | refine blk_drewN ?_ _ | refine blk_drew ?_ | refine blk_alloc ?_ _)); exact BK107.out) Tryd.underlying47 rfl (by kernel_rfl)) rfl ?_
    exact ⟨_, by first | rfl | (simp [errW_none, errW_some] <;> rfl) | (simp [*, errW_none, errW_some] <;> rfl) | (simp [q_ne_nil]; done), by first | exact Kd.R_nil _ _ _ _ _ | exact Kd.N_nil _ _ _ _ _ | exact Kd.V_nil _ _ _ _ _ | exact Kd.Q_nil _ _ _ _ _ | exact Kd.S_nil _ _ _ _ _, by repeat (first | (with_reducible first | exact HB.out | apply below_alloc | apply pw_below_drewN | apply below_drew1 | refine below_set ?_ GE107.out | refine below_set ?_ GE117.out) | exact HB.out)⟩

end Go.Proofs.YtciigmlibnpeeaaDoor.Q
