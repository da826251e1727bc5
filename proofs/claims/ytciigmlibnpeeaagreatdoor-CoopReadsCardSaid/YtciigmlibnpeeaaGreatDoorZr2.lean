/- The law CoopReads: contracts, words and plain lemmas that its proof reaches, part 2. Its conditions: the row's own. -/
import Derived.Test.YtciigmlibnpeeaaGreatDoorZr1
namespace Go.Proofs.YtciigmlibnpeeaaGreatDoor.Q
open Go.RowKit Go.Proofs.YtciigmlibnpeeaaGreatDoorW.PrintWords Go.Proofs.YtciigmlibnpeeaaGreatDoorW.PrintLast Go.Proofs.YtciigmlibnpeeaaGreatDoorW.PrintMore
set_option linter.unusedVariables false
set_option linter.unusedSimpArgs false
open Go.Proofs.YtciigmlibnpeeaaGreatDoor.Sf
theorem str_eq (s t : ByteArray) : (s.toList == t.toList) = decide (s = t) := by
  by_cases h : s = t
  · subst h; simp
  · have : ¬ s.toList = t.toList := fun e => h (by
      rw [Lib.toList_data, Lib.toList_data] at e
      exact ByteArray.ext (Array.toList_inj.1 e))
    rw [decide_eq_false h]; exact beq_eq_false_iff_ne.mpr this
/-- A block that holds a text. -/
def SB (W : World) (b : Nat) (s : ByteArray) : Prop := W.heap[b]? = some (.cells #[.string s] 9 (0, 0))
theorem SB.cell {W : World} {b : Nat} {s : ByteArray} (h : SB W b s) : W.cell? ⟨b, 0, none⟩ = some (.string s) := (blk_cell h 0).trans rfl
set_option maxHeartbeats 2000000 in
theorem same_key (q : S61) (kb : Nat) (key : ByteArray) (W : World) (hk : SB W kb key) :
    Calls Tryz.prog 82 #[.agg #[.string q.f0, .int .i64 q.f1, .int .i64 q.f2, .string q.f3], .pointer (some ⟨kb, 0, none⟩)] W fun e w' => e = .returned (.bool (q.f0.toList == key.toList)) ∧ Below W.heap.size W w' := by
  have hc := hk.cell
  have hc2 : (W.alloc (.cells #[.string q.f0, .int .i64 q.f1, .int .i64 q.f2, .string q.f3] 61)).cell? ⟨kb, 0, none⟩ = some (.string key) := (show SB (W.alloc _) kb key from blk_alloc hk _).cell
  clear hk
  go_enter Tryz.func82, Tryz.ntmps82
  go_wp2
  go_ret
  exact ⟨rfl, below_alloc (Below.refl _ _) _⟩
/-- Where a key stands. -/
def IdxAt (key : ByteArray) (l : List S61) (r : Int) : Prop := (∃ i : Nat, r = i ∧ i < l.length ∧ (rd_T61 l i).f0 = key ∧ ∀ j : Nat, j < i → (rd_T61 l j).f0 ≠ key) ∨ (r = -1 ∧ ∀ j : Nat, j < l.length → (rd_T61 l j).f0 ≠ key)
theorem SB.below {W W' : World} {b : Nat} {s : ByteArray} (h : SB W b s) (hb : Below W.heap.size W W') : SB W' b s := blk_below h hb
set_option maxHeartbeats 2000000 in
set_option maxRecDepth 100000 in
theorem index_calls (A : Option Addr) (c : Nat) (l : List S61) (kb : Nat) (key : ByteArray) (w : World) (hC : Kd.C k61 w A l.length l) (hk : SB w kb key) (hl : l.length ≤ 4611686018427387904) :
    Calls Tryz.prog 81 #[.slice A l.length c, .func (.func 82) #[] #[.pointer (some ⟨kb, 0, none⟩)]] w fun e w' => (∃ r : Int, e = .returned (.int .i64 r) ∧ IdxAt key l r) ∧ Below w.heap.size w w' := by
  have hu61 := Tryz.underlying61
  have HC := Aside0.mk hC
  have HK := Aside0.mk hk
  clear hC hk
  go_enter Tryz.func81, Tryz.ntmps81
  go_wp2
  go_loopw [8] (fun v8 wr => ∃ k : Nat, k ≤ l.length ∧ v8 = .int .i64 k ∧ Aside0 (∀ j : Nat, j < k → (rd_T61 l j).f0 ≠ key) ∧ Aside0 (Below w.heap.size w wr)) (fun v8 _ => l.length - (intOf v8).toNat)
  case atStart => exact ⟨0, Nat.zero_le _, rfl, ⟨fun j hj => by omega⟩, ⟨Below.refl _ _⟩⟩
  case round =>
    obtain ⟨k, hk, rfl, hJ, hB⟩ := hrel
    by_cases hlt : k < l.length
    · have hltd : decide ((k : Int) < (l.length : Int)) = true := decide_eq_true (by omega)
      have hK2 := HK.out.below hB.out
      obtain ⟨ad, hA, h0, h1, h2, h3⟩ := at_T61 (Kd.C_below HC.out hB.out) (k : Int) (by omega) (by omega)
      subst hA
      simp only [Int.toNat_natCast] at h0 h1 h2 h3
      have p1 : (0 ≤ (k : Int)) = True := eq_true (by omega)
      have p2 : ((k : Int) < (l.length : Int)) = True := eq_true (by omega)
      have hcall := same_key (rd_T61 l k) kb key wr hK2
      rw [str_eq] at hcall
      by_cases hm : (rd_T61 l k).f0 = key
      · rw [decide_eq_true hm] at hcall
        have hI : Aside0 (IdxAt key l (k : Int)) := ⟨Or.inl ⟨k, rfl, hlt, hm, hJ.out⟩⟩
        clear hm hJ
        generalize hq : rd_T61 l k = q at *
        clear hq
        go_wp2_with (first | (go_at_call 82; refine hcall.mono ?_; rintro e w' ⟨rfl, hb⟩))
        go_ret
        exact ⟨⟨_, rfl, hI.out⟩, hB.out.trans (hb.mono hB.out.size)⟩
      · rw [decide_eq_false hm] at hcall
        have hI : Aside0 (∀ j : Nat, j < k + 1 → (rd_T61 l j).f0 ≠ key) := ⟨fun j hj => by
          by_cases h : j < k
          · exact hJ.out j h
          · obtain rfl : j = k := by omega
            exact hm⟩
        clear hm hJ
        generalize hq : rd_T61 l k = q at *
        clear hq
        go_wp2_with (first | (go_at_call 82; refine hcall.mono ?_; rintro e w' ⟨rfl, hb⟩))
        go_roundw
        case rel => exact ⟨k + 1, by omega, by go_num, hI, ⟨hB.out.trans (hb.mono hB.out.size)⟩⟩
        case measure => simp [intOf]; omega
    · obtain rfl : k = l.length := by omega
      have hltd : decide ((l.length : Int) < (l.length : Int)) = false := decide_eq_false (by omega)
      have hI : Aside0 (IdxAt key l (-1)) := ⟨Or.inr ⟨rfl, hJ.out⟩⟩
      clear hJ
      go_wp2
      go_ret
      exact ⟨⟨_, rfl, hI.out⟩, hB.out⟩
/-- The parameters that a text begins with. -/
def withP (key : ByteArray) (l : List S61) (p : S61) : List S61 :=
  match l.findIdx? (fun q => decide (q.f0 = key)) with | some i => l.set i p | none => l ++ [p]
def pF : Nat → ByteArray → List S61 → Option (List S61 × ByteArray)
  | 0, _, _ => none
  | d + 1, s, l => if atF s 59 = true then
      (rdKey (drpB spP (tl s))).bind fun kr =>
        if atF kr.2 61 = true then (rdValue (tl kr.2)).bind fun vr => pF d vr.2 (withP kr.1 l ⟨kr.1, vr.1.1, vr.1.2.1, vr.1.2.2⟩)
        else pF d kr.2 (withP kr.1 l ⟨kr.1, 6, 1, ⟨#[]⟩⟩)
    else some (l, s)
def rdParams (s : ByteArray) : Option (List S61 × ByteArray) := pF (s.size + 1) s []
theorem withP_len (key : ByteArray) (l : List S61) (p : S61) : (withP key l p).length ≤ l.length + 1 := by
  unfold withP
  split
  · rw [List.length_set]; omega
  · simp
theorem rd_get (l : List S61) (j : Nat) (h : j < l.length) : rd_T61 l j = l[j] := by
  unfold rd_T61
  simp [List.getD_eq_getElem?_getD, List.getElem?_eq_getElem h]
theorem withP_at (key : ByteArray) (l : List S61) (p : S61) (i : Nat) (hi : i < l.length) (h1 : (rd_T61 l i).f0 = key) (h2 : ∀ j : Nat, j < i → (rd_T61 l j).f0 ≠ key) : withP key l p = l.set i p := by
  have : l.findIdx? (fun q => decide (q.f0 = key)) = some i := by
    rw [List.findIdx?_eq_some_iff_getElem]
    refine ⟨hi, by rw [rd_get l i hi] at h1; exact decide_eq_true h1, fun j hj => ?_⟩
    have := h2 j hj
    rw [rd_get l j (by omega)] at this
    simpa using this
  unfold withP; rw [this]
theorem withP_none (key : ByteArray) (l : List S61) (p : S61) (h : ∀ j : Nat, j < l.length → (rd_T61 l j).f0 ≠ key) : withP key l p = l ++ [p] := by
  have : l.findIdx? (fun q => decide (q.f0 = key)) = none := by
    rw [List.findIdx?_eq_none_iff]
    intro x hx
    obtain ⟨j, hj, rfl⟩ := List.getElem_of_mem hx
    have := h j hj
    rw [rd_get l j hj] at this
    simpa using this
  unfold withP; rw [this]
theorem key_rest {s : ByteArray} {k t : ByteArray} (h : rdKey s = some (k, t)) : t.size ≤ s.size := by
  unfold rdKey at h
  by_cases c : 0 < s.size ∧ (smP (bt s 0) = true ∨ bt s 0 = 42)
  · rw [if_pos c] at h
    have := (Prod.mk.inj (Option.some.inj h)).2
    rw [← this]; exact drp_size _ _
  · rw [if_neg c] at h; cases h
theorem some_rest {α : Type} {a v : α} {b t : ByteArray} {n : Nat} (h : some (a, b) = some (v, t)) (hb : b.size ≤ n) : t.size ≤ n := by
  have := (Prod.mk.inj (Option.some.inj h)).2
  rw [← this]; exact hb
theorem none_rest {α : Type} {v : α} {t : ByteArray} {P : Prop} (h : (none : Option (α × ByteArray)) = some (v, t)) : P := nomatch h
theorem number_rest {s : ByteArray} {v : Int × Int × ByteArray} {t : ByteArray} (h : rdNumber s = some (v, t)) : t.size ≤ s.size := by
  rw [rdNumber_eq] at h
  have h1 := atR_size s 45
  have h2 := drp_size dgP (atR s 45)
  have h3 := tl_size (drpB dgP (atR s 45))
  have h4 := drp_size dgP (tl (drpB dgP (atR s 45)))
  by_cases c1 : (takB dgP (atR s 45)).size = 0
  · rw [if_pos c1] at h; exact none_rest h
  · rw [if_neg c1] at h
    by_cases c2 : atF (drpB dgP (atR s 45)) 46 = true
    · rw [if_pos c2] at h
      by_cases c3 : (takB dgP (atR s 45)).size > 12 ∨ (takB dgP (tl (drpB dgP (atR s 45)))).size = 0 ∨ (takB dgP (tl (drpB dgP (atR s 45)))).size > 3
      · rw [if_pos c3] at h; exact none_rest h
      · rw [if_neg c3] at h; exact some_rest h (by omega)
    · rw [if_neg c2] at h
      by_cases c4 : (takB dgP (atR s 45)).size > 15
      · rw [if_pos c4] at h; exact none_rest h
      · rw [if_neg c4] at h; exact some_rest h (by omega)
theorem qF_rest : ∀ (d : Nat) (s : ByteArray) (xs : List Int) (o t : ByteArray), qF d s xs = some (o, t) → t.size ≤ s.size
  | 0, _, _, _, _, h => by rw [qF] at h; exact none_rest h
  | d + 1, s, xs, o, t, h => by
    have ih := qF_rest d
    rw [qF] at h
    have h1 := tl_size s
    have h2 := tl_size (tl s)
    by_cases c1 : 0 < s.size
    · rw [if_pos c1] at h
      by_cases c2 : bt s 0 = 34
      · rw [if_pos c2] at h; exact some_rest h h1
      · rw [if_neg c2] at h
        by_cases c3 : bt s 0 < 32 ∨ 126 < bt s 0 ∨ (bt s 0 = 92 ∧ ¬ (0 < (tl s).size ∧ wiP (bt (tl s) 0) ⟨#[34, 92]⟩ = true))
        · rw [if_pos c3] at h; exact none_rest h
        · rw [if_neg c3] at h
          by_cases c4 : bt s 0 = 92
          · rw [if_pos c4] at h; exact Nat.le_trans (ih _ _ _ _ h) (Nat.le_trans h2 h1)
          · rw [if_neg c4] at h; exact Nat.le_trans (ih _ _ _ _ h) h1
    · rw [if_neg c1] at h; exact none_rest h
theorem quoted_rest {s : ByteArray} {v : Int × Int × ByteArray} {t : ByteArray} (h : rdQuoted s = some (v, t)) : t.size ≤ s.size := by
  unfold rdQuoted at h
  obtain ⟨p, hp, he⟩ := Option.map_eq_some_iff.1 h
  have := (Prod.mk.inj he).2
  rw [← this]
  exact qF_rest _ _ _ p.1 p.2 hp
theorem value_rest {s : ByteArray} {v : Int × Int × ByteArray} {t : ByteArray} (h : rdValue s = some (v, t)) : t.size ≤ s.size := by
  have h1 := tl_size s
  unfold rdValue at h
  by_cases c0 : 0 < s.size
  · rw [if_pos c0] at h
    by_cases c1 : bt s 0 = 45 ∨ dgP (bt s 0) = true
    · rw [if_pos c1] at h; exact number_rest h
    · rw [if_neg c1] at h
      by_cases c2 : leP (bt s 0) = true ∨ bt s 0 = 42
      · rw [if_pos c2] at h; exact some_rest h (drp_size _ _)
      · rw [if_neg c2] at h
        by_cases c3 : bt s 0 = 34
        · rw [if_pos c3] at h; exact Nat.le_trans (quoted_rest h) h1
        · rw [if_neg c3] at h
          by_cases c4 : bt s 0 = 58
          · rw [if_pos c4] at h
            unfold rdBytes at h
            by_cases c5 : atF (drpB baP (tl s)) 58 = true
            · rw [if_pos c5] at h; exact some_rest h (Nat.le_trans (tl_size _) (Nat.le_trans (drp_size _ _) h1))
            · rw [if_neg c5] at h; exact none_rest h
          · rw [if_neg c4] at h
            by_cases c6 : bt s 0 = 63
            · rw [if_pos c6] at h
              unfold rdBool at h
              by_cases c7 : atF (tl s) 49 = true
              · rw [if_pos c7] at h; exact some_rest h (Nat.le_trans (tl_size _) h1)
              · rw [if_neg c7] at h
                by_cases c8 : atF (tl s) 48 = true
                · rw [if_pos c8] at h; exact some_rest h (Nat.le_trans (tl_size _) h1)
                · rw [if_neg c8] at h; exact none_rest h
            · rw [if_neg c6] at h; exact none_rest h
  · rw [if_neg c0] at h; exact none_rest h
theorem R_kb {W W' : World} {B g : Nat} {ok : Nat → Prop} {v : Value} {l : List S61} (h : Kd.R k61 61 W B ok v l) (hk : KB g W W') (hok : ∀ k, ok k → k ≠ g) : Kd.R k61 61 W' B ok v l := Kd.R_step h (fun k ho hl => hk.block k hl (hok k ho))
theorem SB.far {W : World} {b : Nat} {s : ByteArray} (h : SB W b s) {p : Addr} (hp : b ≠ p.block) (u : Value) : SB (W.setCell p u) b s := blk_far h hp u
theorem SB.put {W : World} {b c : Nat} {s : ByteArray} (h : SB W b s) (hc : b ≠ c) (k : ByteArray) (n i : Int) (t : ByteArray) : SB (putP W c k n i t) b s :=
  (((h.far (p := ⟨c, 0, none⟩) hc _).far (p := ⟨c, 1, none⟩) hc _).far (p := ⟨c, 2, none⟩) hc _).far (p := ⟨c, 3, none⟩) hc _
theorem R_put {W : World} {B b : Nat} {ok : Nat → Prop} {v : Value} {l : List S61} (h : Kd.R k61 61 W B ok v l) (hok : ∀ k, ok k → k ≠ b) (k : ByteArray) (n i : Int) (t : ByteArray) : Kd.R k61 61 (putP W b k n i t) B ok v l :=
  Kd.R_far (p := ⟨b, 3, none⟩) (Kd.R_far (p := ⟨b, 2, none⟩) (Kd.R_far (p := ⟨b, 1, none⟩) (Kd.R_far (p := ⟨b, 0, none⟩) h hok _) hok _) hok _) hok _
theorem R_block {W : World} {B : Nat} {ok : Nat → Prop} {A : Option Addr} {c : Nat} {l : List S61} (h : Kd.R k61 61 W B ok (.slice A l.length c) l) (hl : 0 < l.length) : ∃ gl, A = some ⟨gl, 0, none⟩ := by
  obtain ⟨inner, ho⟩ := Kd.R_own h
  rcases ho.2 with ⟨he, h0⟩ | ⟨g, cap, cur, he, _⟩
  · omega
  · injection he with h1 h2 h3
    exact ⟨g, h1⟩
/-- What params gives. -/
def GivesL (g : Nat) (w : World) (r : Option (List S61 × ByteArray)) (e : Ending) (w' : World) : Prop :=
  (match r with | some (l, t) => ∃ v : Value, e = .returned v ∧ Kd.R k61 61 w' w.heap.size (fun _ => True) v l ∧ Rd w' g t | none => e = gave) ∧ KB g w w'
theorem GivesL.dead {g : Nat} {w w' : World} {r : Option (List S61 × ByteArray)} (h : r = none) (hk : KB g w w') : GivesL g w r gave w' := by subst h; exact ⟨rfl, hk⟩
theorem GivesL.ok {g : Nat} {w w' : World} {r : Option (List S61 × ByteArray)} {l : List S61} {t : ByteArray} {v : Value} {e : Ending} (h : r = some (l, t)) (he : e = .returned v) (hR : Kd.R k61 61 w' w.heap.size (fun _ => True) v l) (hD : Rd w' g t) (hk : KB g w w') : GivesL g w r e w' := by subst h; exact ⟨⟨v, he, hR, hD⟩, hk⟩
theorem while_space (g : Nat) (s : ByteArray) (w : World) (hs : s.size ≤ 9223372036854775806) (hI : Rd w g s) :
    Calls Tryz.prog 74 #[.pointer (some ⟨g, 0, none⟩), .func (.func 79) #[] #[]] w fun e w' => e = .returned (.string (takB spP s)) ∧ Rd w' g (drpB spP s) ∧ KB g w w' := while_calls 79 spP asks_space (Go.Proofs.enters_of Tryz.func79 (by kernel_rfl) rfl) g s w hs hI
set_option maxHeartbeats 8000000 in
set_option maxRecDepth 100000 in
theorem params_calls (g : Nat) (s : ByteArray) (w : World) (hs : s.size ≤ 2199023255552) (hI : Rd w g s) :
    Calls Tryz.prog 58 #[.pointer (some ⟨g, 0, none⟩)] w fun e w' => GivesL g w (rdParams s) e w' := by
  have hmf : ∀ (fn : Fn) (first cap : Array Value) (w : World), (Instr.makeFunc fn first cap).run Tryz.prog w = .ok (.func fn first cap) w := fun _ _ _ _ => rfl
  have hu61 := Tryz.underlying61
  have hI1 := Aside0.mk hI
  clear hI
  go_enter Tryz.func58, Tryz.ntmps58
  go_wp2
  go_loopg [2, 4, 5, 6] (s.size + 1) (fun gf v2 v4 v5 v6 wx => ∃ (t : ByteArray) (l : List S61), Aside0 (Kd.R k61 61 wx w.heap.size (fun _ => True) v2 l) ∧ Aside0 (Rd wx g t) ∧ Aside0 (KB g w wx) ∧ Aside0 (rdParams s = pF gf t l) ∧ t.size < gf ∧ l.length + t.size ≤ s.size)
  case atStart => exact ⟨s, [], ⟨Kd.R_nil _ _ _ _ _⟩, hI1, ⟨KB.refl _ _⟩, ⟨rfl⟩, by omega, by simp⟩
  case round =>
    have hgw : g < w.heap.size := hI1.out.lt
    clear hI1
    obtain ⟨t, l, HR, HD, HK, HQ, hlt, hln⟩ := hrel
    obtain ⟨g', rfl⟩ : ∃ g', gk = g' + 1 := ⟨gk - 1, by omega⟩
    have hq : rdParams s = pF (g' + 1) t l := HQ.out
    clear HQ
    rw [pF] at hq
    cases h59 : atF t 59 with
    | false =>
      rw [if_neg (by rw [h59]; decide)] at hq
      have HG := Aside0.mk hq
      have hA := Aside0.mk (at_no g t 59 h59)
      clear hq h59
      go_wp2_with (first | (go_at_call 76; refine (hA.out _ HD.out).mono ?_; rintro e w2 ⟨rfl, hR2, hB2⟩))
      go_ret
      exact GivesL.ok HG.out rfl (Kd.R_mono (R_kb (Kd.R_types HR.out HD.out (by decide)) hB2 (fun _ hk => hk.2)) (fun _ _ => trivial)) hR2 (HK.out.trans hB2)
    | true =>
      rw [if_pos h59] at hq
      have h0 : 0 < t.size := (of_decide_eq_true h59).1
      have htl := tl_lt t h0
      have hA := Aside0.mk (at_yes g t 59 h59)
      have hz1 := drp_size spP (tl t)
      have hWs := Aside0.mk (fun W (h : Rd W g (tl t)) => while_space g (tl t) W (by omega) h)
      have hKc := fun W (h : Rd W g (drpB spP (tl t))) => key_calls g (drpB spP (tl t)) W (by omega) h
      cases hN : rdKey (drpB spP (tl t)) with
      | none =>
        rw [hN] at hq hKc
        have HG : Aside0 (rdParams s = none) := ⟨hq⟩
        have hKy := Aside0.mk hKc
        clear hq hKc hN h59
        go_wp2_with (first | (go_at_call 80; refine (hKy.out _ hR3).mono ?_; rintro e w4 ⟨rfl, hB4⟩) | (go_at_call 74; refine (hWs.out _ hR2).mono ?_; rintro e w3 ⟨rfl, hR3, hB3⟩) | (go_at_call 76; refine (hA.out _ HD.out).mono ?_; rintro e w2 ⟨rfl, hR2, hB2⟩))
        exact ⟨rfl, GivesL.dead HG.out (((HK.out.trans hB2).trans hB3).trans hB4)⟩
      | some kr =>
        obtain ⟨key, t2⟩ := kr
        have hz2 := key_rest hN
        rw [hN] at hq hKc
        have hq2 : rdParams s = if atF t2 61 = true then (rdValue (tl t2)).bind fun vr => pF g' vr.2 (withP key l ⟨key, vr.1.1, vr.1.2.1, vr.1.2.2⟩) else pF g' t2 (withP key l ⟨key, 6, 1, ⟨#[]⟩⟩) := hq
        have HQ := Aside0.mk hq2
        have hKy := Aside0.mk hKc
        clear hq hKc hN h59 hq2
        go_upto_region 6 with (first | (go_at_call 80; refine (hKy.out _ hR3).mono ?_; rintro e w4 ⟨⟨rfl, hR4⟩, hB4⟩) | (go_at_call 74; refine (hWs.out _ hR2).mono ?_; rintro e w3 ⟨rfl, hR3, hB3⟩) | (go_at_call 76; refine (hA.out _ HD.out).mono ?_; rintro e w2 ⟨rfl, hR2, hB2⟩))
        have hkb : w.heap.size ≤ w4.heap.size := ((((HK.out.trans hB2).trans hB3).trans hB4)).size
        have HR4 : Kd.R k61 61 w4 w.heap.size (fun k => k < w4.heap.size ∧ k ≠ g) u2 l :=
          Kd.R_mono (Kd.R_bound (R_kb (R_kb (R_kb (Kd.R_types HR.out HD.out (by decide)) hB2 (fun _ hk => hk.2)) hB3 (fun _ hk => hk.2)) hB4 (fun _ hk => hk.2))) (fun _ hk => ⟨hk.2.2.1, hk.1.2⟩)
        have HR5 := Aside0.mk (Kd.R_alloc (Kd.R_alloc HR4 (.cells #[.string key] 9)) (.cells #[.string ⟨#[]⟩, .int .i64 6, .int .i64 1, .string ⟨#[]⟩] 61))
        have HD5 := Aside0.mk ((hR4.alloc (.cells #[.string key] 9)).alloc (.cells #[.string ⟨#[]⟩, .int .i64 6, .int .i64 1, .string ⟨#[]⟩] 61))
        have HS5 : Aside0 (SB ((w4.alloc (.cells #[.string key] 9)).alloc (.cells #[.string ⟨#[]⟩, .int .i64 6, .int .i64 1, .string ⟨#[]⟩] 61)) w4.heap.size key) := ⟨blk_alloc (by have := blk_new w4 (.cells #[.string key] 9); simpa using this) _⟩
        have HP5 : Aside0 (PB ((w4.alloc (.cells #[.string key] 9)).alloc (.cells #[.string ⟨#[]⟩, .int .i64 6, .int .i64 1, .string ⟨#[]⟩] 61)) (w4.heap.size + 1) ⟨#[]⟩ 6 1 ⟨#[]⟩) := ⟨by
          have := PB.mk_new (w4.alloc (.cells #[.string key] 9)) 6 1 ⟨#[]⟩
          simpa using this⟩
        have HK5 := Aside0.mk (((((HK.out.trans hB2).trans hB3).trans hB4).alloc (.cells #[.string key] 9)).alloc (.cells #[.string ⟨#[]⟩, .int .i64 6, .int .i64 1, .string ⟨#[]⟩] 61))
        clear hB2 hB3 hB4 hR2 hR3 hR4 HR4 HR HD HK hA hWs hKy
        generalize (w4.alloc (.cells #[.string key] 9)).alloc (.cells #[.string ⟨#[]⟩, .int .i64 6, .int .i64 1, .string ⟨#[]⟩] 61) = w5 at *
        generalize w4.heap.size = kb at *
        have hgk : kb ≠ g := by omega
        have hgk1 : kb + 1 ≠ g := by omega
        have hA6 := Aside0.mk (fun W (h : Rd W g t2) => at_calls g t2 61 W h)
        go_upto_if 17 with (first | (go_at_call 76; refine (hA6.out _ HD5.out).mono ?_; rintro e w6 ⟨rfl, hR6, hB6⟩))
        have HR6 := Aside0.mk (R_kb HR5.out hB6 (fun _ hk => hk.2))
        have HS6 : Aside0 (SB w6 kb key) := ⟨hB6.blk HS5.out hgk⟩
        have HP6 := Aside0.mk (HP5.out.kb hB6 hgk1)
        have HK6 := Aside0.mk (HK5.out.trans hB6)
        have HD6 := Aside0.mk hR6
        clear hB6 hR6 HR5 HD5 HS5 HP5 HK5 hA6
        go_cut [] (fun wc => ∃ (kd iv : Int) (tx t3 : ByteArray), Aside0 (Rd wc g t3) ∧ Aside0 (SB wc kb key) ∧ Aside0 (PB wc (kb + 1) ⟨#[]⟩ kd iv tx) ∧ Aside0 (Kd.R k61 61 wc w.heap.size (fun k => k < kb ∧ k ≠ g) u2 l) ∧ Aside0 (KB g w wc) ∧ Aside0 (rdParams s = pF g' t3 (withP key l ⟨key, kd, iv, tx⟩)) ∧ t3.size ≤ t2.size)
        case first =>
          cases h61 : atF t2 61 with
          | false =>
            have hq := HQ.out
            rw [if_neg (by rw [h61]; decide)] at hq
            have HG := Aside0.mk hq
            have er : atR t2 61 = t2 := if_neg (by rw [h61]; decide)
            rw [er] at HD6
            clear HQ hq
            go_wp2
            go_meet
            case rel => exact ⟨6, 1, _, t2, HD6, HS6, HP6, HR6, HK6, HG, Nat.le_refl _⟩
          | true =>
            have hq := HQ.out
            rw [if_pos h61] at hq
            have er : atR t2 61 = tl t2 := if_pos h61
            rw [er] at HD6
            have hzt := tl_size t2
            have hVc := fun W (h : Rd W g (tl t2)) => value_calls g (tl t2) W (by omega) h
            cases hN : rdValue (tl t2) with
            | none =>
              rw [hN] at hq hVc
              have HG : Aside0 (rdParams s = none) := ⟨hq⟩
              have hVa := Aside0.mk hVc
              clear HQ hq hVc hN
              go_wp2_with (first | (go_at_call 57; refine (hVa.out _ HD6.out).mono ?_; rintro e w7 ⟨rfl, hB7⟩))
              exact ⟨rfl, GivesL.dead HG.out (HK6.out.trans hB7)⟩
            | some vr =>
              obtain ⟨⟨kd, iv, tx⟩, t3⟩ := vr
              have hz3 := value_rest hN
              rw [hN] at hq hVc
              have hq2 : rdParams s = pF g' t3 (withP key l ⟨key, kd, iv, tx⟩) := hq
              have HG := Aside0.mk hq2
              have hVa := Aside0.mk hVc
              clear HQ hq hVc hN hq2
              go_wp2_with (first | (go_at_call 57; refine ((hVa.out _ HD6.out).mono (fun e w' h => gp h)).mono ?_; rintro e w7 ⟨⟨rfl, hR7⟩, hB7⟩; have hP7 := HP6.out.kb hB7 hgk1; have hp0 := hP7.c0; have hp1 := hP7.c1; have hp2 := hP7.c2; have hp3 := hP7.c3; have hf0 := hP7.fr 0; have hf1 := hP7.fr 1; have hf2 := hP7.fr 2; have hf3 := hP7.fr 3))
              go_meet
              case rel => exact ⟨kd, iv, tx, t3, ⟨hR7.put (fun e => hgk1 e.symm) _ _ _ _⟩, ⟨SB.put (hB7.blk HS6.out hgk) (by omega) _ _ _ _⟩, ⟨hP7.put _ _ _ _⟩, ⟨R_put (R_kb HR6.out hB7 (fun _ hk => hk.2)) (fun k hk => by omega) _ _ _ _⟩, ⟨(HK6.out.trans hB7).put (by omega) _ _ _ _⟩, HG, by omega⟩
        case rest =>
          clear HQ HR6 HS6 HP6 HK6 HD6
          obtain ⟨kd, iv, tx, t3, HD7, HS7, HP7, HR7, HK7, HG, hz3⟩ := hcut
          obtain ⟨A, c, hv⟩ := Kd.R_slice HR7.out
          subst hv
          have hf0 := HP7.out.fr 0
          have hc0 := HP7.out.c0
          have hs0 := HS7.out.cell
          have HP8 : Aside0 (PB (wc.setCell ⟨kb + 1, 0, none⟩ (.string key)) (kb + 1) key kd iv tx) := ⟨by have := blk_set HP7.out 0 (.string key); simpa [PB] using this⟩
          have HS8 := Aside0.mk (HS7.out.far (p := ⟨kb + 1, 0, none⟩) (by simp) (.string key))
          have HD8 := Aside0.mk (HD7.out.far (p := ⟨kb + 1, 0, none⟩) (fun e => hgk1 e.symm) (.string key))
          have HR8 := Aside0.mk (Kd.R_far (p := ⟨kb + 1, 0, none⟩) HR7.out (fun k hk => by simp only; omega) (.string key))
          have HK8 := Aside0.mk (HK7.out.far (p := ⟨kb + 1, 0, none⟩) (by simp only; omega) (.string key))
          have hIx := Aside0.mk (index_calls A c l kb key _ (Kd.R_reads' HR8.out).2.2 HS8.out (by omega))
          clear HD7 HS7 HP7 HR7 HK7
          go_upto_region 10 with (first | (go_at_call 81; refine hIx.out.mono ?_; rintro e w9 ⟨⟨r, rfl, hAt⟩, hb9⟩))
          have HP9 : Aside0 (PB w9 (kb + 1) key kd iv tx) := ⟨blk_below HP8.out hb9⟩
          have HD9 : Aside0 (Rd w9 g t3) := ⟨blk_below HD8.out hb9⟩
          have HR9 := Aside0.mk (Kd.R_below HR8.out hb9)
          have HK9 := Aside0.mk (HK8.out.below hb9)
          clear hf0 hc0 hs0 HP8 HS8 HD8 HR8 HK8 hIx hb9
          have hc0 := HP9.out.c0
          have hc1 := HP9.out.c1
          have hc2 := HP9.out.c2
          have hc3 := HP9.out.c3
          rcases hAt with ⟨i, rfl, hi, hm, hn⟩ | ⟨rfl, hn⟩
          · have HE := Aside0.mk (HG.out.trans (by rw [withP_at key l _ i hi hm hn]))
            clear HG hm hn
            have hd : decide (0 ≤ (i : Int)) = true := decide_eq_true (by omega)
            have p1 : (0 ≤ (i : Int)) = True := eq_true (by omega)
            have p2 : ((i : Int) < (l.length : Int)) = True := eq_true (by omega)
            obtain ⟨gl, rfl⟩ := R_block HR9.out (by omega)
            have hne2 : gl ≠ g := by
              have := (HR9.out.1 gl (by simp [Value.ownBlock])).2
              exact this
            have hcc : ∀ (j : Nat) (u : Value), ([.string (rd_T61 l i).f0, .int .i64 (rd_T61 l i).f1, .int .i64 (rd_T61 l i).f2, .string (rd_T61 l i).f3] : List Value)[j]? = some u → w9.cell? ⟨gl, (i : Int).toNat * 4 + j, none⟩ = some u := by
              obtain ⟨ad, hA, h0, h1, h2, h3⟩ := at_T61 (Kd.R_reads' HR9.out).2.2 (i : Int) (by omega) (by omega)
              injection hA with hA
              subst hA
              have ea : (⟨gl, 0, none⟩ : Addr).add ((i : Int).toNat * 4) = ⟨gl, (i : Int).toNat * 4, none⟩ := by simp [Addr.add]; omega
              rw [ea] at h0 h1 h2 h3
              intro j u hj
              rcases j with _ | _ | _ | _ | j
              · simp at hj; subst hj; exact h0
              · simp at hj; subst hj; exact h1
              · simp at hj; subst hj; exact h2
              · simp at hj; subst hj; exact h3
              · simp at hj
            have HCC := Aside0.mk hcc
            clear hcc
            go_wp2_with (first | ((with_reducible refine gate_ (.store 61 (.tmp 30) (.tmp 29)) rfl ?_); refine Kd.R_store k61 (w0 := w9) (W := w9) w.heap.size rfl rfl 61 (.tmp 30) (.tmp 29) rfl 61 (g := gl) (i : Int) 0 l ⟨key, kd, iv, tx⟩ (.agg #[.string key, .int .i64 kd, .int .i64 iv, .string tx]) [.string key, .int .i64 kd, .int .i64 iv, .string tx] _ (fun k => k < kb ∧ k ≠ g) (fun _ => False) rfl ?hoff rfl rfl (by kernel_rfl) ?h1 HR9.out (by omega) (by omega) rfl HCC.out (Nat.le_refl _) (k61_mkM _ _ _ ⟨key, kd, iv, tx⟩) (fun _ hk => hk.elim) (Below.refl _ _) ?_; (case hoff => simp [k61, Kd.iso, Kd.pair, Kd.string, Kd.int, Kd.scalar]); (case h1 => simp [Value.oneCell']); intro w1 ho1 hb1 hg1; have hR1 : Rd w1 g t3 := blk_grown HD9.out hg1 (by simp only [ne_eq, Option.some.injEq]; exact fun e => hne2 e.symm); have hK1 := HK9.out.belowB hb1 (Nat.le_refl _); have HO1 := Aside0.mk (Kd.R_mono (ok' := fun _ => True) ho1 (fun _ _ => trivial)); have HR1 := Aside0.mk hR1; have HK1 := Aside0.mk hK1; clear ho1 hb1 hg1 hR1 hK1))
            go_roundg g'
            case measure => omega
            case rel => exact ⟨t3, l.set i ⟨key, kd, iv, tx⟩, by simpa using HO1, HR1, HK1, HE, by omega, by rw [List.length_set]; omega⟩
          · have HE := Aside0.mk (HG.out.trans (by rw [withP_none key l _ hn]))
            clear HG hn
            go_wp2_with (first | ((with_reducible refine gate_builtin (b := .append) (xs := #[.tmp 31, .tmp 33]) rfl ?_); at_builtin; refine Kd.R_append k61 (w0 := w9) w.heap.size rfl (.tmp 31) (.tmp 33) 54 61 (.agg #[.string ⟨#[]⟩, .int .i64 0, .int .i64 0, .string ⟨#[]⟩]) 48 rfl Tryz.underlying54 (by kernel_rfl) rfl (by decide) (by omega) (.slice A l.length c) l ⟨key, kd, iv, tx⟩ [.string key, .int .i64 kd, .int .i64 iv, .string tx] (fun _ => True) (fun _ => False) rfl rfl ?aP (fun _ hk => hk.elim) ?aF ?aO ?aB ?aS ?aL ?_; (case aP => exact k61_mkM _ _ _ ⟨key, kd, iv, tx⟩); (case aF => exact (fun _ _ => trivial)); (case aO => exact Kd.R_mono HR9.out (fun _ _ => trivial)); (case aB => exact Below.refl _ _); (case aS => exact HK9.out.size); (case aL => omega); intro v1 w1 ho1 hb1 hg1 hat1; have hR1 : Rd w1 g t3 := blk_grown HD9.out hg1 (Kd.R_ne HR9.out HD9.out (by decide)); have hK1 := HK9.out.belowB hb1 (Nat.le_refl _); have HO1 := Aside0.mk ho1; have HR1 := Aside0.mk hR1; have HK1 := Aside0.mk hK1; clear ho1 hb1 hg1 hat1 hR1 hK1))
            go_roundg g'
            case measure => omega
            case rel => exact ⟨t3, l ++ [⟨key, kd, iv, tx⟩], HO1, HR1, HK1, HE, by omega, by simp only [List.length_append, List.length_cons, List.length_nil]; omega⟩
set_option maxRecDepth 100000 in
theorem caught_some (w : World) : Calls Tryz.prog 56 #[.iface 57 (.int .i64 50)] w fun e w' => e = .returned (.int .i64 50) ∧ w' = w := by
  have hta : ∀ w : World, (Instr.typeAssert (.iface 57 (.int .i64 50)) 20 57 true).run Tryz.prog w = .ok (.tuple #[.int .i64 50, .bool true]) w := fun w => by
    simp [Instr.typeAssert, run_underlying Tryz.underlying57, go_sem, Result.andThen]
  go_enter Tryz.func56, Tryz.ntmps56
  go_wp2
  go_ret
  exact ⟨rfl, rfl⟩
set_option maxRecDepth 100000 in
theorem caught_none (w : World) : Calls Tryz.prog 56 #[.nilIface] w fun e w' => e = .returned (.int .i64 0) ∧ w' = w := by
  have hta : ∀ w : World, (Instr.typeAssert .nilIface 20 57 true).run Tryz.prog w = .ok (.tuple #[.int .i64 0, .bool false]) w := fun w => by
    simp [Instr.typeAssert, run_underlying Tryz.underlying57, go_sem, Result.andThen, Tryz.zeroValue57]
  go_enter Tryz.func56, Tryz.ntmps56
  go_wp2
  go_ret
  exact ⟨rfl, rfl⟩
abbrev thrown (b : Bool) : PanicEntry := { v := .iface 57 (.int .i64 50), recovered := b }
/-- A block of an item. -/
def IB (W : World) (b : Nat) (n i : Int) (t : ByteArray) (v : Value) : Prop := W.heap[b]? = some (.cells #[.int .i64 n, .int .i64 i, .string t, v] 56 (0, 0))
theorem IB.c0 {W : World} {b : Nat} {n i : Int} {t : ByteArray} {v : Value} (h : IB W b n i t v) : W.cell? ⟨b, 0, none⟩ = some (.int .i64 n) := (blk_cell h 0).trans rfl
theorem IB.c1 {W : World} {b : Nat} {n i : Int} {t : ByteArray} {v : Value} (h : IB W b n i t v) : W.cell? ⟨b, 1, none⟩ = some (.int .i64 i) := (blk_cell h 1).trans rfl
theorem IB.c2 {W : World} {b : Nat} {n i : Int} {t : ByteArray} {v : Value} (h : IB W b n i t v) : W.cell? ⟨b, 2, none⟩ = some (.string t) := (blk_cell h 2).trans rfl
theorem IB.c3 {W : World} {b : Nat} {n i : Int} {t : ByteArray} {v : Value} (h : IB W b n i t v) : W.cell? ⟨b, 3, none⟩ = some v := (blk_cell h 3).trans rfl
theorem IB.fr {W : World} {b : Nat} {n i : Int} {t : ByteArray} {v : Value} (h : IB W b n i t v) (j : Nat) : W.frozen? ⟨b, j, none⟩ = false := blk_frozen h j
def putI (W : World) (b : Nat) (n i : Int) (t : ByteArray) (v : Value) : World := (((W.setCell ⟨b, 0, none⟩ (.int .i64 n)).setCell ⟨b, 1, none⟩ (.int .i64 i)).setCell ⟨b, 2, none⟩ (.string t)).setCell ⟨b, 3, none⟩ v
set_option maxRecDepth 100000 in
set_option maxHeartbeats 2000000 in
theorem next_catch_panicking (pe px pr : Nat) (s2 : ByteArray) (n i k : Int) (t : ByteArray) (v : Value) (w : World) (he : w.heap[pe]? = some (.cells #[.int .i64 n] 57 (0, 0))) (hx : IB w px k i t v) (hr : SB w pr s2) :
    CallsD Tryz.prog 55 #[.pointer (some ⟨pe, 0, none⟩), .pointer (some ⟨px, 0, none⟩), .pointer (some ⟨pr, 0, none⟩)] (.panicking [thrown false]) w fun e u' w' =>
      e = .returned (.tuple #[]) ∧ u' = .panicking [thrown true] ∧ w' = (putI (w.setCell ⟨pe, 0, none⟩ (.int .i64 50)) px 0 0 ⟨#[]⟩ (.slice none 0 0)).setCell ⟨pr, 0, none⟩ (.string ⟨#[]⟩) := by
  have hne1 : pe ≠ px := blk_ne he hx (by decide)
  have hne2 : pe ≠ pr := blk_ne he hr (by decide)
  have hne3 : px ≠ pr := blk_ne hx hr (by decide)
  have hc0 : w.cell? ⟨pe, 0, none⟩ = some (.int .i64 n) := (blk_cell he 0).trans rfl
  have hf0 := blk_frozen he 0
  have hx0 := hx.c0
  have hx1 := hx.c1
  have hx2 := hx.c2
  have hx3 := hx.c3
  have hxf0 := hx.fr 0
  have hxf1 := hx.fr 1
  have hxf2 := hx.fr 2
  have hxf3 := hx.fr 3
  have hc2 := hr.cell
  have hf2 := blk_frozen hr 0
  refine callsD_of_wpS Tryz.func55 rfl fun c₀ cs hu => ?_
  apply wpS_seq
  apply wpS_region
  simp [wpOpsS, go_sem, recoverD, hu, Tryz.ntmps55, Exit.thenS]
  refine (caught_some _).mono ?_
  rintro e w' ⟨rfl, rfl⟩
  simp [go_sem, hc0, hf0]
  refine wpS_of_wp ?_
  go_wp2
  simp [bodyPostS, results, Tryz.results55, putI]
set_option maxRecDepth 100000 in
set_option maxHeartbeats 2000000 in
theorem next_catch_idle (pe pk pr : Nat) (n : Int) (w : World) (he : w.heap[pe]? = some (.cells #[.int .i64 n] 57 (0, 0))) :
    CallsD Tryz.prog 55 #[.pointer (some ⟨pe, 0, none⟩), .pointer (some ⟨pk, 0, none⟩), .pointer (some ⟨pr, 0, none⟩)] .returning w fun e u' w' =>
      e = .returned (.tuple #[]) ∧ u' = .returning ∧ w' = w.setCell ⟨pe, 0, none⟩ (.int .i64 0) := by
  have hc0 : w.cell? ⟨pe, 0, none⟩ = some (.int .i64 n) := (blk_cell he 0).trans rfl
  have hf0 := blk_frozen he 0
  refine callsD_of_wpS Tryz.func55 rfl fun c₀ cs hu => ?_
  apply wpS_seq
  apply wpS_region
  simp [wpOpsS, go_sem, recoverD, hu, Tryz.ntmps55, Exit.thenS]
  refine (caught_none _).mono ?_
  rintro e w' ⟨rfl, rfl⟩
  simp [go_sem, hc0, hf0]
  refine wpS_of_wp ?_
  go_wp2
  cases c₀
  simp_all [bodyPostS, results, Tryz.results55]
/-- A block of an error's number. -/
def EB (W : World) (b : Nat) (n : Int) : Prop := W.heap[b]? = some (.cells #[.int .i64 n] 57 (0, 0))
theorem EB.cell {W : World} {b : Nat} {n : Int} (h : EB W b n) : W.cell? ⟨b, 0, none⟩ = some (.int .i64 n) := (blk_cell h 0).trans rfl
theorem SB.set {W : World} {b : Nat} {s : ByteArray} (h : SB W b s) (t : ByteArray) : SB (W.setCell ⟨b, 0, none⟩ (.string t)) b t := by have := blk_set h 0 (.string t); simpa [SB] using this
theorem EB.set {W : World} {b : Nat} {n : Int} (h : EB W b n) (m : Int) : EB (W.setCell ⟨b, 0, none⟩ (.int .i64 m)) b m := by have := blk_set h 0 (.int .i64 m); simpa [EB] using this
theorem EB.far {W : World} {b : Nat} {n : Int} (h : EB W b n) {p : Addr} (hp : b ≠ p.block) (u : Value) : EB (W.setCell p u) b n := blk_far h hp u
def rdNext (s : ByteArray) : Option ((Int × Int × ByteArray) × List S61 × ByteArray) := (rdValue s).bind fun v => (rdParams v.2).bind fun p => some (v.1, p.1, p.2)
theorem IB.kb {W W' : World} {b g : Nat} {n i : Int} {t : ByteArray} {v : Value} (h : IB W b n i t v) (hk : KB g W W') (hg : b ≠ g) : IB W' b n i t v := hk.blk h hg
theorem IB.put {W : World} {b : Nat} {n i : Int} {t : ByteArray} {v : Value} (h : IB W b n i t v) (n' i' : Int) (t' : ByteArray) (v' : Value) : IB (putI W b n' i' t' v') b n' i' t' v' := by
  have h1 := blk_set h 0 (.int .i64 n'); have h2 := blk_set h1 1 (.int .i64 i'); have h3 := blk_set h2 2 (.string t'); have h4 := blk_set h3 3 v'
  unfold putI IB
  simpa using h4
theorem IB.set3 {W : World} {b : Nat} {n i : Int} {t : ByteArray} {v : Value} (h : IB W b n i t v) (v' : Value) : IB (W.setCell ⟨b, 3, none⟩ v') b n i t v' := by have := blk_set h 3 v'; simpa [IB] using this
theorem IB.far {W : World} {b : Nat} {n i : Int} {t : ByteArray} {v : Value} (h : IB W b n i t v) {p : Addr} (hp : b ≠ p.block) (u : Value) : IB (W.setCell p u) b n i t v := blk_far h hp u
theorem blk_putI {W : World} {g b : Nat} {o : Obj} (h : W.heap[g]? = some o) (hg : g ≠ b) (n i : Int) (t : ByteArray) (v : Value) : (putI W b n i t v).heap[g]? = some o := by
  unfold putI
  rw [Below.heap_setCell _ ⟨b, 3, none⟩ _ _ hg, Below.heap_setCell _ ⟨b, 2, none⟩ _ _ hg, Below.heap_setCell _ ⟨b, 1, none⟩ _ _ hg, Below.heap_setCell _ ⟨b, 0, none⟩ _ _ hg]
  exact h
theorem below_putI {w W : World} {b : Nat} (h : Below w.heap.size w W) (hb : w.heap.size ≤ b) (n i : Int) (t : ByteArray) (v : Value) : Below w.heap.size w (putI W b n i t v) :=
  (((h.setCell (p := ⟨b, 0, none⟩) hb _).setCell (p := ⟨b, 1, none⟩) hb _).setCell (p := ⟨b, 2, none⟩) hb _).setCell (p := ⟨b, 3, none⟩) hb _
theorem R_putI {W : World} {B b : Nat} {ok : Nat → Prop} {v : Value} {l : List S61} (h : Kd.R k61 61 W B ok v l) (hok : ∀ k, ok k → k ≠ b) (n i : Int) (t : ByteArray) (u : Value) : Kd.R k61 61 (putI W b n i t u) B ok v l :=
  Kd.R_far (p := ⟨b, 3, none⟩) (Kd.R_far (p := ⟨b, 2, none⟩) (Kd.R_far (p := ⟨b, 1, none⟩) (Kd.R_far (p := ⟨b, 0, none⟩) h hok _) hok _) hok _) hok _
/-- Next's four blocks. -/
structure N4 (w W : World) (s : ByteArray) : Prop where
  item : IB W w.heap.size 0 0 ⟨#[]⟩ (.slice none 0 0)
  rest : SB W (w.heap.size + 1) ⟨#[]⟩
  err : EB W (w.heap.size + 1 + 1) 0
  rd : Rd W (w.heap.size + 1 + 1 + 1) s
  below : Below w.heap.size w W
theorem N4.new (w : World) (s : ByteArray) : N4 w ((((w.alloc (.cells #[.int .i64 0, .int .i64 0, .string ⟨#[]⟩, .slice none 0 0] 56)).alloc (.cells #[.string ⟨#[]⟩] 9)).alloc (.cells #[.int .i64 0] 57)).alloc (.cells #[.string s] 92)) s where
  item := blk_alloc (blk_alloc (blk_alloc (by have := blk_new w (.cells #[.int .i64 0, .int .i64 0, .string ⟨#[]⟩, .slice none 0 0] 56); simpa using this) _) _) _
  rest := blk_alloc (blk_alloc (by have := blk_new (w.alloc (.cells #[.int .i64 0, .int .i64 0, .string ⟨#[]⟩, .slice none 0 0] 56)) (.cells #[.string ⟨#[]⟩] 9); simpa using this) _) _
  err := blk_alloc (by have := blk_new ((w.alloc (.cells #[.int .i64 0, .int .i64 0, .string ⟨#[]⟩, .slice none 0 0] 56)).alloc (.cells #[.string ⟨#[]⟩] 9)) (.cells #[.int .i64 0] 57); simpa using this) _
  rd := by have := blk_new (((w.alloc (.cells #[.int .i64 0, .int .i64 0, .string ⟨#[]⟩, .slice none 0 0] 56)).alloc (.cells #[.string ⟨#[]⟩] 9)).alloc (.cells #[.int .i64 0] 57)) (.cells #[.string s] 92); simpa [Rd] using this
  below := ((((Below.refl _ _).alloc (Nat.le_refl _) _).alloc (by simp) _).alloc (by simp; omega) _).alloc (by simp; omega) _
/-- What Next's results read as. -/
theorem next_results (w : World) (tmps : Array Value) (W : World) (n i : Int) (t u : ByteArray) (v : Value) (c : Int) (h2 : tmps.getD 2 undef = .pointer (some ⟨w.heap.size, 0, none⟩)) (h3 : tmps.getD 3 undef = .pointer (some ⟨w.heap.size + 1, 0, none⟩)) (h4 : tmps.getD 4 undef = .pointer (some ⟨w.heap.size + 1 + 1, 0, none⟩))
    (hI : IB W w.heap.size n i t v) (hS : SB W (w.heap.size + 1) u) (hE : EB W (w.heap.size + 1 + 1) c) :
    (results Tryz.f43 tmps).run Tryz.prog W = .ok (.tuple #[.agg #[.int .i64 n, .int .i64 i, .string t, v], .string u, .int .i64 c]) W := by
  have c0 := hI.c0
  have c1 := hI.c1
  have c2 := hI.c2
  have c3 := hI.c3
  have c4 := hS.cell
  have c5 := hE.cell
  have h2' : tmps[2]?.getD undef = .pointer (some ⟨w.heap.size, 0, none⟩) := by simpa using h2
  have h3' : tmps[3]?.getD undef = .pointer (some ⟨w.heap.size + 1, 0, none⟩) := by simpa using h3
  have h4' : tmps[4]?.getD undef = .pointer (some ⟨w.heap.size + 1 + 1, 0, none⟩) := by simpa using h4
  simp [results, Tryz.results43, go_sem, h2', h3', h4', c0, c1, c2, c3, c4, c5]
def NextPost (s : ByteArray) (w : World) (e : Ending) (w' : World) : Prop :=
  (match rdNext s with
    | some (v, l, t) => ∃ u : Value, e = .returned (.tuple #[.agg #[.int .i64 v.1, .int .i64 v.2.1, .string v.2.2, u], .string t, .int .i64 0]) ∧ Kd.R k61 61 w' w.heap.size (fun _ => True) u l
    | none => e = .returned (.tuple #[.agg #[.int .i64 0, .int .i64 0, .string ⟨#[]⟩, .slice none 0 0], .string ⟨#[]⟩, .int .i64 50])) ∧ Below w.heap.size w w'
theorem NextPost.dead {s : ByteArray} {w w' : World} (h : rdNext s = none) (hb : Below w.heap.size w w') : NextPost s w (.returned (.tuple #[.agg #[.int .i64 0, .int .i64 0, .string ⟨#[]⟩, .slice none 0 0], .string ⟨#[]⟩, .int .i64 50])) w' := by
  refine ⟨?_, hb⟩
  rw [h]
theorem NextPost.ok {s : ByteArray} {w w' : World} {v : Int × Int × ByteArray} {l : List S61} {t : ByteArray} {u : Value} (h : rdNext s = some (v, l, t)) (hR : Kd.R k61 61 w' w.heap.size (fun _ => True) u l) (hb : Below w.heap.size w w') : NextPost s w (.returned (.tuple #[.agg #[.int .i64 v.1, .int .i64 v.2.1, .string v.2.2, u], .string t, .int .i64 0])) w' := by
  refine ⟨?_, hb⟩
  rw [h]
  exact ⟨u, rfl, hR⟩
set_option maxRecDepth 100000 in
set_option maxHeartbeats 8000000 in
theorem Next_calls (s : ByteArray) (w : World) (hs : s.size ≤ 2199023255552) :
    Calls Tryz.prog 43 #[.string s] w fun e w' => NextPost s w e w' := by
  have hmf : ∀ (fn : Fn) (first cap : Array Value) (w : World), (Instr.makeFunc fn first cap).run Tryz.prog w = .ok (.func fn first cap) w := fun _ _ _ _ => rfl
  have h4 := Aside0.mk (N4.new w s)
  go_enter_defers Tryz.func43, Tryz.ntmps43
  go_upto_region 3 with (fail)
  generalize (((w.alloc (.cells #[.int .i64 0, .int .i64 0, .string ⟨#[]⟩, .slice none 0 0] 56)).alloc (.cells #[.string ⟨#[]⟩] 9)).alloc (.cells #[.int .i64 0] 57)).alloc (.cells #[.string s] 92) = w3 at *
  have hVc := value_calls _ s w3 (by omega) h4.out.rd
  cases hN : rdValue s with
  | none =>
    have HF : Aside0 (rdNext s = none) := ⟨by unfold rdNext; rw [hN]; rfl⟩
    rw [hN] at hVc
    have hVa := Aside0.mk hVc
    clear hVc hN
    go_wp2_with (first | (go_at_call 57; refine hVa.out.mono ?_; rintro e w4 ⟨rfl, hB4⟩))
    have hI4 : IB w4 w.heap.size 0 0 ⟨#[]⟩ (.slice none 0 0) := h4.out.item.kb hB4 (by omega)
    have hS4 : SB w4 (w.heap.size + 1) ⟨#[]⟩ := hB4.blk h4.out.rest (by omega)
    have hE4 : EB w4 (w.heap.size + 1 + 1) 0 := hB4.blk h4.out.err (by omega)
    have hb4 := hB4.toBelow h4.out.below (by omega)
    clear hB4
    refine leaves_cons (f := 55) (args := #[.pointer (some ⟨w.heap.size + 1 + 1, 0, none⟩), .pointer (some ⟨w.heap.size, 0, none⟩), .pointer (some ⟨w.heap.size + 1, 0, none⟩)]) (by simp) (by simp [go_sem]) ?_
    refine (next_catch_panicking _ _ _ _ _ _ _ _ _ _ hE4 hI4 hS4).mono ?_
    rintro e u' w'' ⟨rfl, rfl, rfl⟩
    have hI9 := ((hI4.far (p := ⟨w.heap.size + 1 + 1, 0, none⟩) (by simp only; omega) (.int .i64 50)).put 0 0 ⟨#[]⟩ (.slice none 0 0)).far (p := ⟨w.heap.size + 1, 0, none⟩) (by simp only; omega) (.string ⟨#[]⟩)
    have hS8 : SB (putI (w4.setCell ⟨w.heap.size + 1 + 1, 0, none⟩ (.int .i64 50)) w.heap.size 0 0 ⟨#[]⟩ (.slice none 0 0)) (w.heap.size + 1) ⟨#[]⟩ := blk_putI (hS4.far (p := ⟨w.heap.size + 1 + 1, 0, none⟩) (by simp only; omega) (.int .i64 50)) (by omega) 0 0 ⟨#[]⟩ (.slice none 0 0)
    have hE8 : EB (putI (w4.setCell ⟨w.heap.size + 1 + 1, 0, none⟩ (.int .i64 50)) w.heap.size 0 0 ⟨#[]⟩ (.slice none 0 0)) (w.heap.size + 1 + 1) 50 := blk_putI (hE4.set 50) (by omega) 0 0 ⟨#[]⟩ (.slice none 0 0)
    have hS9 := hS8.set ⟨#[]⟩
    have hE9 := hE8.far (p := ⟨w.heap.size + 1, 0, none⟩) (by simp only; omega) (.string ⟨#[]⟩)
    clear hS8 hE8
    have hb9 := (below_putI (hb4.setCell (p := ⟨w.heap.size + 1 + 1, 0, none⟩) (by simp only; omega) (.int .i64 50)) (Nat.le_refl _) 0 0 ⟨#[]⟩ (.slice none 0 0)).setCell (p := ⟨w.heap.size + 1, 0, none⟩) (by simp only; omega) (.string ⟨#[]⟩)
    generalize (putI (w4.setCell ⟨w.heap.size + 1 + 1, 0, none⟩ (.int .i64 50)) w.heap.size 0 0 ⟨#[]⟩ (.slice none 0 0)).setCell ⟨w.heap.size + 1, 0, none⟩ (.string ⟨#[]⟩) = w9 at *
    refine ⟨.tuple #[.agg #[.int .i64 0, .int .i64 0, .string ⟨#[]⟩, .slice none 0 0], .string ⟨#[]⟩, .int .i64 50], ?_, ?_⟩
    · exact next_results w _ w9 0 0 ⟨#[]⟩ ⟨#[]⟩ (.slice none 0 0) 50 rfl rfl rfl hI9 hS9 hE9
    · exact NextPost.dead HF.out hb9
  | some vt =>
    obtain ⟨⟨k, i, tx⟩, t⟩ := vt
    have hzt := value_rest hN
    rw [hN] at hVc
    have hVa := Aside0.mk hVc
    clear hVc
    go_upto_region 4 with (first | (go_at_call 57; refine (hVa.out.mono (fun e w' h => gp h)).mono ?_; rintro e w4 ⟨⟨rfl, hR4⟩, hB4⟩))
    have hR5 := hR4.alloc (.cells #[.string ⟨#[]⟩, .int .i64 k, .int .i64 i, .string tx] 61)
    have hP5 := PB.mk_new w4 k i tx
    have hI5 : IB (w4.alloc (.cells #[.string ⟨#[]⟩, .int .i64 k, .int .i64 i, .string tx] 61)) w.heap.size 0 0 ⟨#[]⟩ (.slice none 0 0) := blk_alloc (h4.out.item.kb hB4 (by omega)) _
    have hS5 : SB (w4.alloc (.cells #[.string ⟨#[]⟩, .int .i64 k, .int .i64 i, .string tx] 61)) (w.heap.size + 1) ⟨#[]⟩ := blk_alloc (hB4.blk h4.out.rest (by omega)) _
    have hE5 : EB (w4.alloc (.cells #[.string ⟨#[]⟩, .int .i64 k, .int .i64 i, .string tx] 61)) (w.heap.size + 1 + 1) 0 := blk_alloc (hB4.blk h4.out.err (by omega)) _
    have hb5 := below_alloc (hB4.toBelow h4.out.below (by omega)) (.cells #[.string ⟨#[]⟩, .int .i64 k, .int .i64 i, .string tx] 61)
    clear hR4 hB4 hVa h4
    generalize w4.alloc (.cells #[.string ⟨#[]⟩, .int .i64 k, .int .i64 i, .string tx] 61) = w5 at *
    have q1 := hP5.c1
    have q2 := hP5.c2
    have q3 := hP5.c3
    have i0 := hI5.c0
    have i1 := hI5.c1
    have i2 := hI5.c2
    have i3 := hI5.c3
    have j0 := hI5.fr 0
    have j1 := hI5.fr 1
    have j2 := hI5.fr 2
    have j3 := hI5.fr 3
    go_upto_region 5 with (fail)
    have hI6 := hI5.put k i tx (.slice none 0 0)
    have hS6 : SB (putI w5 w.heap.size k i tx (.slice none 0 0)) (w.heap.size + 1) ⟨#[]⟩ := blk_putI hS5 (by omega) _ _ _ _
    have hE6 : EB (putI w5 w.heap.size k i tx (.slice none 0 0)) (w.heap.size + 1 + 1) 0 := blk_putI hE5 (by omega) _ _ _ _
    have hR6 : Rd (putI w5 w.heap.size k i tx (.slice none 0 0)) (w.heap.size + 1 + 1 + 1) t := blk_putI hR5 (by omega) _ _ _ _
    have hb6 := below_putI hb5 (Nat.le_refl _) k i tx (.slice none 0 0)
    clear i0 i1 i2 i3 j0 j1 j2 j3 q1 q2 q3 hI5 hS5 hE5 hR5 hb5 hP5
    have hw6 : (((w5.setCell ⟨w.heap.size, 0, none⟩ (.int .i64 k)).setCell ⟨w.heap.size, 1, none⟩ (.int .i64 i)).setCell ⟨w.heap.size, 2, none⟩ (.string tx)).setCell ⟨w.heap.size, 3, none⟩ (.slice none 0 0) = putI w5 w.heap.size k i tx (.slice none 0 0) := rfl
    rw [hw6]
    clear hw6
    generalize putI w5 w.heap.size k i tx (.slice none 0 0) = w6 at *
    have hPc := params_calls _ t w6 (by omega) hR6
    cases hM : rdParams t with
    | none =>
      have HF : Aside0 (rdNext s = none) := ⟨by unfold rdNext; rw [hN]; show (rdParams t).bind _ = _; rw [hM]; rfl⟩
      rw [hM] at hPc
      have hPa := Aside0.mk hPc
      clear hPc hM hN
      go_wp2_with (first | (go_at_call 58; refine hPa.out.mono ?_; rintro e w7 ⟨rfl, hB7⟩))
      have hI7 := hI6.kb hB7 (by omega)
      have hS7 : SB w7 (w.heap.size + 1) ⟨#[]⟩ := hB7.blk hS6 (by omega)
      have hE7 : EB w7 (w.heap.size + 1 + 1) 0 := hB7.blk hE6 (by omega)
      have hb7 := hB7.toBelow hb6 (by omega)
      clear hB7
      refine leaves_cons (f := 55) (args := #[.pointer (some ⟨w.heap.size + 1 + 1, 0, none⟩), .pointer (some ⟨w.heap.size, 0, none⟩), .pointer (some ⟨w.heap.size + 1, 0, none⟩)]) (by simp) (by simp [go_sem]) ?_
      refine (next_catch_panicking _ _ _ _ _ _ _ _ _ _ hE7 hI7 hS7).mono ?_
      rintro e u' w'' ⟨rfl, rfl, rfl⟩
      have hI9 := ((hI7.far (p := ⟨w.heap.size + 1 + 1, 0, none⟩) (by simp only; omega) (.int .i64 50)).put 0 0 ⟨#[]⟩ (.slice none 0 0)).far (p := ⟨w.heap.size + 1, 0, none⟩) (by simp only; omega) (.string ⟨#[]⟩)
      have hS8 : SB (putI (w7.setCell ⟨w.heap.size + 1 + 1, 0, none⟩ (.int .i64 50)) w.heap.size 0 0 ⟨#[]⟩ (.slice none 0 0)) (w.heap.size + 1) ⟨#[]⟩ := blk_putI (hS7.far (p := ⟨w.heap.size + 1 + 1, 0, none⟩) (by simp only; omega) (.int .i64 50)) (by omega) 0 0 ⟨#[]⟩ (.slice none 0 0)
      have hE8 : EB (putI (w7.setCell ⟨w.heap.size + 1 + 1, 0, none⟩ (.int .i64 50)) w.heap.size 0 0 ⟨#[]⟩ (.slice none 0 0)) (w.heap.size + 1 + 1) 50 := blk_putI (hE7.set 50) (by omega) 0 0 ⟨#[]⟩ (.slice none 0 0)
      have hS9 := hS8.set ⟨#[]⟩
      have hE9 := hE8.far (p := ⟨w.heap.size + 1, 0, none⟩) (by simp only; omega) (.string ⟨#[]⟩)
      clear hS8 hE8
      have hb9 := (below_putI (hb7.setCell (p := ⟨w.heap.size + 1 + 1, 0, none⟩) (by simp only; omega) (.int .i64 50)) (Nat.le_refl _) 0 0 ⟨#[]⟩ (.slice none 0 0)).setCell (p := ⟨w.heap.size + 1, 0, none⟩) (by simp only; omega) (.string ⟨#[]⟩)
      generalize (putI (w7.setCell ⟨w.heap.size + 1 + 1, 0, none⟩ (.int .i64 50)) w.heap.size 0 0 ⟨#[]⟩ (.slice none 0 0)).setCell ⟨w.heap.size + 1, 0, none⟩ (.string ⟨#[]⟩) = w9 at *
      refine ⟨.tuple #[.agg #[.int .i64 0, .int .i64 0, .string ⟨#[]⟩, .slice none 0 0], .string ⟨#[]⟩, .int .i64 50], ?_, ?_⟩
      · exact next_results w _ w9 0 0 ⟨#[]⟩ ⟨#[]⟩ (.slice none 0 0) 50 rfl rfl rfl hI9 hS9 hE9
      · exact NextPost.dead HF.out hb9
    | some lr =>
      obtain ⟨l, r⟩ := lr
      have HF : Aside0 (rdNext s = some ((k, i, tx), l, r)) := ⟨by unfold rdNext; rw [hN]; show (rdParams t).bind _ = _; rw [hM]; rfl⟩
      rw [hM] at hPc
      have hPa := Aside0.mk hPc
      clear hPc hM hN
      go_upto_region 6 with (first | (go_at_call 58; refine hPa.out.mono ?_; rintro e w7 ⟨⟨v, rfl, hL7, hR7⟩, hB7⟩; obtain ⟨A7, c7, hv7⟩ := Kd.R_slice hL7; subst hv7; have hI7 := hI6.kb hB7 (by omega); have i3 := hI7.c3; have j3 := hI7.fr 3))
      have hS7 : SB w7 (w.heap.size + 1) ⟨#[]⟩ := hB7.blk hS6 (by omega)
      have hE7 : EB w7 (w.heap.size + 1 + 1) 0 := hB7.blk hE6 (by omega)
      have hb7 := hB7.toBelow hb6 (by omega)
      have hL8 := Kd.R_set (Kd.R_lower hL7 hb6.size) hI7 (by decide) 3 (.slice A7 l.length c7)
      have hI8 := hI7.set3 (.slice A7 l.length c7)
      have hS8 := hS7.far (p := ⟨w.heap.size, 3, none⟩) (by simp only; omega) (.slice A7 l.length c7)
      have hE8 := hE7.far (p := ⟨w.heap.size, 3, none⟩) (by simp only; omega) (.slice A7 l.length c7)
      have hR8 := hR7.far (p := ⟨w.heap.size, 3, none⟩) (by simp only; omega) (.slice A7 l.length c7)
      have hb8 := hb7.setCell (p := ⟨w.heap.size, 3, none⟩) (by simp only; omega) (.slice A7 l.length c7)
      clear hL7 hI7 hS7 hE7 hR7 hb7 hB7 i3 j3 hI6 hS6 hE6 hR6 hb6 hPa
      generalize w7.setCell ⟨w.heap.size, 3, none⟩ (.slice A7 l.length c7) = w8 at *
      have i0 := hI8.c0
      have i1 := hI8.c1
      have i2 := hI8.c2
      have i3 := hI8.c3
      have j0 := hI8.fr 0
      have j1 := hI8.fr 1
      have j2 := hI8.fr 2
      have j3 := hI8.fr 3
      have c1 := hS8.cell
      have f1 := blk_frozen hS8 0
      have c2 := hE8.cell
      have f2 := blk_frozen hE8 0
      have c3 := hR8.cell
      go_region
      have hL9 := Kd.R_set (Kd.R_set (R_putI (Kd.R_mono (Kd.R_types hL8 hI8 (by decide)) (ok' := fun k => k ≠ w.heap.size) (fun _ hk => hk.2)) (fun _ hk => hk) k i tx (.slice A7 l.length c7)) (show SB _ (w.heap.size + 1) ⟨#[]⟩ from blk_putI hS8 (by omega) _ _ _ _) (by decide) 0 (.string r)) (show EB _ (w.heap.size + 1 + 1) 0 from EB.far (blk_putI hE8 (by omega) k i tx (.slice A7 l.length c7)) (p := ⟨w.heap.size + 1, 0, none⟩) (by simp only; omega) (.string r)) (by decide) 0 (.int .i64 0)
      have hI9 := ((hI8.put k i tx (.slice A7 l.length c7)).far (p := ⟨w.heap.size + 1, 0, none⟩) (by simp only; omega) (.string r)).far (p := ⟨w.heap.size + 1 + 1, 0, none⟩) (by simp only; omega) (.int .i64 0)
      have hS9 := (SB.set (show SB (putI w8 w.heap.size k i tx (.slice A7 l.length c7)) (w.heap.size + 1) ⟨#[]⟩ from blk_putI hS8 (by omega) _ _ _ _) r).far (p := ⟨w.heap.size + 1 + 1, 0, none⟩) (by simp only; omega) (.int .i64 0)
      have hE9 := (EB.far (show EB (putI w8 w.heap.size k i tx (.slice A7 l.length c7)) (w.heap.size + 1 + 1) 0 from blk_putI hE8 (by omega) _ _ _ _) (p := ⟨w.heap.size + 1, 0, none⟩) (by simp only; omega) (.string r)).set 0
      have hb9 := ((below_putI hb8 (Nat.le_refl _) k i tx (.slice A7 l.length c7)).setCell (p := ⟨w.heap.size + 1, 0, none⟩) (by simp only; omega) (.string r)).setCell (p := ⟨w.heap.size + 1 + 1, 0, none⟩) (by simp only; omega) (.int .i64 0)
      clear hL8 hI8 hS8 hE8 hR8 hb8 i0 i1 i2 i3 j0 j1 j2 j3 c1 f1 c2 f2 c3
      have hw9 : (((((w8.setCell ⟨w.heap.size, 0, none⟩ (.int .i64 k)).setCell ⟨w.heap.size, 1, none⟩ (.int .i64 i)).setCell ⟨w.heap.size, 2, none⟩ (.string tx)).setCell ⟨w.heap.size, 3, none⟩ (.slice A7 l.length c7)).setCell ⟨w.heap.size + 1, 0, none⟩ (.string r)).setCell ⟨w.heap.size + 1 + 1, 0, none⟩ (.int .i64 0) = ((putI w8 w.heap.size k i tx (.slice A7 l.length c7)).setCell ⟨w.heap.size + 1, 0, none⟩ (.string r)).setCell ⟨w.heap.size + 1 + 1, 0, none⟩ (.int .i64 0) := rfl
      rw [hw9]
      clear hw9
      generalize ((putI w8 w.heap.size k i tx (.slice A7 l.length c7)).setCell ⟨w.heap.size + 1, 0, none⟩ (.string r)).setCell ⟨w.heap.size + 1 + 1, 0, none⟩ (.int .i64 0) = w9 at *
      have hLa := Kd.R_drew hL9
      have hIa : IB w9.drew w.heap.size k i tx (.slice A7 l.length c7) := hI9
      have hSa : SB w9.drew (w.heap.size + 1) r := hS9
      have hEa : EB w9.drew (w.heap.size + 1 + 1) 0 := hE9
      have hba : Below w.heap.size w w9.drew := below_drew1 hb9
      clear hL9 hI9 hS9 hE9 hb9
      generalize w9.drew = wa at *
      go_wp2
      refine leaves_cons (f := 55) (args := #[.pointer (some ⟨w.heap.size + 1 + 1, 0, none⟩), .pointer (some ⟨w.heap.size, 0, none⟩), .pointer (some ⟨w.heap.size + 1, 0, none⟩)]) (by simp) (by simp [go_sem]) ?_
      refine (next_catch_idle _ _ _ _ _ hEa).mono ?_
      rintro e u' w'' ⟨rfl, rfl, rfl⟩
      have hLb := Kd.R_mono (ok' := fun _ => True) (Kd.R_set hLa hEa (by decide) 0 (.int .i64 0)) (fun _ _ => trivial)
      have hIb := hIa.far (p := ⟨w.heap.size + 1 + 1, 0, none⟩) (by simp only; omega) (.int .i64 0)
      have hSb := hSa.far (p := ⟨w.heap.size + 1 + 1, 0, none⟩) (by simp only; omega) (.int .i64 0)
      have hEb := hEa.set 0
      have hbb := hba.setCell (p := ⟨w.heap.size + 1 + 1, 0, none⟩) (by simp only; omega) (.int .i64 0)
      clear hLa hIa hSa hEa hba
      generalize wa.setCell ⟨w.heap.size + 1 + 1, 0, none⟩ (.int .i64 0) = wb at *
      refine ⟨.tuple #[.agg #[.int .i64 k, .int .i64 i, .string tx, .slice A7 l.length c7], .string r, .int .i64 0], ?_, ?_⟩
      · exact next_results w _ wb k i tx r (.slice A7 l.length c7) 0 rfl rfl rfl hIb hSb hEb
      · exact NextPost.ok HF.out hLb hbb
def sfitem_Next.f (a0 : ByteArray) : Option (Int × Int × ByteArray × List S61 × ByteArray × Int) :=
  if a0.size ≤ 2199023255552 then (match rdNext a0 with | some (v, l, t) => some (v.1, v.2.1, v.2.2, l, t, 0) | none => some (0, 0, ⟨#[]⟩, [], ⟨#[]⟩, 50)) else none
theorem sfitem_Next.calls (a0 : ByteArray) (r1 : Int) (r2 : Int) (r3 : ByteArray) (r4 : List S61) (r5 : ByteArray) (r6 : Int) (w : World) (h : sfitem_Next.f a0 = some (r1, r2, r3, r4, r5, r6)) :
    Calls Tryz.prog 43 #[.string a0] w fun e w' => ∃ v4_ : Value, e = .returned (.tuple #[.agg #[.int .i64 r1, .int .i64 r2, .string r3, v4_], .string r5, .int .i64 r6]) ∧ Kd.R k61 61 w' w.heap.size (fun _ => True) v4_ r4 ∧ Below w.heap.size w w' := by
  unfold sfitem_Next.f at h
  by_cases hs : a0.size ≤ 2199023255552
  · rw [if_pos hs] at h
    refine (Next_calls a0 w hs).mono ?_
    intro e w' hp
    unfold NextPost at hp
    cases hN : rdNext a0 with
    | none =>
      rw [hN] at h hp
      simp only [Option.some.injEq, Prod.mk.injEq] at h
      obtain ⟨rfl, rfl, rfl, rfl, rfl, rfl⟩ := h
      exact ⟨.slice none 0 0, hp.1, Kd.R_nil _ _ _ _ _, hp.2⟩
    | some y =>
      obtain ⟨v, l, t⟩ := y
      rw [hN] at h hp
      simp only [Option.some.injEq, Prod.mk.injEq] at h
      obtain ⟨rfl, rfl, rfl, rfl, rfl, rfl⟩ := h
      obtain ⟨⟨u, he, hR⟩, hb⟩ := hp
      exact ⟨u, he, hR, hb⟩
  · rw [if_neg hs] at h; cases h
def sfitem_Parse.f (a0 : ByteArray) : Option (Int × Int × ByteArray × (List (S61)) × Int) := (strings_Trim.f a0 (⟨#[32]⟩ : ByteArray)).bind fun t115 => ((sfitem_Next.f t115).bind fun bt116 => (if bt116.2.2.2.2.2 = 0 then (if bt116.2.2.2.2.1.toList = ([] : List UInt8) then (if (a0.size : Int) > 4000 then (some (0, 0, (⟨#[]⟩ : ByteArray), ([] : List (S61)), 50)) else (some (bt116.1, bt116.2.1, bt116.2.2.1, bt116.2.2.2.1, 0))) else (some (0, 0, (⟨#[]⟩ : ByteArray), ([] : List (S61)), 50))) else (some (0, 0, (⟨#[]⟩ : ByteArray), ([] : List (S61)), 50))))
set_option maxHeartbeats 8000000 in
set_option maxRecDepth 100000 in
theorem sfitem_Parse.calls (a0 : ByteArray) (r1 : Int) (r2 : Int) (r3 : ByteArray) (r4 : List (S61)) (r5 : Int) (w : World) (h : sfitem_Parse.f a0 = some (r1, r2, r3, r4, r5)) :
    Calls Tryz.prog 30 #[.string a0] w fun e w' => ∃ v3_ : Value, e = .returned (.tuple #[.agg #[.int .i64 r1, .int .i64 r2, .string r3, v3_], .int .i64 r5]) ∧ Kd.R k61 61 w' w.heap.size (fun _ => True) v3_ r4 ∧ Below w.heap.size w w' := by
  have hu56 := Tryz.underlying56
  have HB := Aside0.mk (Below.refl w.heap.size w)
  have H : ((strings_Trim.f a0 (⟨#[32]⟩ : ByteArray)).bind fun t115 => ((sfitem_Next.f t115).bind fun bt116 => (if bt116.2.2.2.2.2 = 0 then (if bt116.2.2.2.2.1.toList = ([] : List UInt8) then (if (a0.size : Int) > 4000 then (some (0, 0, (⟨#[]⟩ : ByteArray), ([] : List (S61)), 50)) else (some (bt116.1, bt116.2.1, bt116.2.2.1, bt116.2.2.2.1, 0))) else (some (0, 0, (⟨#[]⟩ : ByteArray), ([] : List (S61)), 50))) else (some (0, 0, (⟨#[]⟩ : ByteArray), ([] : List (S61)), 50))))) = some (r1, r2, r3, r4, r5) := h
  clear h
  replace H := Option.bind_eq_some_iff.mp H
  obtain ⟨t115, A20, H⟩ := H
  replace H : ((sfitem_Next.f t115).bind fun bt116 => (if bt116.2.2.2.2.2 = 0 then (if bt116.2.2.2.2.1.toList = ([] : List UInt8) then (if (a0.size : Int) > 4000 then (some (0, 0, (⟨#[]⟩ : ByteArray), ([] : List (S61)), 50)) else (some (bt116.1, bt116.2.1, bt116.2.2.1, bt116.2.2.2.1, 0))) else (some (0, 0, (⟨#[]⟩ : ByteArray), ([] : List (S61)), 50))) else (some (0, 0, (⟨#[]⟩ : ByteArray), ([] : List (S61)), 50)))) = some (r1, r2, r3, r4, r5) := H
  have A2 := Aside0.mk A20
  clear A20
  replace H := Option.bind_eq_some_iff.mp H
  obtain ⟨⟨t116, t117, t118, t119, t122, t123⟩, A30, H⟩ := H
  replace H : (if t123 = 0 then (if t122.toList = ([] : List UInt8) then (if (a0.size : Int) > 4000 then (some (0, 0, (⟨#[]⟩ : ByteArray), ([] : List (S61)), 50)) else (some (t116, t117, t118, t119, 0))) else (some (0, 0, (⟨#[]⟩ : ByteArray), ([] : List (S61)), 50))) else (some (0, 0, (⟨#[]⟩ : ByteArray), ([] : List (S61)), 50))) = some (r1, r2, r3, r4, r5) := H
  have A3 := Aside0.mk A30
  clear A30
  by_cases c4 : t123 = 0
  · rw [if_pos c4] at H
    have c4b0 : (t123 == 0) = true := beq_iff_eq.mpr c4
    have c4b1 : (t123 != 0) = false := bne_eq_false_iff_eq.mpr c4
    clear c4
    by_cases c5 : t122.toList = ([] : List UInt8)
    · rw [if_pos c5] at H
      have c5b0 : (t122.toList == ([] : List UInt8)) = true := beq_iff_eq.mpr c5
      have c5b1 : (t122.toList != ([] : List UInt8)) = false := bne_eq_false_iff_eq.mpr c5
      clear c5
      by_cases c6 : (a0.size : Int) > 4000
      · rw [if_pos c6] at H
        have c6b0 : decide (4000 < (a0.size : Int)) = true := decide_eq_true c6
        have c6b1 : decide (4000 < a0.size) = true := decide_eq_true (by omega)
        clear c6
        simp only [Option.some.injEq, Prod.mk.injEq] at H
        obtain ⟨rfl, rfl, rfl, rfl, rfl⟩ := H
        go_enter Tryz.func30, Tryz.ntmps30
        go_wp2_with (first | ((with_reducible refine gate_dst (N := 2) rfl ?_); (try (refine gate_guard (by rfl) ?_; dsimp only)); refine box_event ?hg (N := 2) ?hd (cs := #[.int .i64 0, .int .i64 0, .string (⟨#[]⟩ : ByteArray), .slice none 0 0]) (t := 56) ?hr ?_; (case hd => rfl); (case hg => rfl); (case hr => first | (go_simp; done) | (go_simp; rfl)); intro gb114 hg w7 hbox hb; have n0_ := Aside0.mk (below_step (by repeat (first | (with_reducible first | exact HB.out | apply below_alloc | apply pw_below_drewN | apply below_drew1) | exact HB.out)) hb); have n1_ := Aside0.mk (hbox); have n2_ := Aside0.mk ((by rw [hg]; exact (below_size (by repeat (first | (with_reducible first | exact HB.out | apply below_alloc | apply pw_below_drewN | apply below_drew1) | exact HB.out))) : w.heap.size ≤ gb114)); have n3_ := Aside0.mk ((by rw [hg]; exact (below_size (by repeat (first | (with_reducible first | exact HB.out | apply below_alloc | apply pw_below_drewN | apply below_drew1) | exact HB.out))) : w.heap.size ≤ gb114)); clear HB; have HB := n0_; have BK114 := n1_; have GW114 := n2_; have GE114 := n3_; clear n0_ n1_ n2_ n3_; clear hb hbox hg) | ((with_reducible refine gate_callee (f := 26) rfl ?_); refine goesL_ (some 9) rfl rfl Tryz.func26 (by kernel_rfl) rfl #[.string a0, .string (⟨#[32]⟩ : ByteArray)] rfl (by (try simp only [List.map_toArray, List.map_cons, List.map_nil]); first | done | rfl | (simp only [List.length_drop, List.length_take]; rfl)) ?_; (with_reducible refine (strings_Trim.calls a0 (⟨#[32]⟩ : ByteArray) t115 _ A2.out).mono ?_); rintro e w8 ⟨rfl, hb⟩; refine ⟨_, rfl, ?_⟩; have n0_ := Aside0.mk (blk_below (g := gb114) (o := .cells #[.int .i64 0, .int .i64 0, .string (⟨#[]⟩ : ByteArray), .slice none 0 0] 56 (0, 0)) (by (with_reducible repeat (first | refine blk_drewN ?_ _ | refine blk_drew ?_ | refine blk_alloc ?_ _)); exact BK114.out) hb); have n1_ := Aside0.mk (below_step (by repeat (first | (with_reducible first | exact HB.out | apply below_alloc | apply pw_below_drewN | apply below_drew1 | refine below_set ?_ GE114.out) | exact HB.out)) hb); clear BK114; clear HB; have BK114 := n0_; have HB := n1_; clear n0_ n1_; (try clear hb); (try clear hb2); (try clear hk); (try clear hi)) | ((with_reducible refine gate_callee (f := 43) rfl ?_); refine goesL_ (some 10) rfl rfl Tryz.func43 (by kernel_rfl) rfl #[.string t115] rfl (by (try simp only [List.map_toArray, List.map_cons, List.map_nil]); first | done | rfl | (simp only [List.length_drop, List.length_take]; rfl)) ?_; (with_reducible refine (sfitem_Next.calls t115 t116 t117 t118 t119 t122 t123 _ A3.out).mono ?_); rintro e w9 ⟨v120, rfl, ho0, hb⟩; refine ⟨_, rfl, ?_⟩; have n0_ := Aside0.mk (Kd.R_lower ho0 (below_size (by repeat (first | (with_reducible first | exact HB.out | apply below_alloc | apply pw_below_drewN | apply below_drew1 | refine below_set ?_ GE114.out) | exact HB.out)))); have n1_ := Aside0.mk (blk_below (g := gb114) (o := .cells #[.int .i64 0, .int .i64 0, .string (⟨#[]⟩ : ByteArray), .slice none 0 0] 56 (0, 0)) (by (with_reducible repeat (first | refine blk_drewN ?_ _ | refine blk_drew ?_ | refine blk_alloc ?_ _)); exact BK114.out) hb); have n2_ := Aside0.mk (below_step (by repeat (first | (with_reducible first | exact HB.out | apply below_alloc | apply pw_below_drewN | apply below_drew1 | refine below_set ?_ GE114.out) | exact HB.out)) hb); clear BK114; clear HB; have HO121 := n0_; have BK114 := n1_; have HB := n2_; clear n0_ n1_ n2_; (try clear hb); (try clear hb2); (try clear hk); (try clear hi); (try clear ho0)) | ((with_reducible refine gate_dst (N := 4) rfl ?_); (try (refine gate_guard (by rfl) ?_; dsimp only)); refine box_event ?hg (N := 4) ?hd (cs := #[.int .i64 0, .int .i64 0, .string (⟨#[]⟩ : ByteArray), .slice none 0 0]) (t := 56) ?hr ?_; (case hd => rfl); (case hg => rfl); (case hr => first | (go_simp; done) | (go_simp; rfl)); intro gb124 hg w10 hbox hb; have n0_ := Aside0.mk (Kd.R_below (by (with_reducible repeat (first | apply Kd.R_alloc | apply Kd.R_drewN | apply Kd.R_drew)); exact HO121.out) hb); have n1_ := Aside0.mk (blk_below (g := gb114) (o := .cells #[.int .i64 0, .int .i64 0, .string (⟨#[]⟩ : ByteArray), .slice none 0 0] 56 (0, 0)) (by (with_reducible repeat (first | refine blk_drewN ?_ _ | refine blk_drew ?_ | refine blk_alloc ?_ _)); exact BK114.out) hb); have n2_ := Aside0.mk (below_step (by repeat (first | (with_reducible first | exact HB.out | apply below_alloc | apply pw_below_drewN | apply below_drew1 | refine below_set ?_ GE114.out) | exact HB.out)) hb); have n3_ := Aside0.mk (hbox); have n4_ := Aside0.mk ((by rw [hg]; exact (below_size (by repeat (first | (with_reducible first | exact HB.out | apply below_alloc | apply pw_below_drewN | apply below_drew1 | refine below_set ?_ GE114.out) | exact HB.out))) : w.heap.size ≤ gb124)); have n5_ := Aside0.mk ((by rw [hg]; exact (below_size (by repeat (first | (with_reducible first | exact HB.out | apply below_alloc | apply pw_below_drewN | apply below_drew1 | refine below_set ?_ GE114.out) | exact HB.out))) : w.heap.size ≤ gb124)); have n6_ := Aside0.mk ((by rw [hg]; exact Nat.ne_of_lt (blk_lt (g := gb114) (o := .cells #[.int .i64 0, .int .i64 0, .string (⟨#[]⟩ : ByteArray), .slice none 0 0] 56 (0, 0)) (by (with_reducible repeat (first | refine blk_drewN ?_ _ | refine blk_drew ?_ | refine blk_alloc ?_ _)); exact BK114.out)) : gb114 ≠ gb124)); have n7_ := Aside0.mk ((by rw [hg]; exact Nat.ne_of_gt (blk_lt (g := gb114) (o := .cells #[.int .i64 0, .int .i64 0, .string (⟨#[]⟩ : ByteArray), .slice none 0 0] 56 (0, 0)) (by (with_reducible repeat (first | refine blk_drewN ?_ _ | refine blk_drew ?_ | refine blk_alloc ?_ _)); exact BK114.out)) : gb124 ≠ gb114)); clear HO121; clear BK114; clear HB; have HO121 := n0_; have BK114 := n1_; have HB := n2_; have BK124 := n3_; have GW124 := n4_; have GE124 := n5_; have NB114_124 := n6_; have NB124_114 := n7_; clear n0_ n1_ n2_ n3_ n4_ n5_ n6_ n7_; clear hb hbox hg; have hnb11 := NB124_114.out; have hnc11 := NB114_124.out; have hcz12_0 : w10.cell? ⟨gb124, 0, none⟩ = some (.int .i64 0) := (blk_cell BK124.out 0).trans rfl; have hcz12_1 : w10.cell? ⟨gb124, 1, none⟩ = some (.int .i64 0) := (blk_cell BK124.out 1).trans rfl; have hcz12_2 : w10.cell? ⟨gb124, 2, none⟩ = some (.string (⟨#[]⟩ : ByteArray)) := (blk_cell BK124.out 2).trans rfl; have hcz12_3 : w10.cell? ⟨gb124, 3, none⟩ = some (.slice none 0 0) := (blk_cell BK124.out 3).trans rfl; have hfz12_0 := blk_frozen BK124.out 0; have hfz12_1 := blk_frozen BK124.out 1; have hfz12_2 := blk_frozen BK124.out 2; have hfz12_3 := blk_frozen BK124.out 3; obtain ⟨Ao13, co13, eo13⟩ := Kd.R_slice HO121.out; subst eo13; have hcz14_0 : w10.cell? ⟨gb114, 0, none⟩ = some (.int .i64 0) := (blk_cell BK114.out 0).trans rfl; have hcz14_1 : w10.cell? ⟨gb114, 1, none⟩ = some (.int .i64 0) := (blk_cell BK114.out 1).trans rfl; have hcz14_2 : w10.cell? ⟨gb114, 2, none⟩ = some (.string (⟨#[]⟩ : ByteArray)) := (blk_cell BK114.out 2).trans rfl; have hcz14_3 : w10.cell? ⟨gb114, 3, none⟩ = some (.slice none 0 0) := (blk_cell BK114.out 3).trans rfl; have hfz14_0 := blk_frozen BK114.out 0; have hfz14_1 := blk_frozen BK114.out 1; have hfz14_2 := blk_frozen BK114.out 2; have hfz14_3 := blk_frozen BK114.out 3))
        refine bodyPost_ret (results_ct rfl _ _ gb114 56 #[.int .i64 0, .int .i64 0, .string (⟨#[]⟩ : ByteArray), .slice none 0 0] (0, 0) _ rfl (by (with_reducible repeat (first | refine blk_drewN ?_ _ | refine blk_drew ?_ | refine blk_alloc ?_ _)); refine blk_put (cs := #[.int .i64 0, .int .i64 0, .string (⟨#[]⟩ : ByteArray), .slice none 0 0]) ?_ 3 _ rfl; (with_reducible repeat (first | refine blk_drewN ?_ _ | refine blk_drew ?_ | refine blk_alloc ?_ _)); refine blk_put (cs := #[.int .i64 0, .int .i64 0, .string (⟨#[]⟩ : ByteArray), .slice none 0 0]) ?_ 2 _ rfl; (with_reducible repeat (first | refine blk_drewN ?_ _ | refine blk_drew ?_ | refine blk_alloc ?_ _)); refine blk_put (cs := #[.int .i64 0, .int .i64 0, .string (⟨#[]⟩ : ByteArray), .slice none 0 0]) ?_ 1 _ rfl; (with_reducible repeat (first | refine blk_drewN ?_ _ | refine blk_drew ?_ | refine blk_alloc ?_ _)); refine blk_put (cs := #[.int .i64 0, .int .i64 0, .string (⟨#[]⟩ : ByteArray), .slice none 0 0]) ?_ 0 _ rfl; (with_reducible repeat (first | refine blk_drewN ?_ _ | refine blk_drew ?_ | refine blk_alloc ?_ _)); refine blk_far ?_ NB114_124.out _; (with_reducible repeat (first | refine blk_drewN ?_ _ | refine blk_drew ?_ | refine blk_alloc ?_ _)); refine blk_far ?_ NB114_124.out _; (with_reducible repeat (first | refine blk_drewN ?_ _ | refine blk_drew ?_ | refine blk_alloc ?_ _)); refine blk_far ?_ NB114_124.out _; (with_reducible repeat (first | refine blk_drewN ?_ _ | refine blk_drew ?_ | refine blk_alloc ?_ _)); refine blk_far ?_ NB114_124.out _; (with_reducible repeat (first | refine blk_drewN ?_ _ | refine blk_drew ?_ | refine blk_alloc ?_ _)); exact BK114.out) Tryz.underlying56 rfl (by kernel_rfl)) rfl ?_
        exact ⟨_, by first | rfl | (simp [errW_none, errW_some] <;> rfl) | (simp [*, errW_none, errW_some] <;> rfl) | (simp [q_ne_nil]; done), by first | exact Kd.R_nil _ _ _ _ _ | exact Kd.N_nil _ _ _ _ _ | exact Kd.V_nil _ _ _ _ _ | exact Kd.Q_nil _ _ _ _ _ | exact Kd.S_nil _ _ _ _ _, by repeat (first | (with_reducible first | exact HB.out | apply below_alloc | apply pw_below_drewN | apply below_drew1 | refine below_set ?_ GE114.out | refine below_set ?_ GE124.out) | exact HB.out)⟩
      · rw [if_neg c6] at H
        have c6b0 : decide (4000 < (a0.size : Int)) = false := decide_eq_false c6
        have c6b1 : decide (4000 < a0.size) = false := decide_eq_false (by omega)
        clear c6
        simp only [Option.some.injEq, Prod.mk.injEq] at H
        obtain ⟨rfl, rfl, rfl, rfl, rfl⟩ := H
        go_enter Tryz.func30, Tryz.ntmps30
        go_wp2_with (first | ((with_reducible refine gate_dst (N := 2) rfl ?_); (try (refine gate_guard (by rfl) ?_; dsimp only)); refine box_event ?hg (N := 2) ?hd (cs := #[.int .i64 0, .int .i64 0, .string (⟨#[]⟩ : ByteArray), .slice none 0 0]) (t := 56) ?hr ?_; (case hd => rfl); (case hg => rfl); (case hr => first | (go_simp; done) | (go_simp; rfl)); intro gb114 hg w15 hbox hb; have n0_ := Aside0.mk (below_step (by repeat (first | (with_reducible first | exact HB.out | apply below_alloc | apply pw_below_drewN | apply below_drew1) | exact HB.out)) hb); have n1_ := Aside0.mk (hbox); have n2_ := Aside0.mk ((by rw [hg]; exact (below_size (by repeat (first | (with_reducible first | exact HB.out | apply below_alloc | apply pw_below_drewN | apply below_drew1) | exact HB.out))) : w.heap.size ≤ gb114)); have n3_ := Aside0.mk ((by rw [hg]; exact (below_size (by repeat (first | (with_reducible first | exact HB.out | apply below_alloc | apply pw_below_drewN | apply below_drew1) | exact HB.out))) : w.heap.size ≤ gb114)); clear HB; have HB := n0_; have BK114 := n1_; have GW114 := n2_; have GE114 := n3_; clear n0_ n1_ n2_ n3_; clear hb hbox hg) | ((with_reducible refine gate_callee (f := 26) rfl ?_); refine goesL_ (some 9) rfl rfl Tryz.func26 (by kernel_rfl) rfl #[.string a0, .string (⟨#[32]⟩ : ByteArray)] rfl (by (try simp only [List.map_toArray, List.map_cons, List.map_nil]); first | done | rfl | (simp only [List.length_drop, List.length_take]; rfl)) ?_; (with_reducible refine (strings_Trim.calls a0 (⟨#[32]⟩ : ByteArray) t115 _ A2.out).mono ?_); rintro e w16 ⟨rfl, hb⟩; refine ⟨_, rfl, ?_⟩; have n0_ := Aside0.mk (blk_below (g := gb114) (o := .cells #[.int .i64 0, .int .i64 0, .string (⟨#[]⟩ : ByteArray), .slice none 0 0] 56 (0, 0)) (by (with_reducible repeat (first | refine blk_drewN ?_ _ | refine blk_drew ?_ | refine blk_alloc ?_ _)); exact BK114.out) hb); have n1_ := Aside0.mk (below_step (by repeat (first | (with_reducible first | exact HB.out | apply below_alloc | apply pw_below_drewN | apply below_drew1 | refine below_set ?_ GE114.out) | exact HB.out)) hb); clear BK114; clear HB; have BK114 := n0_; have HB := n1_; clear n0_ n1_; (try clear hb); (try clear hb2); (try clear hk); (try clear hi)) | ((with_reducible refine gate_callee (f := 43) rfl ?_); refine goesL_ (some 10) rfl rfl Tryz.func43 (by kernel_rfl) rfl #[.string t115] rfl (by (try simp only [List.map_toArray, List.map_cons, List.map_nil]); first | done | rfl | (simp only [List.length_drop, List.length_take]; rfl)) ?_; (with_reducible refine (sfitem_Next.calls t115 t116 t117 t118 t119 t122 t123 _ A3.out).mono ?_); rintro e w17 ⟨v120, rfl, ho0, hb⟩; refine ⟨_, rfl, ?_⟩; have n0_ := Aside0.mk (Kd.R_lower ho0 (below_size (by repeat (first | (with_reducible first | exact HB.out | apply below_alloc | apply pw_below_drewN | apply below_drew1 | refine below_set ?_ GE114.out) | exact HB.out)))); have n1_ := Aside0.mk (blk_below (g := gb114) (o := .cells #[.int .i64 0, .int .i64 0, .string (⟨#[]⟩ : ByteArray), .slice none 0 0] 56 (0, 0)) (by (with_reducible repeat (first | refine blk_drewN ?_ _ | refine blk_drew ?_ | refine blk_alloc ?_ _)); exact BK114.out) hb); have n2_ := Aside0.mk (below_step (by repeat (first | (with_reducible first | exact HB.out | apply below_alloc | apply pw_below_drewN | apply below_drew1 | refine below_set ?_ GE114.out) | exact HB.out)) hb); clear BK114; clear HB; have HO121 := n0_; have BK114 := n1_; have HB := n2_; clear n0_ n1_ n2_; (try clear hb); (try clear hb2); (try clear hk); (try clear hi); (try clear ho0)) | ((with_reducible refine gate_dst (N := 4) rfl ?_); (try (refine gate_guard (by rfl) ?_; dsimp only)); refine box_event ?hg (N := 4) ?hd (cs := #[.int .i64 0, .int .i64 0, .string (⟨#[]⟩ : ByteArray), .slice none 0 0]) (t := 56) ?hr ?_; (case hd => rfl); (case hg => rfl); (case hr => first | (go_simp; done) | (go_simp; rfl)); intro gb124 hg w18 hbox hb; have n0_ := Aside0.mk (Kd.R_below (by (with_reducible repeat (first | apply Kd.R_alloc | apply Kd.R_drewN | apply Kd.R_drew)); exact HO121.out) hb); have n1_ := Aside0.mk (blk_below (g := gb114) (o := .cells #[.int .i64 0, .int .i64 0, .string (⟨#[]⟩ : ByteArray), .slice none 0 0] 56 (0, 0)) (by (with_reducible repeat (first | refine blk_drewN ?_ _ | refine blk_drew ?_ | refine blk_alloc ?_ _)); exact BK114.out) hb); have n2_ := Aside0.mk (below_step (by repeat (first | (with_reducible first | exact HB.out | apply below_alloc | apply pw_below_drewN | apply below_drew1 | refine below_set ?_ GE114.out) | exact HB.out)) hb); have n3_ := Aside0.mk (hbox); have n4_ := Aside0.mk ((by rw [hg]; exact (below_size (by repeat (first | (with_reducible first | exact HB.out | apply below_alloc | apply pw_below_drewN | apply below_drew1 | refine below_set ?_ GE114.out) | exact HB.out))) : w.heap.size ≤ gb124)); have n5_ := Aside0.mk ((by rw [hg]; exact (below_size (by repeat (first | (with_reducible first | exact HB.out | apply below_alloc | apply pw_below_drewN | apply below_drew1 | refine below_set ?_ GE114.out) | exact HB.out))) : w.heap.size ≤ gb124)); have n6_ := Aside0.mk ((by rw [hg]; exact Nat.ne_of_lt (blk_lt (g := gb114) (o := .cells #[.int .i64 0, .int .i64 0, .string (⟨#[]⟩ : ByteArray), .slice none 0 0] 56 (0, 0)) (by (with_reducible repeat (first | refine blk_drewN ?_ _ | refine blk_drew ?_ | refine blk_alloc ?_ _)); exact BK114.out)) : gb114 ≠ gb124)); have n7_ := Aside0.mk ((by rw [hg]; exact Nat.ne_of_gt (blk_lt (g := gb114) (o := .cells #[.int .i64 0, .int .i64 0, .string (⟨#[]⟩ : ByteArray), .slice none 0 0] 56 (0, 0)) (by (with_reducible repeat (first | refine blk_drewN ?_ _ | refine blk_drew ?_ | refine blk_alloc ?_ _)); exact BK114.out)) : gb124 ≠ gb114)); clear HO121; clear BK114; clear HB; have HO121 := n0_; have BK114 := n1_; have HB := n2_; have BK124 := n3_; have GW124 := n4_; have GE124 := n5_; have NB114_124 := n6_; have NB124_114 := n7_; clear n0_ n1_ n2_ n3_ n4_ n5_ n6_ n7_; clear hb hbox hg; have hnb19 := NB124_114.out; have hnc19 := NB114_124.out; have hcz20_0 : w18.cell? ⟨gb124, 0, none⟩ = some (.int .i64 0) := (blk_cell BK124.out 0).trans rfl; have hcz20_1 : w18.cell? ⟨gb124, 1, none⟩ = some (.int .i64 0) := (blk_cell BK124.out 1).trans rfl; have hcz20_2 : w18.cell? ⟨gb124, 2, none⟩ = some (.string (⟨#[]⟩ : ByteArray)) := (blk_cell BK124.out 2).trans rfl; have hcz20_3 : w18.cell? ⟨gb124, 3, none⟩ = some (.slice none 0 0) := (blk_cell BK124.out 3).trans rfl; have hfz20_0 := blk_frozen BK124.out 0; have hfz20_1 := blk_frozen BK124.out 1; have hfz20_2 := blk_frozen BK124.out 2; have hfz20_3 := blk_frozen BK124.out 3; obtain ⟨Ao21, co21, eo21⟩ := Kd.R_slice HO121.out; subst eo21; have hcz22_0 : w18.cell? ⟨gb114, 0, none⟩ = some (.int .i64 0) := (blk_cell BK114.out 0).trans rfl; have hcz22_1 : w18.cell? ⟨gb114, 1, none⟩ = some (.int .i64 0) := (blk_cell BK114.out 1).trans rfl; have hcz22_2 : w18.cell? ⟨gb114, 2, none⟩ = some (.string (⟨#[]⟩ : ByteArray)) := (blk_cell BK114.out 2).trans rfl; have hcz22_3 : w18.cell? ⟨gb114, 3, none⟩ = some (.slice none 0 0) := (blk_cell BK114.out 3).trans rfl; have hfz22_0 := blk_frozen BK114.out 0; have hfz22_1 := blk_frozen BK114.out 1; have hfz22_2 := blk_frozen BK114.out 2; have hfz22_3 := blk_frozen BK114.out 3))
        refine bodyPost_ret (results_ct rfl _ _ gb114 56 #[.int .i64 t116, .int .i64 t117, .string t118, .slice Ao21 t119.length co21] (0, 0) _ rfl (by (with_reducible repeat (first | refine blk_drewN ?_ _ | refine blk_drew ?_ | refine blk_alloc ?_ _)); refine blk_put (cs := #[.int .i64 t116, .int .i64 t117, .string t118, .slice none 0 0]) ?_ 3 _ rfl; (with_reducible repeat (first | refine blk_drewN ?_ _ | refine blk_drew ?_ | refine blk_alloc ?_ _)); refine blk_put (cs := #[.int .i64 t116, .int .i64 t117, .string (⟨#[]⟩ : ByteArray), .slice none 0 0]) ?_ 2 _ rfl; (with_reducible repeat (first | refine blk_drewN ?_ _ | refine blk_drew ?_ | refine blk_alloc ?_ _)); refine blk_put (cs := #[.int .i64 t116, .int .i64 0, .string (⟨#[]⟩ : ByteArray), .slice none 0 0]) ?_ 1 _ rfl; (with_reducible repeat (first | refine blk_drewN ?_ _ | refine blk_drew ?_ | refine blk_alloc ?_ _)); refine blk_put (cs := #[.int .i64 0, .int .i64 0, .string (⟨#[]⟩ : ByteArray), .slice none 0 0]) ?_ 0 _ rfl; (with_reducible repeat (first | refine blk_drewN ?_ _ | refine blk_drew ?_ | refine blk_alloc ?_ _)); refine blk_far ?_ NB114_124.out _; (with_reducible repeat (first | refine blk_drewN ?_ _ | refine blk_drew ?_ | refine blk_alloc ?_ _)); refine blk_far ?_ NB114_124.out _; (with_reducible repeat (first | refine blk_drewN ?_ _ | refine blk_drew ?_ | refine blk_alloc ?_ _)); refine blk_far ?_ NB114_124.out _; (with_reducible repeat (first | refine blk_drewN ?_ _ | refine blk_drew ?_ | refine blk_alloc ?_ _)); refine blk_far ?_ NB114_124.out _; (with_reducible repeat (first | refine blk_drewN ?_ _ | refine blk_drew ?_ | refine blk_alloc ?_ _)); exact BK114.out) Tryz.underlying56 rfl (by kernel_rfl)) rfl ?_
        exact ⟨_, by first | rfl | (simp [errW_none, errW_some] <;> rfl) | (simp [*, errW_none, errW_some] <;> rfl) | (simp [q_ne_nil]; done), by (with_reducible repeat (first | apply Kd.R_alloc | apply Kd.R_drewN | apply Kd.R_drew)); exact Kd.R_mono (Kd.R_far (p := ⟨gb114, 3, none⟩) (Kd.R_far (p := ⟨gb114, 2, none⟩) (Kd.R_far (p := ⟨gb114, 1, none⟩) (Kd.R_far (p := ⟨gb114, 0, none⟩) (Kd.R_far (p := ⟨gb124, 3, none⟩) (Kd.R_far (p := ⟨gb124, 2, none⟩) (Kd.R_far (p := ⟨gb124, 1, none⟩) (Kd.R_far (p := ⟨gb124, 0, none⟩) (Kd.R_types (Kd.R_types HO121.out BK124.out (by decide)) BK114.out (by decide)) (fun _ hk => hk.1.2) (.int .i64 t116)) (fun _ hk => hk.1.2) (.int .i64 t117)) (fun _ hk => hk.1.2) (.string t118)) (fun _ hk => hk.1.2) (.slice Ao21 t119.length co21)) (fun _ hk => hk.2) (.int .i64 t116)) (fun _ hk => hk.2) (.int .i64 t117)) (fun _ hk => hk.2) (.string t118)) (fun _ hk => hk.2) (.slice Ao21 t119.length co21)) (fun _ hk => trivial), by repeat (first | (with_reducible first | exact HB.out | apply below_alloc | apply pw_below_drewN | apply below_drew1 | refine below_set ?_ GE114.out | refine below_set ?_ GE124.out) | exact HB.out)⟩
    · rw [if_neg c5] at H
      have c5b0 : (t122.toList == ([] : List UInt8)) = false := beq_eq_false_iff_ne.mpr c5
      have c5b1 : (t122.toList != ([] : List UInt8)) = true := bne_iff_ne.mpr c5
      simp only [Option.some.injEq, Prod.mk.injEq] at H
      obtain ⟨rfl, rfl, rfl, rfl, rfl⟩ := H
      go_enter Tryz.func30, Tryz.ntmps30
      go_wp2_with (first | ((with_reducible refine gate_dst (N := 2) rfl ?_); (try (refine gate_guard (by rfl) ?_; dsimp only)); refine box_event ?hg (N := 2) ?hd (cs := #[.int .i64 0, .int .i64 0, .string (⟨#[]⟩ : ByteArray), .slice none 0 0]) (t := 56) ?hr ?_; (case hd => rfl); (case hg => rfl); (case hr => first | (go_simp; done) | (go_simp; rfl)); intro gb114 hg w23 hbox hb; have n0_ := Aside0.mk (below_step (by repeat (first | (with_reducible first | exact HB.out | apply below_alloc | apply pw_below_drewN | apply below_drew1) | exact HB.out)) hb); have n1_ := Aside0.mk (hbox); have n2_ := Aside0.mk ((by rw [hg]; exact (below_size (by repeat (first | (with_reducible first | exact HB.out | apply below_alloc | apply pw_below_drewN | apply below_drew1) | exact HB.out))) : w.heap.size ≤ gb114)); have n3_ := Aside0.mk ((by rw [hg]; exact (below_size (by repeat (first | (with_reducible first | exact HB.out | apply below_alloc | apply pw_below_drewN | apply below_drew1) | exact HB.out))) : w.heap.size ≤ gb114)); clear HB; have HB := n0_; have BK114 := n1_; have GW114 := n2_; have GE114 := n3_; clear n0_ n1_ n2_ n3_; clear hb hbox hg) | ((with_reducible refine gate_callee (f := 26) rfl ?_); refine goesL_ (some 9) rfl rfl Tryz.func26 (by kernel_rfl) rfl #[.string a0, .string (⟨#[32]⟩ : ByteArray)] rfl (by (try simp only [List.map_toArray, List.map_cons, List.map_nil]); first | done | rfl | (simp only [List.length_drop, List.length_take]; rfl)) ?_; (with_reducible refine (strings_Trim.calls a0 (⟨#[32]⟩ : ByteArray) t115 _ A2.out).mono ?_); rintro e w24 ⟨rfl, hb⟩; refine ⟨_, rfl, ?_⟩; have n0_ := Aside0.mk (blk_below (g := gb114) (o := .cells #[.int .i64 0, .int .i64 0, .string (⟨#[]⟩ : ByteArray), .slice none 0 0] 56 (0, 0)) (by (with_reducible repeat (first | refine blk_drewN ?_ _ | refine blk_drew ?_ | refine blk_alloc ?_ _)); exact BK114.out) hb); have n1_ := Aside0.mk (below_step (by repeat (first | (with_reducible first | exact HB.out | apply below_alloc | apply pw_below_drewN | apply below_drew1 | refine below_set ?_ GE114.out) | exact HB.out)) hb); clear BK114; clear HB; have BK114 := n0_; have HB := n1_; clear n0_ n1_; (try clear hb); (try clear hb2); (try clear hk); (try clear hi)) | ((with_reducible refine gate_callee (f := 43) rfl ?_); refine goesL_ (some 10) rfl rfl Tryz.func43 (by kernel_rfl) rfl #[.string t115] rfl (by (try simp only [List.map_toArray, List.map_cons, List.map_nil]); first | done | rfl | (simp only [List.length_drop, List.length_take]; rfl)) ?_; (with_reducible refine (sfitem_Next.calls t115 t116 t117 t118 t119 t122 t123 _ A3.out).mono ?_); rintro e w25 ⟨v120, rfl, ho0, hb⟩; refine ⟨_, rfl, ?_⟩; have n0_ := Aside0.mk (Kd.R_lower ho0 (below_size (by repeat (first | (with_reducible first | exact HB.out | apply below_alloc | apply pw_below_drewN | apply below_drew1 | refine below_set ?_ GE114.out) | exact HB.out)))); have n1_ := Aside0.mk (blk_below (g := gb114) (o := .cells #[.int .i64 0, .int .i64 0, .string (⟨#[]⟩ : ByteArray), .slice none 0 0] 56 (0, 0)) (by (with_reducible repeat (first | refine blk_drewN ?_ _ | refine blk_drew ?_ | refine blk_alloc ?_ _)); exact BK114.out) hb); have n2_ := Aside0.mk (below_step (by repeat (first | (with_reducible first | exact HB.out | apply below_alloc | apply pw_below_drewN | apply below_drew1 | refine below_set ?_ GE114.out) | exact HB.out)) hb); clear BK114; clear HB; have HO121 := n0_; have BK114 := n1_; have HB := n2_; clear n0_ n1_ n2_; (try clear hb); (try clear hb2); (try clear hk); (try clear hi); (try clear ho0)) | ((with_reducible refine gate_dst (N := 4) rfl ?_); (try (refine gate_guard (by rfl) ?_; dsimp only)); refine box_event ?hg (N := 4) ?hd (cs := #[.int .i64 0, .int .i64 0, .string (⟨#[]⟩ : ByteArray), .slice none 0 0]) (t := 56) ?hr ?_; (case hd => rfl); (case hg => rfl); (case hr => first | (go_simp; done) | (go_simp; rfl)); intro gb124 hg w26 hbox hb; have n0_ := Aside0.mk (Kd.R_below (by (with_reducible repeat (first | apply Kd.R_alloc | apply Kd.R_drewN | apply Kd.R_drew)); exact HO121.out) hb); have n1_ := Aside0.mk (blk_below (g := gb114) (o := .cells #[.int .i64 0, .int .i64 0, .string (⟨#[]⟩ : ByteArray), .slice none 0 0] 56 (0, 0)) (by (with_reducible repeat (first | refine blk_drewN ?_ _ | refine blk_drew ?_ | refine blk_alloc ?_ _)); exact BK114.out) hb); have n2_ := Aside0.mk (below_step (by repeat (first | (with_reducible first | exact HB.out | apply below_alloc | apply pw_below_drewN | apply below_drew1 | refine below_set ?_ GE114.out) | exact HB.out)) hb); have n3_ := Aside0.mk (hbox); have n4_ := Aside0.mk ((by rw [hg]; exact (below_size (by repeat (first | (with_reducible first | exact HB.out | apply below_alloc | apply pw_below_drewN | apply below_drew1 | refine below_set ?_ GE114.out) | exact HB.out))) : w.heap.size ≤ gb124)); have n5_ := Aside0.mk ((by rw [hg]; exact (below_size (by repeat (first | (with_reducible first | exact HB.out | apply below_alloc | apply pw_below_drewN | apply below_drew1 | refine below_set ?_ GE114.out) | exact HB.out))) : w.heap.size ≤ gb124)); have n6_ := Aside0.mk ((by rw [hg]; exact Nat.ne_of_lt (blk_lt (g := gb114) (o := .cells #[.int .i64 0, .int .i64 0, .string (⟨#[]⟩ : ByteArray), .slice none 0 0] 56 (0, 0)) (by (with_reducible repeat (first | refine blk_drewN ?_ _ | refine blk_drew ?_ | refine blk_alloc ?_ _)); exact BK114.out)) : gb114 ≠ gb124)); have n7_ := Aside0.mk ((by rw [hg]; exact Nat.ne_of_gt (blk_lt (g := gb114) (o := .cells #[.int .i64 0, .int .i64 0, .string (⟨#[]⟩ : ByteArray), .slice none 0 0] 56 (0, 0)) (by (with_reducible repeat (first | refine blk_drewN ?_ _ | refine blk_drew ?_ | refine blk_alloc ?_ _)); exact BK114.out)) : gb124 ≠ gb114)); clear HO121; clear BK114; clear HB; have HO121 := n0_; have BK114 := n1_; have HB := n2_; have BK124 := n3_; have GW124 := n4_; have GE124 := n5_; have NB114_124 := n6_; have NB124_114 := n7_; clear n0_ n1_ n2_ n3_ n4_ n5_ n6_ n7_; clear hb hbox hg; have hnb27 := NB124_114.out; have hnc27 := NB114_124.out; have hcz28_0 : w26.cell? ⟨gb124, 0, none⟩ = some (.int .i64 0) := (blk_cell BK124.out 0).trans rfl; have hcz28_1 : w26.cell? ⟨gb124, 1, none⟩ = some (.int .i64 0) := (blk_cell BK124.out 1).trans rfl; have hcz28_2 : w26.cell? ⟨gb124, 2, none⟩ = some (.string (⟨#[]⟩ : ByteArray)) := (blk_cell BK124.out 2).trans rfl; have hcz28_3 : w26.cell? ⟨gb124, 3, none⟩ = some (.slice none 0 0) := (blk_cell BK124.out 3).trans rfl; have hfz28_0 := blk_frozen BK124.out 0; have hfz28_1 := blk_frozen BK124.out 1; have hfz28_2 := blk_frozen BK124.out 2; have hfz28_3 := blk_frozen BK124.out 3; obtain ⟨Ao29, co29, eo29⟩ := Kd.R_slice HO121.out; subst eo29; have hcz30_0 : w26.cell? ⟨gb114, 0, none⟩ = some (.int .i64 0) := (blk_cell BK114.out 0).trans rfl; have hcz30_1 : w26.cell? ⟨gb114, 1, none⟩ = some (.int .i64 0) := (blk_cell BK114.out 1).trans rfl; have hcz30_2 : w26.cell? ⟨gb114, 2, none⟩ = some (.string (⟨#[]⟩ : ByteArray)) := (blk_cell BK114.out 2).trans rfl; have hcz30_3 : w26.cell? ⟨gb114, 3, none⟩ = some (.slice none 0 0) := (blk_cell BK114.out 3).trans rfl; have hfz30_0 := blk_frozen BK114.out 0; have hfz30_1 := blk_frozen BK114.out 1; have hfz30_2 := blk_frozen BK114.out 2; have hfz30_3 := blk_frozen BK114.out 3))
      refine bodyPost_ret (results_ct rfl _ _ gb114 56 #[.int .i64 0, .int .i64 0, .string (⟨#[]⟩ : ByteArray), .slice none 0 0] (0, 0) _ rfl (by (with_reducible repeat (first | refine blk_drewN ?_ _ | refine blk_drew ?_ | refine blk_alloc ?_ _)); refine blk_put (cs := #[.int .i64 0, .int .i64 0, .string (⟨#[]⟩ : ByteArray), .slice none 0 0]) ?_ 3 _ rfl; (with_reducible repeat (first | refine blk_drewN ?_ _ | refine blk_drew ?_ | refine blk_alloc ?_ _)); refine blk_put (cs := #[.int .i64 0, .int .i64 0, .string (⟨#[]⟩ : ByteArray), .slice none 0 0]) ?_ 2 _ rfl; (with_reducible repeat (first | refine blk_drewN ?_ _ | refine blk_drew ?_ | refine blk_alloc ?_ _)); refine blk_put (cs := #[.int .i64 0, .int .i64 0, .string (⟨#[]⟩ : ByteArray), .slice none 0 0]) ?_ 1 _ rfl; (with_reducible repeat (first | refine blk_drewN ?_ _ | refine blk_drew ?_ | refine blk_alloc ?_ _)); refine blk_put (cs := #[.int .i64 0, .int .i64 0, .string (⟨#[]⟩ : ByteArray), .slice none 0 0]) ?_ 0 _ rfl; (with_reducible repeat (first | refine blk_drewN ?_ _ | refine blk_drew ?_ | refine blk_alloc ?_ _)); refine blk_far ?_ NB114_124.out _; (with_reducible repeat (first | refine blk_drewN ?_ _ | refine blk_drew ?_ | refine blk_alloc ?_ _)); refine blk_far ?_ NB114_124.out _; (with_reducible repeat (first | refine blk_drewN ?_ _ | refine blk_drew ?_ | refine blk_alloc ?_ _)); refine blk_far ?_ NB114_124.out _; (with_reducible repeat (first | refine blk_drewN ?_ _ | refine blk_drew ?_ | refine blk_alloc ?_ _)); refine blk_far ?_ NB114_124.out _; (with_reducible repeat (first | refine blk_drewN ?_ _ | refine blk_drew ?_ | refine blk_alloc ?_ _)); exact BK114.out) Tryz.underlying56 rfl (by kernel_rfl)) rfl ?_
      exact ⟨_, by first | rfl | (simp [errW_none, errW_some] <;> rfl) | (simp [*, errW_none, errW_some] <;> rfl) | (simp [q_ne_nil]; done), by first | exact Kd.R_nil _ _ _ _ _ | exact Kd.N_nil _ _ _ _ _ | exact Kd.V_nil _ _ _ _ _ | exact Kd.Q_nil _ _ _ _ _ | exact Kd.S_nil _ _ _ _ _, by repeat (first | (with_reducible first | exact HB.out | apply below_alloc | apply pw_below_drewN | apply below_drew1 | refine below_set ?_ GE114.out | refine below_set ?_ GE124.out) | exact HB.out)⟩
  · rw [if_neg c4] at H
    have c4b0 : (t123 == 0) = false := beq_eq_false_iff_ne.mpr c4
    have c4b1 : (t123 != 0) = true := bne_iff_ne.mpr c4
    simp only [Option.some.injEq, Prod.mk.injEq] at H
    obtain ⟨rfl, rfl, rfl, rfl, rfl⟩ := H
    go_enter Tryz.func30, Tryz.ntmps30
    go_wp2_with (first | ((with_reducible refine gate_dst (N := 2) rfl ?_); (try (refine gate_guard (by rfl) ?_; dsimp only)); refine box_event ?hg (N := 2) ?hd (cs := #[.int .i64 0, .int .i64 0, .string (⟨#[]⟩ : ByteArray), .slice none 0 0]) (t := 56) ?hr ?_; (case hd => rfl); (case hg => rfl); (case hr => first | (go_simp; done) | (go_simp; rfl)); intro gb114 hg w31 hbox hb; have n0_ := Aside0.mk (below_step (by repeat (first | (with_reducible first | exact HB.out | apply below_alloc | apply pw_below_drewN | apply below_drew1) | exact HB.out)) hb); have n1_ := Aside0.mk (hbox); have n2_ := Aside0.mk ((by rw [hg]; exact (below_size (by repeat (first | (with_reducible first | exact HB.out | apply below_alloc | apply pw_below_drewN | apply below_drew1) | exact HB.out))) : w.heap.size ≤ gb114)); have n3_ := Aside0.mk ((by rw [hg]; exact (below_size (by repeat (first | (with_reducible first | exact HB.out | apply below_alloc | apply pw_below_drewN | apply below_drew1) | exact HB.out))) : w.heap.size ≤ gb114)); clear HB; have HB := n0_; have BK114 := n1_; have GW114 := n2_; have GE114 := n3_; clear n0_ n1_ n2_ n3_; clear hb hbox hg) | ((with_reducible refine gate_callee (f := 26) rfl ?_); refine goesL_ (some 9) rfl rfl Tryz.func26 (by kernel_rfl) rfl #[.string a0, .string (⟨#[32]⟩ : ByteArray)] rfl (by (try simp only [List.map_toArray, List.map_cons, List.map_nil]); first | done | rfl | (simp only [List.length_drop, List.length_take]; rfl)) ?_; (with_reducible refine (strings_Trim.calls a0 (⟨#[32]⟩ : ByteArray) t115 _ A2.out).mono ?_); rintro e w32 ⟨rfl, hb⟩; refine ⟨_, rfl, ?_⟩; have n0_ := Aside0.mk (blk_below (g := gb114) (o := .cells #[.int .i64 0, .int .i64 0, .string (⟨#[]⟩ : ByteArray), .slice none 0 0] 56 (0, 0)) (by (with_reducible repeat (first | refine blk_drewN ?_ _ | refine blk_drew ?_ | refine blk_alloc ?_ _)); exact BK114.out) hb); have n1_ := Aside0.mk (below_step (by repeat (first | (with_reducible first | exact HB.out | apply below_alloc | apply pw_below_drewN | apply below_drew1 | refine below_set ?_ GE114.out) | exact HB.out)) hb); clear BK114; clear HB; have BK114 := n0_; have HB := n1_; clear n0_ n1_; (try clear hb); (try clear hb2); (try clear hk); (try clear hi)) | ((with_reducible refine gate_callee (f := 43) rfl ?_); refine goesL_ (some 10) rfl rfl Tryz.func43 (by kernel_rfl) rfl #[.string t115] rfl (by (try simp only [List.map_toArray, List.map_cons, List.map_nil]); first | done | rfl | (simp only [List.length_drop, List.length_take]; rfl)) ?_; (with_reducible refine (sfitem_Next.calls t115 t116 t117 t118 t119 t122 t123 _ A3.out).mono ?_); rintro e w33 ⟨v120, rfl, ho0, hb⟩; refine ⟨_, rfl, ?_⟩; have n0_ := Aside0.mk (Kd.R_lower ho0 (below_size (by repeat (first | (with_reducible first | exact HB.out | apply below_alloc | apply pw_below_drewN | apply below_drew1 | refine below_set ?_ GE114.out) | exact HB.out)))); have n1_ := Aside0.mk (blk_below (g := gb114) (o := .cells #[.int .i64 0, .int .i64 0, .string (⟨#[]⟩ : ByteArray), .slice none 0 0] 56 (0, 0)) (by (with_reducible repeat (first | refine blk_drewN ?_ _ | refine blk_drew ?_ | refine blk_alloc ?_ _)); exact BK114.out) hb); have n2_ := Aside0.mk (below_step (by repeat (first | (with_reducible first | exact HB.out | apply below_alloc | apply pw_below_drewN | apply below_drew1 | refine below_set ?_ GE114.out) | exact HB.out)) hb); clear BK114; clear HB; have HO121 := n0_; have BK114 := n1_; have HB := n2_; clear n0_ n1_ n2_; (try clear hb); (try clear hb2); (try clear hk); (try clear hi); (try clear ho0)) | ((with_reducible refine gate_dst (N := 4) rfl ?_); (try (refine gate_guard (by rfl) ?_; dsimp only)); refine box_event ?hg (N := 4) ?hd (cs := #[.int .i64 0, .int .i64 0, .string (⟨#[]⟩ : ByteArray), .slice none 0 0]) (t := 56) ?hr ?_; (case hd => rfl); (case hg => rfl); (case hr => first | (go_simp; done) | (go_simp; rfl)); intro gb124 hg w34 hbox hb; have n0_ := Aside0.mk (Kd.R_below (by (with_reducible repeat (first | apply Kd.R_alloc | apply Kd.R_drewN | apply Kd.R_drew)); exact HO121.out) hb); have n1_ := Aside0.mk (blk_below (g := gb114) (o := .cells #[.int .i64 0, .int .i64 0, .string (⟨#[]⟩ : ByteArray), .slice none 0 0] 56 (0, 0)) (by (with_reducible repeat (first | refine blk_drewN ?_ _ | refine blk_drew ?_ | refine blk_alloc ?_ _)); exact BK114.out) hb); have n2_ := Aside0.mk (below_step (by repeat (first | (with_reducible first | exact HB.out | apply below_alloc | apply pw_below_drewN | apply below_drew1 | refine below_set ?_ GE114.out) | exact HB.out)) hb); have n3_ := Aside0.mk (hbox); have n4_ := Aside0.mk ((by rw [hg]; exact (below_size (by repeat (first | (with_reducible first | exact HB.out | apply below_alloc | apply pw_below_drewN | apply below_drew1 | refine below_set ?_ GE114.out) | exact HB.out))) : w.heap.size ≤ gb124)); have n5_ := Aside0.mk ((by rw [hg]; exact (below_size (by repeat (first | (with_reducible first | exact HB.out | apply below_alloc | apply pw_below_drewN | apply below_drew1 | refine below_set ?_ GE114.out) | exact HB.out))) : w.heap.size ≤ gb124)); have n6_ := Aside0.mk ((by rw [hg]; exact Nat.ne_of_lt (blk_lt (g := gb114) (o := .cells #[.int .i64 0, .int .i64 0, .string (⟨#[]⟩ : ByteArray), .slice none 0 0] 56 (0, 0)) (by (with_reducible repeat (first | refine blk_drewN ?_ _ | refine blk_drew ?_ | refine blk_alloc ?_ _)); exact BK114.out)) : gb114 ≠ gb124)); have n7_ := Aside0.mk ((by rw [hg]; exact Nat.ne_of_gt (blk_lt (g := gb114) (o := .cells #[.int .i64 0, .int .i64 0, .string (⟨#[]⟩ : ByteArray), .slice none 0 0] 56 (0, 0)) (by (with_reducible repeat (first | refine blk_drewN ?_ _ | refine blk_drew ?_ | refine blk_alloc ?_ _)); exact BK114.out)) : gb124 ≠ gb114)); clear HO121; clear BK114; clear HB; have HO121 := n0_; have BK114 := n1_; have HB := n2_; have BK124 := n3_; have GW124 := n4_; have GE124 := n5_; have NB114_124 := n6_; have NB124_114 := n7_; clear n0_ n1_ n2_ n3_ n4_ n5_ n6_ n7_; clear hb hbox hg; have hnb35 := NB124_114.out; have hnc35 := NB114_124.out; have hcz36_0 : w34.cell? ⟨gb124, 0, none⟩ = some (.int .i64 0) := (blk_cell BK124.out 0).trans rfl; have hcz36_1 : w34.cell? ⟨gb124, 1, none⟩ = some (.int .i64 0) := (blk_cell BK124.out 1).trans rfl; have hcz36_2 : w34.cell? ⟨gb124, 2, none⟩ = some (.string (⟨#[]⟩ : ByteArray)) := (blk_cell BK124.out 2).trans rfl; have hcz36_3 : w34.cell? ⟨gb124, 3, none⟩ = some (.slice none 0 0) := (blk_cell BK124.out 3).trans rfl; have hfz36_0 := blk_frozen BK124.out 0; have hfz36_1 := blk_frozen BK124.out 1; have hfz36_2 := blk_frozen BK124.out 2; have hfz36_3 := blk_frozen BK124.out 3; obtain ⟨Ao37, co37, eo37⟩ := Kd.R_slice HO121.out; subst eo37; have hcz38_0 : w34.cell? ⟨gb114, 0, none⟩ = some (.int .i64 0) := (blk_cell BK114.out 0).trans rfl; have hcz38_1 : w34.cell? ⟨gb114, 1, none⟩ = some (.int .i64 0) := (blk_cell BK114.out 1).trans rfl; have hcz38_2 : w34.cell? ⟨gb114, 2, none⟩ = some (.string (⟨#[]⟩ : ByteArray)) := (blk_cell BK114.out 2).trans rfl; have hcz38_3 : w34.cell? ⟨gb114, 3, none⟩ = some (.slice none 0 0) := (blk_cell BK114.out 3).trans rfl; have hfz38_0 := blk_frozen BK114.out 0; have hfz38_1 := blk_frozen BK114.out 1; have hfz38_2 := blk_frozen BK114.out 2; have hfz38_3 := blk_frozen BK114.out 3))
    refine bodyPost_ret (results_ct rfl _ _ gb114 56 #[.int .i64 0, .int .i64 0, .string (⟨#[]⟩ : ByteArray), .slice none 0 0] (0, 0) _ rfl (by (with_reducible repeat (first | refine blk_drewN ?_ _ | refine blk_drew ?_ | refine blk_alloc ?_ _)); refine blk_put (cs := #[.int .i64 0, .int .i64 0, .string (⟨#[]⟩ : ByteArray), .slice none 0 0]) ?_ 3 _ rfl; (with_reducible repeat (first | refine blk_drewN ?_ _ | refine blk_drew ?_ | refine blk_alloc ?_ _)); refine blk_put (cs := #[.int .i64 0, .int .i64 0, .string (⟨#[]⟩ : ByteArray), .slice none 0 0]) ?_ 2 _ rfl; (with_reducible repeat (first | refine blk_drewN ?_ _ | refine blk_drew ?_ | refine blk_alloc ?_ _)); refine blk_put (cs := #[.int .i64 0, .int .i64 0, .string (⟨#[]⟩ : ByteArray), .slice none 0 0]) ?_ 1 _ rfl; (with_reducible repeat (first | refine blk_drewN ?_ _ | refine blk_drew ?_ | refine blk_alloc ?_ _)); refine blk_put (cs := #[.int .i64 0, .int .i64 0, .string (⟨#[]⟩ : ByteArray), .slice none 0 0]) ?_ 0 _ rfl; (with_reducible repeat (first | refine blk_drewN ?_ _ | refine blk_drew ?_ | refine blk_alloc ?_ _)); refine blk_far ?_ NB114_124.out _; (with_reducible repeat (first | refine blk_drewN ?_ _ | refine blk_drew ?_ | refine blk_alloc ?_ _)); refine blk_far ?_ NB114_124.out _; (with_reducible repeat (first | refine blk_drewN ?_ _ | refine blk_drew ?_ | refine blk_alloc ?_ _)); refine blk_far ?_ NB114_124.out _; (with_reducible repeat (first | refine blk_drewN ?_ _ | refine blk_drew ?_ | refine blk_alloc ?_ _)); refine blk_far ?_ NB114_124.out _; (with_reducible repeat (first | refine blk_drewN ?_ _ | refine blk_drew ?_ | refine blk_alloc ?_ _)); exact BK114.out) Tryz.underlying56 rfl (by kernel_rfl)) rfl ?_
    exact ⟨_, by first | rfl | (simp [errW_none, errW_some] <;> rfl) | (simp [*, errW_none, errW_some] <;> rfl) | (simp [q_ne_nil]; done), by first | exact Kd.R_nil _ _ _ _ _ | exact Kd.N_nil _ _ _ _ _ | exact Kd.V_nil _ _ _ _ _ | exact Kd.Q_nil _ _ _ _ _ | exact Kd.S_nil _ _ _ _ _, by repeat (first | (with_reducible first | exact HB.out | apply below_alloc | apply pw_below_drewN | apply below_drew1 | refine below_set ?_ GE114.out | refine below_set ?_ GE124.out) | exact HB.out)⟩
end Go.Proofs.YtciigmlibnpeeaaGreatDoor.Q
namespace Go.Proofs.YtciigmlibnpeeaaGreatDoor.Q
open Go.RowKit Go.Proofs.YtciigmlibnpeeaaGreatDoorW.PrintWords Go.Proofs.YtciigmlibnpeeaaGreatDoorW.PrintLast Go.Proofs.YtciigmlibnpeeaaGreatDoorW.PrintMore
set_option linter.unusedVariables false
set_option linter.unusedSimpArgs false
attribute [local go_sem high] eqA28 eqA30
open Go.Proofs.YtciigmlibnpeeaaGreatDoor.Sf
def reportTo : ByteArray := ⟨#[114, 101, 112, 111, 114, 116, 45, 116, 111]⟩
theorem rt_list : reportTo.toList = ([114, 101, 112, 111, 114, 116, 45, 116, 111] : List UInt8) := by rw [Lib.toList_data]; rfl
def toF : List S61 → ByteArray
  | [] => ⟨#[]⟩
  | p :: l => if p.f0 = reportTo ∧ p.f1 = 3 then p.f3 else toF l
def readF (l0 : List S35) (name : ByteArray) : Option (ByteArray × ByteArray) := (headers_Combined.f l0 name).bind fun t => (sfitem_Parse.f t.1).bind fun x => if t.2 = true ∧ x.2.2.2.2 = 0 ∧ x.1 = 4 then (if x.2.2.2.1.length ≤ 140737488355327 then some (x.2.2.1, toF x.2.2.2.1) else none) else some (⟨#[]⟩, ⟨#[]⟩)
/-- The block that reader's closure holds. -/
def CoB (W : World) (b : Nat) (v : Value) : Prop := W.heap[b]? = some (.cells #[v] 22 (0, 0))
theorem CoB.cell {W : World} {b : Nat} {v : Value} (h : CoB W b v) : W.cell? ⟨b, 0, none⟩ = some v := (blk_cell h 0).trans rfl
theorem CoB_new (W : World) (v : Value) : CoB (W.alloc (.cells #[v] 22)) W.heap.size v := by
  have := blk_new W (.cells #[v] 22); simpa [CoB] using this
theorem str_is (s t : ByteArray) : (s.toList == t.toList) = decide (s = t) := by
  by_cases h : s = t
  · subst h; simp
  · have : ¬ s.toList = t.toList := fun e => h (by
      rw [Lib.toList_data, Lib.toList_data] at e
      exact ByteArray.ext (Array.toList_inj.1 e))
    rw [decide_eq_false h]; exact beq_eq_false_iff_ne.mpr this
theorem PB_newp (W : World) (k : ByteArray) (n i : Int) (t : ByteArray) : PB (W.alloc (.cells #[.string k, .int .i64 n, .int .i64 i, .string t] 61)) W.heap.size k n i t := by
  have := blk_new W (.cells #[.string k, .int .i64 n, .int .i64 i, .string t] 61); simpa [PB] using this
theorem IB_new (W : World) (n i : Int) (t : ByteArray) (v : Value) : IB (W.alloc (.cells #[.int .i64 n, .int .i64 i, .string t, v] 56)) W.heap.size n i t v := by
  have := blk_new W (.cells #[.int .i64 n, .int .i64 i, .string t, v] 56); simpa [IB] using this
set_option maxHeartbeats 8000000 in
set_option maxRecDepth 100000 in
theorem read_calls (b : Nat) (A0 : Option Addr) (c0 : Nat) (l0 : List S35) (name t dst : ByteArray) (w : World) (hb : CoB w b (.slice A0 l0.length c0)) (hr0 : Kd.C k35 w A0 l0.length l0) (hc0 : l0.length ≤ c0) (h : readF l0 name = some (t, dst)) :
    Calls Tryz.prog 28 #[.string name, .pointer (some ⟨b, 0, none⟩)] w fun e w' => e = .returned (.tuple #[.string t, .string dst]) ∧ Below w.heap.size w w' := by
  unfold readF at h
  obtain ⟨⟨v, is⟩, hC, h⟩ := Option.bind_eq_some_iff.mp h
  obtain ⟨⟨kd, iv, tx, ps, e⟩, hP, h⟩ := Option.bind_eq_some_iff.mp h
  simp only [] at h hP
  have hc := hb.cell
  have HC := Aside0.mk (headers_Combined.calls A0 c0 l0 name v is w hr0 hc0 hC)
  have HP := Aside0.mk (fun W => sfitem_Parse.calls v kd iv tx ps e W hP)
  have HH := Aside0.mk h
  clear hb hr0 hc0 hC hP h
  go_enter Tryz.func28, Tryz.ntmps28
  go_upto_region 3 with (first | (go_at_call 30; refine (HP.out _).mono ?_; rintro e w2 ⟨v4, rfl, hR2, hB2⟩; obtain ⟨A2, c2, hv2⟩ := Kd.R_slice hR2; subst hv2) | (go_at_call 29; refine HC.out.mono ?_; rintro e w1 ⟨rfl, hB1⟩))
  have hI := IB_new w2 kd iv tx (.slice A2 ps.length c2)
  have HB := Aside0.mk (below_alloc (below_then hB1 hB1.size hB2) (.cells #[.int .i64 kd, .int .i64 iv, .string tx, .slice A2 ps.length c2] 56))
  have HR := Aside0.mk (Kd.R_alloc (Kd.R_lower hR2 (Nat.le_trans hB1.size (Nat.le_refl _))) (.cells #[.int .i64 kd, .int .i64 iv, .string tx, .slice A2 ps.length c2] 56))
  clear hR2 hB2 hB1 HC HP hc
  generalize w2.alloc (.cells #[.int .i64 kd, .int .i64 iv, .string tx, .slice A2 ps.length c2] 56) = w3 at *
  generalize w2.heap.size = ib at *
  have k0 := hI.c0
  have k2 := hI.c2
  have k3 := hI.c3
  cases is with
  | false =>
    have hH := HH.out
    rw [if_neg (by simp)] at hH
    obtain ⟨rfl, rfl⟩ := Prod.mk.inj (Option.some.inj hH)
    clear hH HH
    go_wp2
    go_ret2
    exact ⟨rfl, HB.out⟩
  | true =>
    by_cases he : e = 0
    · have he1 : (e != 0) = false := by simp [he]
      by_cases hk : kd = 4
      · have hk1 : (kd != 4) = false := by simp [hk]
        have hH := HH.out
        rw [if_pos ⟨rfl, he, hk⟩] at hH
        by_cases hz : ps.length ≤ 140737488355327
        · rw [if_pos hz] at hH
          obtain ⟨rfl, hQ⟩ := Prod.mk.inj (Option.some.inj hH)
          clear HH hH
          have HT := Aside0.mk hQ
          clear hQ he hk
          go_upto_region 6 with (fail)
          have hCp := (Kd.R_reads' HR.out).2.2
          have HC := Aside0.mk hCp
          have HI := Aside0.mk hI
          clear hCp HR k0 k2 k3 hI
          go_loopw [10, 36] (fun v10 v36 wr => ∃ n : Nat, n ≤ ps.length ∧ v36 = .int .i64 n ∧ Aside0 (toF (ps.drop n) = dst) ∧ Aside0 (Below w3.heap.size w3 wr)) (fun _ v36 _ => ps.length - (intOf v36).toNat)
          case atStart => exact ⟨0, Nat.zero_le _, rfl, HT, ⟨Below.refl _ _⟩⟩
          case round =>
            clear HT
            obtain ⟨n, hn, rfl, HT, HW⟩ := hrel
            have hIr : IB wr ib kd iv tx (.slice A2 ps.length c2) := blk_below HI.out HW.out
            have HIr := Aside0.mk hIr
            have k2 := hIr.c2
            clear hIr
            by_cases hlt : n < ps.length
            · have hltd : decide ((n : Int) < (ps.length : Int)) = true := decide_eq_true (by omega)
              obtain ⟨ad, hA, h0, h1, h2, h3⟩ := at_T61 (Kd.C_below HC.out HW.out) (n : Int) (by omega) (by omega)
              subst hA
              simp only [Int.toNat_natCast] at h0 h1 h2 h3
              have p1 : (0 ≤ (n : Int)) = True := eq_true (by omega)
              have p2 : ((n : Int) < (ps.length : Int)) = True := eq_true (by omega)
              have hH := HT.out
              rw [List.drop_eq_getElem_cons hlt, toF] at hH
              rw [← rd_get ps n hlt] at hH
              generalize rd_T61 ps n = p at *
              have HP := Aside0.mk (PB_newp wr p.f0 p.f1 p.f2 p.f3)
              have HW2 := Aside0.mk (below_alloc HW.out (.cells #[.string p.f0, .int .i64 p.f1, .int .i64 p.f2, .string p.f3] 61))
              have HI2 := Aside0.mk (blk_alloc HIr.out (.cells #[.string p.f0, .int .i64 p.f1, .int .i64 p.f2, .string p.f3] 61))
              have HH := Aside0.mk hH
              clear hH k2
              go_upto_region 8 with (fail)
              clear h0 h1 h2 h3 HW HIr
              generalize wr.alloc (.cells #[.string p.f0, .int .i64 p.f1, .int .i64 p.f2, .string p.f3] 61) = w4 at *
              generalize wr.heap.size = pb at *
              have hP := HP.out
              have j0 := hP.c0
              have j1 := hP.c1
              clear hP
              by_cases e1 : p.f0 = reportTo
              · have b1 : (p.f0.toList == ([114, 101, 112, 111, 114, 116, 45, 116, 111] : List UInt8)) = true := by rw [e1, rt_list]; rfl
                have b1c : p.f0.toList = ([114, 101, 112, 111, 114, 116, 45, 116, 111] : List UInt8) := by rw [e1, rt_list]
                by_cases e2 : p.f1 = 3
                · have b2 : (p.f1 == 3) = true := by simp [e2]
                  have hH := HH.out
                  rw [if_pos ⟨e1, e2⟩] at hH
                  subst hH
                  clear e1 e2 HH
                  go_upto_region 9 with (fail)
                  have K := Aside0.mk (fun W (hb : Below w4.heap.size w4 W) => And.intro (show IB W ib kd iv tx (.slice (some ad) ps.length c2) from blk_below HI2.out hb).c2 (And.intro (show PB W pb p.f0 p.f1 p.f2 p.f3 from blk_below HP.out hb).c3 hb))
                  go_region_held3 (fun w' => w'.cell? ⟨ib, 2, none⟩ = some (.string tx) ∧ w'.cell? ⟨pb, 3, none⟩ = some (.string p.f3) ∧ Below w4.heap.size w4 w') (first | exact K.out _ (below_drew (Below.refl _ _)) | exact K.out _ (Below.refl _ _) | exact K.out _ (by assumption)) (first | fail)
                  go_wp2
                  go_ret2
                  exact ⟨rfl, below_drew1 (below_then HB.out HB.out.size HW2.out)⟩
                · have b2 : (p.f1 == 3) = false := by simp [e2]
                  have hH := HH.out
                  rw [if_neg (fun h => e2 h.2)] at hH
                  have HH2 := Aside0.mk hH
                  clear hH HH e1
                  go_wp2
                  go_roundw
                  case rel => exact ⟨n + 1, by omega, by go_num, HH2, HW2⟩
                  case measure => simp [intOf]; omega
              · have b1 : (p.f0.toList == ([114, 101, 112, 111, 114, 116, 45, 116, 111] : List UInt8)) = false := by rw [← rt_list]; exact (str_is p.f0 reportTo).trans (decide_eq_false e1)
                have hH := HH.out
                rw [if_neg (fun h => e1 h.1)] at hH
                have HH2 := Aside0.mk hH
                clear hH HH
                go_wp2
                go_roundw
                case rel => exact ⟨n + 1, by omega, by go_num, HH2, HW2⟩
                case measure => simp [intOf]; omega
            · obtain rfl : n = ps.length := by omega
              have hltd : decide ((ps.length : Int) < (ps.length : Int)) = false := decide_eq_false (by omega)
              have hH := HT.out
              rw [List.drop_length, toF] at hH
              subst hH
              go_wp2
              go_ret2
              exact ⟨rfl, below_then HB.out HB.out.size HW.out⟩
        · rw [if_neg hz] at hH; cases hH
      · have hk1 : (kd != 4) = true := by simp [hk]
        have hH := HH.out
        rw [if_neg (fun h => hk h.2.2)] at hH
        obtain ⟨rfl, rfl⟩ := Prod.mk.inj (Option.some.inj hH)
        clear hH HH
        go_wp2
        go_ret2
        exact ⟨rfl, HB.out⟩
    · have he1 : (e != 0) = true := by simp [he]
      have hH := HH.out
      rw [if_neg (fun h => he h.2.1)] at hH
      obtain ⟨rfl, rfl⟩ := Prod.mk.inj (Option.some.inj hH)
      clear hH HH
      go_wp2
      go_ret2
      exact ⟨rfl, HB.out⟩
theorem reader_calls (A0 : Option Addr) (n c0 : Nat) (w : World) :
    Calls Tryz.prog 20 #[.slice A0 n c0] w fun e w' => e = .returned (.func (.func 28) #[] #[.pointer (some ⟨w.heap.size, 0, none⟩)]) ∧ w' = w.alloc (.cells #[.slice A0 n c0] 22) := by
  have hmf : ∀ (fn : Fn) (first cap : Array Value) (w : World), (Instr.makeFunc fn first cap).run Tryz.prog w = .ok (.func fn first cap) w := fun _ _ _ _ => rfl
  go_enter Tryz.func20, Tryz.ntmps20
  go_wp2
  go_ret
  exact ⟨rfl, rfl⟩
/-- A text as a map's key. -/
def keyC (s : ByteArray) : Lit := .string s.data.toList
theorem keyC_inj {s t : ByteArray} (h : keyC s = keyC t) : s = t := by
  unfold keyC at h
  injection h with h
  exact ByteArray.ext (Array.toList_inj.1 h)
theorem keyC_is (s : ByteArray) : WideAt.IsKeyLit (keyC s) := trivial
theorem insert_ownC {H : Type} {P : Program} (w : World) {ops : Array Oper} {rest : List Oper} {o : Oper} {a : Act} {Q : Exit → Act → World → Prop}
    (hg : o.guard = none) (m x v : Operand) (t : TypeId) (hop : o.op = Op.insert t m x v)
    (k e : TypeId) (K : Go.Maps.Keyed P k) (ht : P.underlying t = some (.map k e)) (R : Value → Option (DataW H × List MemPlace)) (b n : Nat) (D : DataW H)
    (hm : a.eval m = .map (some b)) (hown : w.ownsMap P k R b n D) (hn : n < maxLen) (key val : Value) (kl : Lit) (hx : a.eval x = key) (hv : a.eval v = val) (hkey : keyOf P k key = some kl)
    (d : DataW H) (ps : List MemPlace) (hval : R val = some (d, ps))
    (hK : ∀ w', w'.ownsMap P k R b (n + 1) (D.put kl d) → w.grownBy w' (some b) → wpList P ops Q rest (a.put o.dst undef) w') :
    wpList P ops Q (o :: rest) a w := by
  refine wpList_plain hg fun K' hK' => ?_
  obtain ⟨w', hrun, r1, r2⟩ := hown.update K ht hn hkey hval
  unfold Oper.wp
  simp [execOp, hop, hm, hx, hv, hrun, Result.andThen]
  exact hK' _ _ (hK w' r1 r2)
theorem below_grownC {B b : Nat} {w W W' : World} (h : Below B w W) (hg : W.grownBy W' (some b)) (hB : B ≤ b) (hs : B ≤ W.heap.size) : Below B w W' :=
  ⟨hg.os.trans h.os, hg.tape.trans h.tape, hg.output.trans h.output, Nat.le_trans h.size hg.size, fun k hk => (hg.block k (by omega) (by intro e; cases e; omega)).trans (h.block k hk)⟩
def litC (c : Int) : DataW Unit := .lit (.int .i64 c)
/-- A text looked up in a map that is held. -/
theorem look_C {W : World} {b n : Nat} {D : DataW Unit} (hown : W.ownsMap Tryz.prog 9 (plainElem Tryz.prog 3) b n D) (s : ByteArray) (hs : s.size ≤ 281474976710656) (v : Int) (hv : D.atKey (keyC s) (litC 0) = litC v) :
    (Instr.lookup 41 (.map (some b)) (.string s) false).run Tryz.prog W = .ok (.int .i64 v) W := by
  have kd : keyOf Tryz.prog 9 (.string s) = some (keyC s) := WideMaps.keyOf_string_mk Tryz.underlying9 (by unfold maxLen; omega)
  have zE : (zeroValue 3).run Tryz.prog W = .ok (.int .i64 0) W := by kernel_rfl
  obtain ⟨c2, hrun2, hc2, _⟩ := hown.lookup_int (Go.Maps.string_keyed Tryz.underlying9) Tryz.underlying41 Tryz.underlying3 zE kd
  have e2 : v = c2 := by
    have : litC v = litC c2 := hv.symm.trans hc2
    unfold litC at this
    simpa using this
  rw [e2]; exact hrun2
def wordsM (k1 k2 : ByteArray) : DataW Unit := ((DataW.map []).put (keyC k1) (litC 2)).put (keyC k2) (litC 1)
def twoOf (k1 k2 v : ByteArray) : Int := if v = k2 then 1 else if v = k1 then 2 else 0
theorem two_at (k1 k2 v : ByteArray) : (wordsM k1 k2).atKey (keyC v) (litC 0) = litC (twoOf k1 k2 v) := by
  unfold wordsM twoOf
  by_cases h2 : v = k2
  · subst h2
    rw [if_pos rfl]
    exact Go.Maps.atKey_put_same (Go.Maps.IsMap.put ⟨[], rfl⟩ _ _) (keyC_is _) _ _
  rw [if_neg h2, Go.Maps.atKey_put_other (fun e => h2 (keyC_inj e))]
  by_cases h1 : v = k1
  · subst h1
    rw [if_pos rfl]
    exact Go.Maps.atKey_put_same ⟨[], rfl⟩ (keyC_is _) _ _
  rw [if_neg h1, Go.Maps.atKey_put_other (fun e => h1 (keyC_inj e))]
  rfl
def nCoep : ByteArray := ⟨#[99, 114, 111, 115, 115, 45, 111, 114, 105, 103, 105, 110, 45, 101, 109, 98, 101, 100, 100, 101, 114, 45, 112, 111, 108, 105, 99, 121]⟩
def nCoepR : ByteArray := ⟨#[99, 114, 111, 115, 115, 45, 111, 114, 105, 103, 105, 110, 45, 101, 109, 98, 101, 100, 100, 101, 114, 45, 112, 111, 108, 105, 99, 121, 45, 114, 101, 112, 111, 114, 116, 45, 111, 110, 108, 121]⟩
def kReq : ByteArray := ⟨#[114, 101, 113, 117, 105, 114, 101, 45, 99, 111, 114, 112]⟩
def kCred : ByteArray := ⟨#[99, 114, 101, 100, 101, 110, 116, 105, 97, 108, 108, 101, 115, 115]⟩
def coop_Coep.f (l0 : List S35) (s : Bool) : Option (Int × ByteArray × Int × ByteArray) :=
  if s = true then (readF l0 nCoep).bind fun p => (readF l0 nCoepR).bind fun q => if p.1.size ≤ 281474976710656 ∧ q.1.size ≤ 281474976710656 then some (twoOf kReq kCred p.1, p.2, twoOf kReq kCred q.1, q.2) else none
  else some (0, ⟨#[]⟩, 0, ⟨#[]⟩)
/-- The block of an embedder's policy. -/
def EmB (W : World) (b : Nat) (m1 : Int) (s1 : ByteArray) (m2 : Int) (s2 : ByteArray) : Prop := W.heap[b]? = some (.cells #[.int .i64 m1, .string s1, .int .i64 m2, .string s2] 30 (0, 0))
theorem EmB.new (W : World) : EmB (W.alloc (.cells #[.int .i64 0, .string ⟨#[]⟩, .int .i64 0, .string ⟨#[]⟩] 30)) W.heap.size 0 ⟨#[]⟩ 0 ⟨#[]⟩ := by
  have := blk_new W (.cells #[.int .i64 0, .string ⟨#[]⟩, .int .i64 0, .string ⟨#[]⟩] 30); simpa [EmB] using this
theorem EmB.c0 {W : World} {b : Nat} {m1 m2 : Int} {s1 s2 : ByteArray} (h : EmB W b m1 s1 m2 s2) : W.cell? ⟨b, 0, none⟩ = some (.int .i64 m1) := (blk_cell h 0).trans rfl
theorem EmB.c1 {W : World} {b : Nat} {m1 m2 : Int} {s1 s2 : ByteArray} (h : EmB W b m1 s1 m2 s2) : W.cell? ⟨b, 1, none⟩ = some (.string s1) := (blk_cell h 1).trans rfl
theorem EmB.c2 {W : World} {b : Nat} {m1 m2 : Int} {s1 s2 : ByteArray} (h : EmB W b m1 s1 m2 s2) : W.cell? ⟨b, 2, none⟩ = some (.int .i64 m2) := (blk_cell h 2).trans rfl
theorem EmB.c3 {W : World} {b : Nat} {m1 m2 : Int} {s1 s2 : ByteArray} (h : EmB W b m1 s1 m2 s2) : W.cell? ⟨b, 3, none⟩ = some (.string s2) := (blk_cell h 3).trans rfl
theorem EmB.lo {W : World} {b : Nat} {m1 m2 : Int} {s1 s2 : ByteArray} (h : EmB W b m1 s1 m2 s2) (m : Int) (s : ByteArray) : EmB ((W.setCell ⟨b, 0, none⟩ (.int .i64 m)).setCell ⟨b, 1, none⟩ (.string s)) b m s m2 s2 := by
  have := blk_set (blk_set h 0 (.int .i64 m)) 1 (.string s); simpa [EmB] using this
theorem EmB.hi {W : World} {b : Nat} {m1 m2 : Int} {s1 s2 : ByteArray} (h : EmB W b m1 s1 m2 s2) (m : Int) (s : ByteArray) : EmB ((W.setCell ⟨b, 2, none⟩ (.int .i64 m)).setCell ⟨b, 3, none⟩ (.string s)) b m1 s1 m s := by
  have := blk_set (blk_set h 2 (.int .i64 m)) 3 (.string s); simpa [EmB] using this
theorem EmB.same {W : World} {b : Nat} {m1 m2 : Int} {s1 s2 : ByteArray} (h : EmB W b m1 s1 m2 s2) : EmB ((((W.setCell ⟨b, 0, none⟩ (.int .i64 m1)).setCell ⟨b, 1, none⟩ (.string s1)).setCell ⟨b, 2, none⟩ (.int .i64 m2)).setCell ⟨b, 3, none⟩ (.string s2)) b m1 s1 m2 s2 := (h.lo m1 s1).hi m2 s2
set_option maxHeartbeats 8000000 in
set_option maxRecDepth 100000 in
theorem coop_Coep.calls (A0 : Option Addr) (c0 : Nat) (l0 : List S35) (sec : Bool) (r1 : Int) (r2 : ByteArray) (r3 : Int) (r4 : ByteArray) (w : World) (hr0 : Kd.C k35 w A0 l0.length l0) (hc0 : l0.length ≤ c0) (h : coop_Coep.f l0 sec = some (r1, r2, r3, r4)) :
    Calls Tryz.prog 12 #[.slice A0 l0.length c0, .bool sec] w fun e w' => e = .returned (.agg #[.int .i64 r1, .string r2, .int .i64 r3, .string r4]) ∧ Below w.heap.size w w' := by
  unfold coop_Coep.f at h
  have hE0 := EmB.new w
  have hB0 := below_alloc (Below.refl w.heap.size w) (.cells #[.int .i64 0, .string ⟨#[]⟩, .int .i64 0, .string ⟨#[]⟩] 30)
  have HC := Aside0.mk hr0
  clear hr0
  cases sec with
  | false =>
    rw [if_neg (by decide)] at h
    simp only [Option.some.injEq, Prod.mk.injEq] at h
    obtain ⟨rfl, rfl, rfl, rfl⟩ := h
    go_enter Tryz.func12, Tryz.ntmps12
    go_upto_region 1 with (fail)
    generalize w.alloc (.cells #[.int .i64 0, .string ⟨#[]⟩, .int .i64 0, .string ⟨#[]⟩] 30) = w1 at *
    have k0 := hE0.c0
    have k1 := hE0.c1
    have k2 := hE0.c2
    have k3 := hE0.c3
    have f0 := blk_frozen hE0 0
    have f1 := blk_frozen hE0 1
    have f2 := blk_frozen hE0 2
    have f3 := blk_frozen hE0 3
    have hE2 := hE0.same
    have hB2 := (((hB0.setCell (p := ⟨w.heap.size, 0, none⟩) (Nat.le_refl _) (.int .i64 0)).setCell (p := ⟨w.heap.size, 1, none⟩) (Nat.le_refl _) (.string ⟨#[]⟩)).setCell (p := ⟨w.heap.size, 2, none⟩) (Nat.le_refl _) (.int .i64 0)).setCell (p := ⟨w.heap.size, 3, none⟩) (Nat.le_refl _) (.string ⟨#[]⟩)
    go_wp2
    generalize (((w1.setCell ⟨w.heap.size, 0, none⟩ (.int .i64 0)).setCell ⟨w.heap.size, 1, none⟩ (.string ⟨#[]⟩)).setCell ⟨w.heap.size, 2, none⟩ (.int .i64 0)).setCell ⟨w.heap.size, 3, none⟩ (.string ⟨#[]⟩) = w9 at *
    have n0 := hE2.c0
    have n1 := hE2.c1
    have n2 := hE2.c2
    have n3 := hE2.c3
    exact bodyPost_ret (v := .agg #[.int .i64 0, .string ⟨#[]⟩, .int .i64 0, .string ⟨#[]⟩]) (by simp [results, Tryz.results12, go_sem, n0, n1, n2, n3]) rfl ⟨rfl, hB2⟩
  | true =>
    rw [if_pos rfl] at h
    go_enter Tryz.func12, Tryz.ntmps12
    obtain ⟨⟨p1, p2⟩, hp, h⟩ := Option.bind_eq_some_iff.mp h
    obtain ⟨⟨q1, q2⟩, hq, h⟩ := Option.bind_eq_some_iff.mp h
    simp only [] at h
    by_cases hz : p1.size ≤ 281474976710656 ∧ q1.size ≤ 281474976710656
    case neg => rw [if_neg hz] at h; cases h
    rw [if_pos hz] at h
    obtain ⟨hz1, hz2⟩ := hz
    simp only [Option.some.injEq, Prod.mk.injEq] at h
    obtain ⟨e1, rfl, e3, rfl⟩ := h
    have t1 := (two_at kReq kCred p1).trans (by rw [e1])
    have t2 := (two_at kReq kCred q1).trans (by rw [e3])
    clear e1 e3
    have hg := enters_of Tryz.func28 (by kernel_rfl) rfl
    have hmm := @run_makeMap Tryz.prog
    have kd : ∀ s : ByteArray, s.size ≤ 281474976710656 → keyOf Tryz.prog 9 (.string s) = some (keyC s) := fun s hs => WideMaps.keyOf_string_mk Tryz.underlying9 (by unfold maxLen; omega)
    have T1 := Aside0.mk t1
    have T2 := Aside0.mk t2
    have HP := Aside0.mk hp
    have HQ := Aside0.mk hq
    clear t1 t2 hp hq
    go_upto_region 3 with (fail)
    generalize w.alloc (.cells #[.int .i64 0, .string ⟨#[]⟩, .int .i64 0, .string ⟨#[]⟩] 30) = w1 at *
    have hlt : w.heap.size < w1.heap.size := by
      obtain ⟨hh, -⟩ := Array.getElem?_eq_some_iff.mp hE0
      exact hh
    have hown := World.ownsMap_made (H := Unit) w1 Tryz.prog 9 (plainElem Tryz.prog 3)
    have hE := Aside0.mk (blk_alloc hE0 (.map #[] 0))
    have hB := below_alloc hB0 (.map #[] 0)
    go_upto_region 4 with (first | (refine insert_ownC _ rfl _ _ _ 41 rfl 9 3 (Go.Maps.string_keyed Tryz.underlying9) Tryz.underlying41 _ _ _ _ rfl hown (by unfold maxLen; omega) _ _ _ rfl rfl (kd _ (by decide)) _ [] (plainElem_int Tryz.underlying3 (by decide)) ?_; intro w2 hown2 hgrow2; replace hB := below_grownC hB hgrow2 (Nat.le_of_lt hlt) hB.size; replace hE := Aside0.mk (blk_grown hE.out hgrow2 (by simp only [ne_eq, Option.some.injEq]; omega)); replace hown := hown2; clear hown2 hgrow2))
    clear hE0 hB0 hmm kd
    have HO := Aside0.mk hown
    have HB2 := Aside0.mk hB
    clear hB
    go_upto_region 5 with (first | (go_at_call 20; refine (reader_calls A0 l0.length c0 w2).mono ?_; rintro e _ ⟨rfl, rfl⟩))
    have hb := CoB_new w2 (.slice A0 l0.length c0)
    have hown := HO.out.alloc (.cells #[.slice A0 l0.length c0] 22)
    have hE3 := blk_alloc hE.out (.cells #[.slice A0 l0.length c0] 22)
    have hB3 := below_alloc HB2.out (.cells #[.slice A0 l0.length c0] 22)
    have hlt3 : w1.heap.size < w2.heap.size := HO.out.lt
    clear HO hE HB2
    generalize w2.alloc (.cells #[.slice A0 l0.length c0] 22) = w3 at *
    generalize w2.heap.size = bb at *
    generalize w1.heap.size = mb at *
    clear h
    have HBb := Aside0.mk hb
    have HO := Aside0.mk hown
    have HE := Aside0.mk hE3
    have HW := Aside0.mk hB3
    clear hb hown hE3 hB3
    go_upto_region 6 with (first | (go_at_call 28; refine (read_calls bb A0 c0 l0 nCoep p1 p2 w3 HBb.out (Kd.C_below HC.out HW.out) hc0 HP.out).mono ?_; rintro e w4 ⟨rfl, hB4⟩))
    have HBb4 := Aside0.mk (show CoB w4 bb (.slice A0 l0.length c0) from blk_below HBb.out hB4)
    have hown4 := HO.out.kept (grown_of_below hB4 none) (by simp)
    have hE4 : EmB w4 w.heap.size 0 ⟨#[]⟩ 0 ⟨#[]⟩ := blk_below HE.out hB4
    have HW4 := Aside0.mk (below_then HW.out HW.out.size hB4)
    clear HBb HO HE HW hB4
    have hl1 := look_C hown4 p1 hz1 r1 T1.out
    have f0 := blk_frozen hE4 0
    have f1 := blk_frozen hE4 1
    have k0 := hE4.c0
    have k1 := hE4.c1
    have HO4 := Aside0.mk hown4
    have HE4 := Aside0.mk hE4
    clear hown4 hE4
    go_upto_region 7 with (fail)
    have HO5 := Aside0.mk ((HO4.out.setCell (a := ⟨w.heap.size, 0, none⟩) (by show mb ≠ w.heap.size; omega) (.int .i64 r1)).setCell (a := ⟨w.heap.size, 1, none⟩) (by show mb ≠ w.heap.size; omega) (.string p2))
    have HE5 := Aside0.mk (HE4.out.lo r1 p2)
    have HB5 := Aside0.mk (show CoB ((w4.setCell ⟨w.heap.size, 0, none⟩ (.int .i64 r1)).setCell ⟨w.heap.size, 1, none⟩ (.string p2)) bb (.slice A0 l0.length c0) from blk_far (blk_far HBb4.out (by show bb ≠ w.heap.size; omega) _) (by show bb ≠ w.heap.size; omega) _)
    have HW5 := Aside0.mk ((HW4.out.setCell (p := ⟨w.heap.size, 0, none⟩) (Nat.le_refl _) (.int .i64 r1)).setCell (p := ⟨w.heap.size, 1, none⟩) (Nat.le_refl _) (.string p2))
    clear HO4 HE4 HBb4 HW4 hl1 f0 f1 k0 k1
    generalize (w4.setCell ⟨w.heap.size, 0, none⟩ (.int .i64 r1)).setCell ⟨w.heap.size, 1, none⟩ (.string p2) = w5 at *
    go_upto_region 8 with (first | (go_at_call 28; refine (read_calls bb A0 c0 l0 nCoepR q1 q2 w5 HB5.out (Kd.C_below HC.out HW5.out) hc0 HQ.out).mono ?_; rintro e w6 ⟨rfl, hB6⟩))
    have hown6 := HO5.out.kept (grown_of_below hB6 none) (by simp)
    have hE6 : EmB w6 w.heap.size r1 p2 0 ⟨#[]⟩ := blk_below HE5.out hB6
    have HW6 := Aside0.mk (below_then HW5.out HW5.out.size hB6)
    clear HB5 HO5 HE5 HW5 hB6
    have hl1 := look_C hown6 q1 hz2 r3 T2.out
    have f0 := blk_frozen hE6 2
    have f1 := blk_frozen hE6 3
    have k0 := hE6.c2
    have k1 := hE6.c3
    have HE6 := Aside0.mk hE6
    clear hown6 hE6
    go_upto_region 9 with (fail)
    have hE7 := HE6.out.hi r3 q2
    have HW7 := Aside0.mk ((HW6.out.setCell (p := ⟨w.heap.size, 2, none⟩) (Nat.le_refl _) (.int .i64 r3)).setCell (p := ⟨w.heap.size, 3, none⟩) (Nat.le_refl _) (.string q2))
    clear HE6 HW6 hl1 f0 f1 k0 k1
    generalize (w6.setCell ⟨w.heap.size, 2, none⟩ (.int .i64 r3)).setCell ⟨w.heap.size, 3, none⟩ (.string q2) = w7 at *
    have k0 := hE7.c0
    have k1 := hE7.c1
    have k2 := hE7.c2
    have k3 := hE7.c3
    have f0 := blk_frozen hE7 0
    have f1 := blk_frozen hE7 1
    have f2 := blk_frozen hE7 2
    have f3 := blk_frozen hE7 3
    have hE8 := hE7.same
    have hB8 := ((((HW7.out.setCell (p := ⟨w.heap.size, 0, none⟩) (Nat.le_refl _) (.int .i64 r1)).setCell (p := ⟨w.heap.size, 1, none⟩) (Nat.le_refl _) (.string p2)).setCell (p := ⟨w.heap.size, 2, none⟩) (Nat.le_refl _) (.int .i64 r3)).setCell (p := ⟨w.heap.size, 3, none⟩) (Nat.le_refl _) (.string q2))
    have HE8 := Aside0.mk hE8
    have HB8 := Aside0.mk hB8
    clear hE8 hB8 hE7 HW7
    go_wp2
    have hE8 := HE8.out
    have hB8 := HB8.out
    clear HE8 HB8 k0 k1 k2 k3 f0 f1 f2 f3
    generalize (((w7.setCell ⟨w.heap.size, 0, none⟩ (.int .i64 r1)).setCell ⟨w.heap.size, 1, none⟩ (.string p2)).setCell ⟨w.heap.size, 2, none⟩ (.int .i64 r3)).setCell ⟨w.heap.size, 3, none⟩ (.string q2) = w9 at *
    have n0 := hE8.c0
    have n1 := hE8.c1
    have n2 := hE8.c2
    have n3 := hE8.c3
    exact bodyPost_ret (v := .agg #[.int .i64 r1, .string p2, .int .i64 r3, .string q2]) (by simp [results, Tryz.results12, go_sem, n0, n1, n2, n3]) rfl ⟨rfl, hB8⟩
def nCoop : ByteArray := ⟨#[99, 114, 111, 115, 115, 45, 111, 114, 105, 103, 105, 110, 45, 111, 112, 101, 110, 101, 114, 45, 112, 111, 108, 105, 99, 121]⟩
def nCoopR : ByteArray := ⟨#[99, 114, 111, 115, 115, 45, 111, 114, 105, 103, 105, 110, 45, 111, 112, 101, 110, 101, 114, 45, 112, 111, 108, 105, 99, 121, 45, 114, 101, 112, 111, 114, 116, 45, 111, 110, 108, 121]⟩
def kSame : ByteArray := ⟨#[115, 97, 109, 101, 45, 111, 114, 105, 103, 105, 110]⟩
def kPop : ByteArray := ⟨#[115, 97, 109, 101, 45, 111, 114, 105, 103, 105, 110, 45, 97, 108, 108, 111, 119, 45, 112, 111, 112, 117, 112, 115]⟩
def isoF (x : Int) : Bool := x == 1 || x == 2
def plusF (v : Int) (b : Bool) : Int := if v = 2 then (if b = true then 3 else 2) else v
def coop_Coop.f (l0 : List S35) (s : Bool) : Option (Int × ByteArray × Int × ByteArray) :=
  if s = true then (coop_Coep.f l0 true).bind fun e => (readF l0 nCoop).bind fun p => (readF l0 nCoopR).bind fun q => if p.1.size ≤ 281474976710656 ∧ q.1.size ≤ 281474976710656 then some (plusF (twoOf kSame kPop p.1) (isoF e.1), p.2, plusF (twoOf kSame kPop q.1) (isoF e.1 || isoF e.2.2.1), q.2) else none
  else some (0, ⟨#[]⟩, 0, ⟨#[]⟩)
/-- The block of an opener's policy. -/
def OpB (W : World) (b : Nat) (m1 : Int) (s1 : ByteArray) (m2 : Int) (s2 : ByteArray) : Prop := W.heap[b]? = some (.cells #[.int .i64 m1, .string s1, .int .i64 m2, .string s2] 28 (0, 0))
theorem OpB.new (W : World) : OpB (W.alloc (.cells #[.int .i64 0, .string ⟨#[]⟩, .int .i64 0, .string ⟨#[]⟩] 28)) W.heap.size 0 ⟨#[]⟩ 0 ⟨#[]⟩ := by
  have := blk_new W (.cells #[.int .i64 0, .string ⟨#[]⟩, .int .i64 0, .string ⟨#[]⟩] 28); simpa [OpB] using this
theorem OpB.c0 {W : World} {b : Nat} {m1 m2 : Int} {s1 s2 : ByteArray} (h : OpB W b m1 s1 m2 s2) : W.cell? ⟨b, 0, none⟩ = some (.int .i64 m1) := (blk_cell h 0).trans rfl
theorem OpB.c1 {W : World} {b : Nat} {m1 m2 : Int} {s1 s2 : ByteArray} (h : OpB W b m1 s1 m2 s2) : W.cell? ⟨b, 1, none⟩ = some (.string s1) := (blk_cell h 1).trans rfl
theorem OpB.c2 {W : World} {b : Nat} {m1 m2 : Int} {s1 s2 : ByteArray} (h : OpB W b m1 s1 m2 s2) : W.cell? ⟨b, 2, none⟩ = some (.int .i64 m2) := (blk_cell h 2).trans rfl
theorem OpB.c3 {W : World} {b : Nat} {m1 m2 : Int} {s1 s2 : ByteArray} (h : OpB W b m1 s1 m2 s2) : W.cell? ⟨b, 3, none⟩ = some (.string s2) := (blk_cell h 3).trans rfl
theorem OpB.lo {W : World} {b : Nat} {m1 m2 : Int} {s1 s2 : ByteArray} (h : OpB W b m1 s1 m2 s2) (m : Int) (s : ByteArray) : OpB ((W.setCell ⟨b, 0, none⟩ (.int .i64 m)).setCell ⟨b, 1, none⟩ (.string s)) b m s m2 s2 := by
  have := blk_set (blk_set h 0 (.int .i64 m)) 1 (.string s); simpa [OpB] using this
theorem OpB.hi {W : World} {b : Nat} {m1 m2 : Int} {s1 s2 : ByteArray} (h : OpB W b m1 s1 m2 s2) (m : Int) (s : ByteArray) : OpB ((W.setCell ⟨b, 2, none⟩ (.int .i64 m)).setCell ⟨b, 3, none⟩ (.string s)) b m1 s1 m s := by
  have := blk_set (blk_set h 2 (.int .i64 m)) 3 (.string s); simpa [OpB] using this
theorem OpB.same {W : World} {b : Nat} {m1 m2 : Int} {s1 s2 : ByteArray} (h : OpB W b m1 s1 m2 s2) : OpB ((((W.setCell ⟨b, 0, none⟩ (.int .i64 m1)).setCell ⟨b, 1, none⟩ (.string s1)).setCell ⟨b, 2, none⟩ (.int .i64 m2)).setCell ⟨b, 3, none⟩ (.string s2)) b m1 s1 m2 s2 := (h.lo m1 s1).hi m2 s2
theorem EmB.newv (W : World) (m1 : Int) (s1 : ByteArray) (m2 : Int) (s2 : ByteArray) : EmB (W.alloc (.cells #[.int .i64 m1, .string s1, .int .i64 m2, .string s2] 30)) W.heap.size m1 s1 m2 s2 := by
  have := blk_new W (.cells #[.int .i64 m1, .string s1, .int .i64 m2, .string s2] 30); simpa [EmB] using this
theorem OpB.c0s {W : World} {b : Nat} {m1 m2 : Int} {s1 s2 : ByteArray} (h : OpB W b m1 s1 m2 s2) (m : Int) : OpB (W.setCell ⟨b, 0, none⟩ (.int .i64 m)) b m s1 m2 s2 := by
  have := blk_set h 0 (.int .i64 m); simpa [OpB] using this
theorem OpB.c2s {W : World} {b : Nat} {m1 m2 : Int} {s1 s2 : ByteArray} (h : OpB W b m1 s1 m2 s2) (m : Int) : OpB (W.setCell ⟨b, 2, none⟩ (.int .i64 m)) b m1 s1 m s2 := by
  have := blk_set h 2 (.int .i64 m); simpa [OpB] using this
theorem iso_calls (x : Int) (w : World) : Calls Tryz.prog 14 #[.int .i64 x] w fun e w' => e = .returned (.bool (isoF x)) ∧ w' = w := by
  by_cases h1 : x = 1
  · subst h1
    go_enter Tryz.func14, Tryz.ntmps14
    go_wp2
    go_ret
    exact ⟨rfl, rfl⟩
  · have b1 : (x == 1) = false := by simp [h1]
    by_cases h2 : x = 2
    · subst h2
      go_enter Tryz.func14, Tryz.ntmps14
      go_wp2
      go_ret
      exact ⟨rfl, rfl⟩
    · have b2 : (x == 2) = false := by simp [h2]
      have e : isoF x = false := by unfold isoF; rw [b1, b2]; rfl
      clear h1 h2
      go_enter Tryz.func14, Tryz.ntmps14
      go_wp2
      go_ret
      exact ⟨by rw [e]; rfl, rfl⟩
theorem plus_t {v : Int} {x : Bool} (h : true = (v == 2 && x)) : plusF v x = 3 := by
  have h1 := (Bool.and_eq_true _ _).mp h.symm
  have e : v = 2 := by simpa using h1.1
  unfold plusF
  rw [if_pos e, if_pos h1.2]
theorem plus_f {v : Int} {x : Bool} (h : false = (v == 2 && x)) : plusF v x = v := by
  unfold plusF
  by_cases e : v = 2
  · subst e
    cases x with
    | true => cases h
    | false => rfl
  · rw [if_neg e]
set_option maxHeartbeats 8000000 in
set_option maxRecDepth 100000 in
theorem coop_Coop.calls (A0 : Option Addr) (c0 : Nat) (l0 : List S35) (sec : Bool) (r1 : Int) (r2 : ByteArray) (r3 : Int) (r4 : ByteArray) (w : World) (hr0 : Kd.C k35 w A0 l0.length l0) (hc0 : l0.length ≤ c0) (h : coop_Coop.f l0 sec = some (r1, r2, r3, r4)) :
    Calls Tryz.prog 10 #[.slice A0 l0.length c0, .bool sec] w fun e w' => e = .returned (.agg #[.int .i64 r1, .string r2, .int .i64 r3, .string r4]) ∧ Below w.heap.size w w' := by
  unfold coop_Coop.f at h
  have hE0 := OpB.new w
  have hB0 := below_alloc (Below.refl w.heap.size w) (.cells #[.int .i64 0, .string ⟨#[]⟩, .int .i64 0, .string ⟨#[]⟩] 28)
  have HC := Aside0.mk hr0
  clear hr0
  cases sec with
  | false =>
    rw [if_neg (by decide)] at h
    simp only [Option.some.injEq, Prod.mk.injEq] at h
    obtain ⟨rfl, rfl, rfl, rfl⟩ := h
    go_enter Tryz.func10, Tryz.ntmps10
    go_upto_region 1 with (fail)
    generalize w.alloc (.cells #[.int .i64 0, .string ⟨#[]⟩, .int .i64 0, .string ⟨#[]⟩] 28) = w1 at *
    have k0 := hE0.c0
    have k1 := hE0.c1
    have k2 := hE0.c2
    have k3 := hE0.c3
    have f0 := blk_frozen hE0 0
    have f1 := blk_frozen hE0 1
    have f2 := blk_frozen hE0 2
    have f3 := blk_frozen hE0 3
    have hE2 := hE0.same
    have hB2 := (((hB0.setCell (p := ⟨w.heap.size, 0, none⟩) (Nat.le_refl _) (.int .i64 0)).setCell (p := ⟨w.heap.size, 1, none⟩) (Nat.le_refl _) (.string ⟨#[]⟩)).setCell (p := ⟨w.heap.size, 2, none⟩) (Nat.le_refl _) (.int .i64 0)).setCell (p := ⟨w.heap.size, 3, none⟩) (Nat.le_refl _) (.string ⟨#[]⟩)
    go_wp2
    generalize (((w1.setCell ⟨w.heap.size, 0, none⟩ (.int .i64 0)).setCell ⟨w.heap.size, 1, none⟩ (.string ⟨#[]⟩)).setCell ⟨w.heap.size, 2, none⟩ (.int .i64 0)).setCell ⟨w.heap.size, 3, none⟩ (.string ⟨#[]⟩) = w9 at *
    have n0 := hE2.c0
    have n1 := hE2.c1
    have n2 := hE2.c2
    have n3 := hE2.c3
    exact bodyPost_ret (v := .agg #[.int .i64 0, .string ⟨#[]⟩, .int .i64 0, .string ⟨#[]⟩]) (by simp [results, Tryz.results10, go_sem, n0, n1, n2, n3]) rfl ⟨rfl, hB2⟩
  | true =>
    rw [if_pos rfl] at h
    go_enter Tryz.func10, Tryz.ntmps10
    obtain ⟨⟨m1, m2, m3, m4⟩, hem, h⟩ := Option.bind_eq_some_iff.mp h
    obtain ⟨⟨p1, p2⟩, hp, h⟩ := Option.bind_eq_some_iff.mp h
    obtain ⟨⟨q1, q2⟩, hq, h⟩ := Option.bind_eq_some_iff.mp h
    simp only [] at h
    by_cases hz : p1.size ≤ 281474976710656 ∧ q1.size ≤ 281474976710656
    case neg => rw [if_neg hz] at h; cases h
    rw [if_pos hz] at h
    obtain ⟨hz1, hz2⟩ := hz
    simp only [Option.some.injEq, Prod.mk.injEq] at h
    obtain ⟨e1, rfl, e3, rfl⟩ := h
    have t1 := two_at kSame kPop p1
    have t2 := two_at kSame kPop q1
    generalize twoOf kSame kPop p1 = v1 at *
    generalize twoOf kSame kPop q1 = v3 at *
    have E1 := Aside0.mk e1
    have E3 := Aside0.mk e3
    have HM := Aside0.mk hem
    clear e1 e3 hem
    have hg := enters_of Tryz.func28 (by kernel_rfl) rfl
    have hmm := @run_makeMap Tryz.prog
    have kd : ∀ s : ByteArray, s.size ≤ 281474976710656 → keyOf Tryz.prog 9 (.string s) = some (keyC s) := fun s hs => WideMaps.keyOf_string_mk Tryz.underlying9 (by unfold maxLen; omega)
    have T1 := Aside0.mk t1
    have T2 := Aside0.mk t2
    have HP := Aside0.mk hp
    have HQ := Aside0.mk hq
    clear t1 t2 hp hq
    go_upto_region 3 with (fail)
    generalize w.alloc (.cells #[.int .i64 0, .string ⟨#[]⟩, .int .i64 0, .string ⟨#[]⟩] 28) = w1 at *
    have hlt : w.heap.size < w1.heap.size := by
      obtain ⟨hh, -⟩ := Array.getElem?_eq_some_iff.mp hE0
      exact hh
    have hown := World.ownsMap_made (H := Unit) w1 Tryz.prog 9 (plainElem Tryz.prog 3)
    have hE := Aside0.mk (blk_alloc hE0 (.map #[] 0))
    have hB := below_alloc hB0 (.map #[] 0)
    go_upto_region 4 with (first | (refine insert_ownC _ rfl _ _ _ 41 rfl 9 3 (Go.Maps.string_keyed Tryz.underlying9) Tryz.underlying41 _ _ _ _ rfl hown (by unfold maxLen; omega) _ _ _ rfl rfl (kd _ (by decide)) _ [] (plainElem_int Tryz.underlying3 (by decide)) ?_; intro w2 hown2 hgrow2; replace hB := below_grownC hB hgrow2 (Nat.le_of_lt hlt) hB.size; replace hE := Aside0.mk (blk_grown hE.out hgrow2 (by simp only [ne_eq, Option.some.injEq]; omega)); replace hown := hown2; clear hown2 hgrow2))
    clear h hE0 hB0 hmm kd
    have HO := Aside0.mk hown
    have HB2 := Aside0.mk hB
    clear hB
    go_upto_region 5 with (first | (go_at_call 20; refine (reader_calls A0 l0.length c0 w2).mono ?_; rintro e _ ⟨rfl, rfl⟩))
    have hb := CoB_new w2 (.slice A0 l0.length c0)
    have hown := HO.out.alloc (.cells #[.slice A0 l0.length c0] 22)
    have hE3 := blk_alloc hE.out (.cells #[.slice A0 l0.length c0] 22)
    have hB3 := below_alloc HB2.out (.cells #[.slice A0 l0.length c0] 22)
    have hlt3 : w1.heap.size < w2.heap.size := HO.out.lt
    clear HO hE HB2
    generalize w2.alloc (.cells #[.slice A0 l0.length c0] 22) = w3 at *
    generalize w2.heap.size = bb at *
    generalize w1.heap.size = mb at *
    have HBb := Aside0.mk hb
    have HO := Aside0.mk hown
    have HE := Aside0.mk hE3
    have HW := Aside0.mk hB3
    clear hb hown hE3 hB3
    go_upto_region 6 with (first | (go_at_call 12; refine (coop_Coep.calls A0 c0 l0 true m1 m2 m3 m4 w3 (Kd.C_below HC.out HW.out) hc0 HM.out).mono ?_; rintro e w4 ⟨rfl, hB4⟩))
    obtain ⟨i1, hi1⟩ : ∃ i, i = isoF m1 := ⟨_, rfl⟩
    obtain ⟨i3, hi3⟩ : ∃ i, i = isoF m3 := ⟨_, rfl⟩
    have HI1 := Aside0.mk (fun W => iso_calls m1 W)
    have HI3 := Aside0.mk (fun W => iso_calls m3 W)
    rw [← hi1] at E1 E3 HI1
    rw [← hi3] at E3 HI3
    clear hi1 hi3 h
    have HBb4 := Aside0.mk (show CoB (w4.alloc (.cells #[.int .i64 m1, .string m2, .int .i64 m3, .string m4] 30)) bb (.slice A0 l0.length c0) from blk_alloc (blk_below HBb.out hB4) _)
    have HO4 := Aside0.mk ((HO.out.kept (grown_of_below hB4 none) (by simp)).alloc (.cells #[.int .i64 m1, .string m2, .int .i64 m3, .string m4] 30))
    have HE4 := Aside0.mk (show OpB (w4.alloc (.cells #[.int .i64 m1, .string m2, .int .i64 m3, .string m4] 30)) w.heap.size 0 ⟨#[]⟩ 0 ⟨#[]⟩ from blk_alloc (blk_below HE.out hB4) _)
    have HEm := Aside0.mk (EmB.newv w4 m1 m2 m3 m4)
    have HW4 := Aside0.mk (below_alloc (below_then HW.out HW.out.size hB4) (.cells #[.int .i64 m1, .string m2, .int .i64 m3, .string m4] 30))
    have hlt4 : bb < w4.heap.size := blk_lt (blk_below HBb.out hB4)
    clear HBb HO HE HW hB4 hown
    generalize w4.alloc (.cells #[.int .i64 m1, .string m2, .int .i64 m3, .string m4] 30) = w5 at *
    generalize w4.heap.size = eb at *
    have HBb := HBb4
    have HO := HO4
    have HE := HE4
    have HW := HW4
    clear HBb4 HO4 HE4 HW4
    go_upto_region 7 with (first | (go_at_call 28; refine (read_calls bb A0 c0 l0 nCoop p1 p2 w5 HBb.out (Kd.C_below HC.out HW.out) hc0 HP.out).mono ?_; rintro e w6 ⟨rfl, hB4⟩))
    have HBb4 := Aside0.mk (show CoB w6 bb (.slice A0 l0.length c0) from blk_below HBb.out hB4)
    have hown4 := HO.out.kept (grown_of_below hB4 none) (by simp)
    have hE4 : OpB w6 w.heap.size 0 ⟨#[]⟩ 0 ⟨#[]⟩ := blk_below HE.out hB4
    have HM4 := Aside0.mk (show EmB w6 eb m1 m2 m3 m4 from blk_below HEm.out hB4)
    have HW4 := Aside0.mk (below_then HW.out HW.out.size hB4)
    clear HBb HO HE HW HEm hB4
    have hl1 := look_C hown4 p1 hz1 v1 T1.out
    have f0 := blk_frozen hE4 0
    have f1 := blk_frozen hE4 1
    have k0 := hE4.c0
    have k1 := hE4.c1
    have HO4 := Aside0.mk hown4
    have HE4 := Aside0.mk hE4
    clear hown4 hE4
    go_upto_region 8 with (fail)
    have HO := Aside0.mk ((HO4.out.setCell (a := ⟨w.heap.size, 0, none⟩) (by show mb ≠ w.heap.size; omega) (.int .i64 v1)).setCell (a := ⟨w.heap.size, 1, none⟩) (by show mb ≠ w.heap.size; omega) (.string p2))
    have HE := Aside0.mk (HE4.out.lo v1 p2)
    have HBb := Aside0.mk (show CoB ((w6.setCell ⟨w.heap.size, 0, none⟩ (.int .i64 v1)).setCell ⟨w.heap.size, 1, none⟩ (.string p2)) bb (.slice A0 l0.length c0) from blk_far (blk_far HBb4.out (by show bb ≠ w.heap.size; omega) _) (by show bb ≠ w.heap.size; omega) _)
    have HEm := Aside0.mk (show EmB ((w6.setCell ⟨w.heap.size, 0, none⟩ (.int .i64 v1)).setCell ⟨w.heap.size, 1, none⟩ (.string p2)) eb m1 m2 m3 m4 from blk_far (blk_far HM4.out (by show eb ≠ w.heap.size; omega) _) (by show eb ≠ w.heap.size; omega) _)
    have HW := Aside0.mk ((HW4.out.setCell (p := ⟨w.heap.size, 0, none⟩) (Nat.le_refl _) (.int .i64 v1)).setCell (p := ⟨w.heap.size, 1, none⟩) (Nat.le_refl _) (.string p2))
    clear HO4 HE4 HBb4 HW4 HM4 hl1 f0 f1 k0 k1
    generalize (w6.setCell ⟨w.heap.size, 0, none⟩ (.int .i64 v1)).setCell ⟨w.heap.size, 1, none⟩ (.string p2) = w7 at *
    go_cut [38] (fun vc wc => ∃ b : Bool, vc = .bool b ∧ w7 = wc ∧ Aside0 (b = (v1 == 2 && i1)))
    case first =>
      have k0 := HE.out.c0
      have n0 := HEm.out.c0
      have n2 := HEm.out.c2
      by_cases hv : v1 = 2
      · subst hv
        go_wp2_with (first | (go_at_call 14; (first | refine (HI1.out _).mono ?_ | refine (HI3.out _).mono ?_); rintro e _ ⟨rfl, rfl⟩))
        go_meet
        case rel => exact ⟨i1, rfl, rfl, ⟨by simp⟩⟩
      · have b1 : (v1 == 2) = false := by simp [hv]
        go_wp2
        go_meet
        case rel => exact ⟨false, rfl, rfl, ⟨by simp [hv]⟩⟩
    case rest =>
      obtain ⟨b, rfl, rfl, hbq⟩ := hcut
      go_upto_if 38 with (fail)
      go_cut [] (fun wc => Aside0 (OpB wc w.heap.size r1 p2 0 ⟨#[]⟩) ∧ Aside0 (EmB wc eb m1 m2 m3 m4) ∧ Aside0 (CoB wc bb (.slice A0 l0.length c0)) ∧ Aside0 (wc.ownsMap Tryz.prog 9 (plainElem Tryz.prog 3) mb (0 + 1 + 1) (wordsM kSame kPop)) ∧ Aside0 (Below w.heap.size w wc))
      case first =>
        cases b with
        | true =>
          have hr : r1 = 3 := E1.out.symm.trans (plus_t hbq.out)
          have k0 := HE.out.c0
          have f0 := blk_frozen HE.out 0
          go_wp2
          go_meet
          case rel => exact ⟨⟨hr ▸ HE.out.c0s 3⟩, ⟨blk_far HEm.out (by show eb ≠ w.heap.size; omega) _⟩, ⟨blk_far HBb.out (by show bb ≠ w.heap.size; omega) _⟩, ⟨HO.out.setCell (a := ⟨w.heap.size, 0, none⟩) (by show mb ≠ w.heap.size; omega) _⟩, ⟨HW.out.setCell (p := ⟨w.heap.size, 0, none⟩) (Nat.le_refl _) _⟩⟩
        | false =>
          have hr : r1 = v1 := E1.out.symm.trans (plus_f hbq.out)
          go_wp2
          go_meet
          case rel => exact ⟨⟨hr ▸ HE.out⟩, HEm, HBb, HO, HW⟩
      case rest =>
        clear HE HEm HBb HO HW
        obtain ⟨HE, HEm, HBb, HO, HW⟩ := hcut
        go_upto_region 11 with (first | (go_at_call 28; refine (read_calls bb A0 c0 l0 nCoopR q1 q2 wc HBb.out (Kd.C_below HC.out HW.out) hc0 HQ.out).mono ?_; rintro e w9 ⟨rfl, hB4⟩))
        have HBb4 := Aside0.mk (show CoB w9 bb (.slice A0 l0.length c0) from blk_below HBb.out hB4)
        have hown4 := HO.out.kept (grown_of_below hB4 none) (by simp)
        have hE4 : OpB w9 w.heap.size r1 p2 0 ⟨#[]⟩ := blk_below HE.out hB4
        have HM4 := Aside0.mk (show EmB w9 eb m1 m2 m3 m4 from blk_below HEm.out hB4)
        have HW4 := Aside0.mk (below_then HW.out HW.out.size hB4)
        clear HBb HO HE HW HEm hB4
        have hl1 := look_C hown4 q1 hz2 v3 T2.out
        have f0 := blk_frozen hE4 2
        have f1 := blk_frozen hE4 3
        have k0 := hE4.c2
        have k1 := hE4.c3
        have HO4 := Aside0.mk hown4
        have HE4 := Aside0.mk hE4
        clear hown4 hE4
        go_upto_region 12 with (fail)
        have HO := Aside0.mk ((HO4.out.setCell (a := ⟨w.heap.size, 2, none⟩) (by show mb ≠ w.heap.size; omega) (.int .i64 v3)).setCell (a := ⟨w.heap.size, 3, none⟩) (by show mb ≠ w.heap.size; omega) (.string q2))
        have HE := Aside0.mk (HE4.out.hi v3 q2)
        have HBb := Aside0.mk (show CoB ((w9.setCell ⟨w.heap.size, 2, none⟩ (.int .i64 v3)).setCell ⟨w.heap.size, 3, none⟩ (.string q2)) bb (.slice A0 l0.length c0) from blk_far (blk_far HBb4.out (by show bb ≠ w.heap.size; omega) _) (by show bb ≠ w.heap.size; omega) _)
        have HEm := Aside0.mk (show EmB ((w9.setCell ⟨w.heap.size, 2, none⟩ (.int .i64 v3)).setCell ⟨w.heap.size, 3, none⟩ (.string q2)) eb m1 m2 m3 m4 from blk_far (blk_far HM4.out (by show eb ≠ w.heap.size; omega) _) (by show eb ≠ w.heap.size; omega) _)
        have HW := Aside0.mk ((HW4.out.setCell (p := ⟨w.heap.size, 2, none⟩) (Nat.le_refl _) (.int .i64 v3)).setCell (p := ⟨w.heap.size, 3, none⟩) (Nat.le_refl _) (.string q2))
        clear HO4 HE4 HBb4 HW4 HM4 hl1 f0 f1 k0 k1
        generalize (w9.setCell ⟨w.heap.size, 2, none⟩ (.int .i64 v3)).setCell ⟨w.heap.size, 3, none⟩ (.string q2) = w10 at *
        go_cut [63] (fun vc wc => ∃ b : Bool, vc = .bool b ∧ w10 = wc ∧ Aside0 (b = (v3 == 2 && (i1 || i3))))
        case first =>
          have k0 := HE.out.c2
          have n0 := HEm.out.c0
          have n2 := HEm.out.c2
          by_cases hv : v3 = 2
          · subst hv
            cases i1 with
            | true =>
              go_wp2_with (first | (go_at_call 14; (first | refine (HI1.out _).mono ?_ | refine (HI3.out _).mono ?_); rintro e _ ⟨rfl, rfl⟩))
              go_meet
              case rel => exact ⟨true, rfl, rfl, ⟨by simp⟩⟩
            | false =>
              go_wp2_with (first | (go_at_call 14; (first | refine (HI1.out _).mono ?_ | refine (HI3.out _).mono ?_); rintro e _ ⟨rfl, rfl⟩))
              go_meet
              case rel => exact ⟨i3, rfl, rfl, ⟨by simp⟩⟩
          · have b1 : (v3 == 2) = false := by simp [hv]
            go_wp2
            go_meet
            case rel => exact ⟨false, rfl, rfl, ⟨by simp [hv]⟩⟩
        case rest =>
          obtain ⟨b, rfl, rfl, hbq⟩ := hcut
          go_upto_if 63 with (fail)
          go_cut [] (fun wc => Aside0 (OpB wc w.heap.size r1 p2 r3 q2) ∧ Aside0 (EmB wc eb m1 m2 m3 m4) ∧ Aside0 (CoB wc bb (.slice A0 l0.length c0)) ∧ Aside0 (wc.ownsMap Tryz.prog 9 (plainElem Tryz.prog 3) mb (0 + 1 + 1) (wordsM kSame kPop)) ∧ Aside0 (Below w.heap.size w wc))
          case first =>
            cases b with
            | true =>
              have hr : r3 = 3 := E3.out.symm.trans (plus_t hbq.out)
              have k0 := HE.out.c2
              have f0 := blk_frozen HE.out 2
              go_wp2
              go_meet
              case rel => exact ⟨⟨hr ▸ HE.out.c2s 3⟩, ⟨blk_far HEm.out (by show eb ≠ w.heap.size; omega) _⟩, ⟨blk_far HBb.out (by show bb ≠ w.heap.size; omega) _⟩, ⟨HO.out.setCell (a := ⟨w.heap.size, 2, none⟩) (by show mb ≠ w.heap.size; omega) _⟩, ⟨HW.out.setCell (p := ⟨w.heap.size, 2, none⟩) (Nat.le_refl _) _⟩⟩
            | false =>
              have hr : r3 = v3 := E3.out.symm.trans (plus_f hbq.out)
              go_wp2
              go_meet
              case rel => exact ⟨⟨hr ▸ HE.out⟩, HEm, HBb, HO, HW⟩
          case rest =>
            clear HE HEm HBb HO HW
            obtain ⟨HE, HEm, HBb, HO, HW⟩ := hcut
            have k0 := HE.out.c0
            have k1 := HE.out.c1
            have k2 := HE.out.c2
            have k3 := HE.out.c3
            have f0 := blk_frozen HE.out 0
            have f1 := blk_frozen HE.out 1
            have f2 := blk_frozen HE.out 2
            have f3 := blk_frozen HE.out 3
            have HE8 := Aside0.mk HE.out.same
            have HB8 := Aside0.mk ((((HW.out.setCell (p := ⟨w.heap.size, 0, none⟩) (Nat.le_refl _) (.int .i64 r1)).setCell (p := ⟨w.heap.size, 1, none⟩) (Nat.le_refl _) (.string p2)).setCell (p := ⟨w.heap.size, 2, none⟩) (Nat.le_refl _) (.int .i64 r3)).setCell (p := ⟨w.heap.size, 3, none⟩) (Nat.le_refl _) (.string q2))
            clear HE HEm HBb HO HW
            go_wp2
            have hE8 := HE8.out
            have hB8 := HB8.out
            clear HE8 HB8 k0 k1 k2 k3 f0 f1 f2 f3
            generalize (((wc.setCell ⟨w.heap.size, 0, none⟩ (.int .i64 r1)).setCell ⟨w.heap.size, 1, none⟩ (.string p2)).setCell ⟨w.heap.size, 2, none⟩ (.int .i64 r3)).setCell ⟨w.heap.size, 3, none⟩ (.string q2) = w12 at *
            have n0 := hE8.c0
            have n1 := hE8.c1
            have n2 := hE8.c2
            have n3 := hE8.c3
            exact bodyPost_ret (v := .agg #[.int .i64 r1, .string p2, .int .i64 r3, .string q2]) (by simp [results, Tryz.results10, go_sem, n0, n1, n2, n3]) rfl ⟨rfl, hB8⟩
def coop_Isolates.f (a0 : Int) : Option (Bool) := if a0 = 1 then (some true) else (some (a0 == 2))
set_option maxHeartbeats 8000000 in
set_option maxRecDepth 100000 in
theorem coop_Isolates.calls (a0 : Int) (r : Bool) (w : World) (h : coop_Isolates.f a0 = some r) :
    Calls Tryz.prog 14 #[.int .i64 a0] w fun e w' => e = .returned (.bool r) ∧ Drawn0 w w' := by
  have H : (if a0 = 1 then (some true) else (some (a0 == 2))) = some r := h
  clear h
  by_cases c2 : a0 = 1
  · rw [if_pos c2] at H
    have c2b0 : (a0 == 1) = true := beq_iff_eq.mpr c2
    have c2b1 : (a0 != 1) = false := bne_eq_false_iff_eq.mpr c2
    clear c2
    obtain rfl := Option.some.inj H
    go_enter Tryz.func14, Tryz.ntmps14
    go_wp2
    go_ret
    exact ⟨by first | rfl | (simp; done) | (simp [*]; done) | (simp [q_ne_nil]; done), by repeat (first | exact Drawn0.refl _ | apply Drawn0.step)⟩
  · rw [if_neg c2] at H
    have c2b0 : (a0 == 1) = false := beq_eq_false_iff_ne.mpr c2
    have c2b1 : (a0 != 1) = true := bne_iff_ne.mpr c2
    obtain rfl := Option.some.inj H
    go_enter Tryz.func14, Tryz.ntmps14
    go_wp2
    go_ret
    exact ⟨by first | rfl | (simp; done) | (simp [*]; done) | (simp [q_ne_nil]; done), by repeat (first | exact Drawn0.refl _ | apply Drawn0.step)⟩
end Go.Proofs.YtciigmlibnpeeaaGreatDoor.Q
namespace Go.Proofs.YtciigmlibnpeeaaGreatDoor.Q
open Go.RowKit Go.Proofs.YtciigmlibnpeeaaGreatDoorW.PrintWords Go.Proofs.YtciigmlibnpeeaaGreatDoorW.PrintLast Go.Proofs.YtciigmlibnpeeaaGreatDoorW.PrintMore
set_option linter.unusedVariables false
set_option linter.unusedSimpArgs false
attribute [local go_sem high] eqA28 eqA30
def glacislaw08_awake.f (k : Nat)  : Option (Bool) := (some (([(⟨(⟨#[67, 114, 111, 115, 115, 45, 79, 114, 105, 103, 105, 110, 45, 79, 112, 101, 110, 101, 114, 45, 80, 111, 108, 105, 99, 121]⟩ : ByteArray), (⟨#[115, 97, 109, 101, 45, 111, 114, 105, 103, 105, 110, 59, 32, 114, 101, 112, 111, 114, 116, 45, 116, 111, 61, 34, 97, 34]⟩ : ByteArray)⟩ : S35), (⟨(⟨#[99, 114, 111, 115, 115, 45, 111, 114, 105, 103, 105, 110, 45, 101, 109, 98, 101, 100, 100, 101, 114, 45, 112, 111, 108, 105, 99, 121]⟩ : ByteArray), (⟨#[114, 101, 113, 117, 105, 114, 101, 45, 99, 111, 114, 112]⟩ : ByteArray)⟩ : S35)] : List (S35)) : List (S35))).bind fun y125 => ((coop_Coop.f y125 true).bind fun bt128 => ((coop_Coep.f y125 true).bind fun bt133 => ((coop_Coop.f (([(⟨(⟨#[99, 114, 111, 115, 115, 45, 111, 114, 105, 103, 105, 110, 45, 111, 112, 101, 110, 101, 114, 45, 112, 111, 108, 105, 99, 121]⟩ : ByteArray), (⟨#[83, 97, 109, 101, 45, 79, 114, 105, 103, 105, 110]⟩ : ByteArray)⟩ : S35)] : List (S35))) true).bind fun bt141 => (if (bt128.1 == 3 && (bt128.2.1.toList == ([97] : List UInt8) && (bt128.2.2.1 == 0 && (bt128.2.2.2.toList == ([] : List UInt8))))) = true then (if (bt133.1 == 2 && (bt133.2.1.toList == ([] : List UInt8) && (bt133.2.2.1 == 0 && (bt133.2.2.2.toList == ([] : List UInt8))))) = true then (if (bt141.1 == 0 && (bt141.2.1.toList == ([] : List UInt8) && (bt141.2.2.1 == 0 && (bt141.2.2.2.toList == ([] : List UInt8))))) = true then ((coop_Coop.f y125 false).bind fun bt146 => (if (bt146.1 == 0 && (bt146.2.1.toList == ([] : List UInt8) && (bt146.2.2.1 == 0 && (bt146.2.2.2.toList == ([] : List UInt8))))) = true then ((coop_Isolates.f 1).bind fun t150 => (if t150 = true then ((coop_Plain.f k y125).bind fun t151 => (some ((t151.length : Int) == 2))) else (none))) else (none))) else (none)) else (none)) else (none)))))
set_option maxHeartbeats 8000000 in
set_option maxRecDepth 100000 in
theorem glacislaw08_awake.calls (k : Nat)  (r : Bool) (w : World) (h : glacislaw08_awake.f k  = some r) :
    Calls Tryz.prog 5 #[] w fun e w' => e = .returned (.bool r) ∧ Below w.heap.size w w' := by
  have hu35 := Tryz.underlying35
  have hu28 := Tryz.underlying28
  have hu30 := Tryz.underlying30
  have HB := Aside0.mk (Below.refl w.heap.size w)
  have H : ((some (([(⟨(⟨#[67, 114, 111, 115, 115, 45, 79, 114, 105, 103, 105, 110, 45, 79, 112, 101, 110, 101, 114, 45, 80, 111, 108, 105, 99, 121]⟩ : ByteArray), (⟨#[115, 97, 109, 101, 45, 111, 114, 105, 103, 105, 110, 59, 32, 114, 101, 112, 111, 114, 116, 45, 116, 111, 61, 34, 97, 34]⟩ : ByteArray)⟩ : S35), (⟨(⟨#[99, 114, 111, 115, 115, 45, 111, 114, 105, 103, 105, 110, 45, 101, 109, 98, 101, 100, 100, 101, 114, 45, 112, 111, 108, 105, 99, 121]⟩ : ByteArray), (⟨#[114, 101, 113, 117, 105, 114, 101, 45, 99, 111, 114, 112]⟩ : ByteArray)⟩ : S35)] : List (S35)) : List (S35))).bind fun y125 => ((coop_Coop.f y125 true).bind fun bt128 => ((coop_Coep.f y125 true).bind fun bt133 => ((coop_Coop.f (([(⟨(⟨#[99, 114, 111, 115, 115, 45, 111, 114, 105, 103, 105, 110, 45, 111, 112, 101, 110, 101, 114, 45, 112, 111, 108, 105, 99, 121]⟩ : ByteArray), (⟨#[83, 97, 109, 101, 45, 79, 114, 105, 103, 105, 110]⟩ : ByteArray)⟩ : S35)] : List (S35))) true).bind fun bt141 => (if (bt128.1 == 3 && (bt128.2.1.toList == ([97] : List UInt8) && (bt128.2.2.1 == 0 && (bt128.2.2.2.toList == ([] : List UInt8))))) = true then (if (bt133.1 == 2 && (bt133.2.1.toList == ([] : List UInt8) && (bt133.2.2.1 == 0 && (bt133.2.2.2.toList == ([] : List UInt8))))) = true then (if (bt141.1 == 0 && (bt141.2.1.toList == ([] : List UInt8) && (bt141.2.2.1 == 0 && (bt141.2.2.2.toList == ([] : List UInt8))))) = true then ((coop_Coop.f y125 false).bind fun bt146 => (if (bt146.1 == 0 && (bt146.2.1.toList == ([] : List UInt8) && (bt146.2.2.1 == 0 && (bt146.2.2.2.toList == ([] : List UInt8))))) = true then ((coop_Isolates.f 1).bind fun t150 => (if t150 = true then ((coop_Plain.f k y125).bind fun t151 => (some ((t151.length : Int) == 2))) else (none))) else (none))) else (none)) else (none)) else (none)))))) = some r := h
  clear h
  obtain ⟨y125, hy125⟩ : ∃ y_ : List (S35), y_ = (([(⟨(⟨#[67, 114, 111, 115, 115, 45, 79, 114, 105, 103, 105, 110, 45, 79, 112, 101, 110, 101, 114, 45, 80, 111, 108, 105, 99, 121]⟩ : ByteArray), (⟨#[115, 97, 109, 101, 45, 111, 114, 105, 103, 105, 110, 59, 32, 114, 101, 112, 111, 114, 116, 45, 116, 111, 61, 34, 97, 34]⟩ : ByteArray)⟩ : S35), (⟨(⟨#[99, 114, 111, 115, 115, 45, 111, 114, 105, 103, 105, 110, 45, 101, 109, 98, 101, 100, 100, 101, 114, 45, 112, 111, 108, 105, 99, 121]⟩ : ByteArray), (⟨#[114, 101, 113, 117, 105, 114, 101, 45, 99, 111, 114, 112]⟩ : ByteArray)⟩ : S35)] : List (S35))) := ⟨_, rfl⟩
  replace H : ((coop_Coop.f y125 true).bind fun bt128 => ((coop_Coep.f y125 true).bind fun bt133 => ((coop_Coop.f (([(⟨(⟨#[99, 114, 111, 115, 115, 45, 111, 114, 105, 103, 105, 110, 45, 111, 112, 101, 110, 101, 114, 45, 112, 111, 108, 105, 99, 121]⟩ : ByteArray), (⟨#[83, 97, 109, 101, 45, 79, 114, 105, 103, 105, 110]⟩ : ByteArray)⟩ : S35)] : List (S35))) true).bind fun bt141 => (if (bt128.1 == 3 && (bt128.2.1.toList == ([97] : List UInt8) && (bt128.2.2.1 == 0 && (bt128.2.2.2.toList == ([] : List UInt8))))) = true then (if (bt133.1 == 2 && (bt133.2.1.toList == ([] : List UInt8) && (bt133.2.2.1 == 0 && (bt133.2.2.2.toList == ([] : List UInt8))))) = true then (if (bt141.1 == 0 && (bt141.2.1.toList == ([] : List UInt8) && (bt141.2.2.1 == 0 && (bt141.2.2.2.toList == ([] : List UInt8))))) = true then ((coop_Coop.f y125 false).bind fun bt146 => (if (bt146.1 == 0 && (bt146.2.1.toList == ([] : List UInt8) && (bt146.2.2.1 == 0 && (bt146.2.2.2.toList == ([] : List UInt8))))) = true then ((coop_Isolates.f 1).bind fun t150 => (if t150 = true then ((coop_Plain.f k y125).bind fun t151 => (some ((t151.length : Int) == 2))) else (none))) else (none))) else (none)) else (none)) else (none))))) = some r := by first | (rw [hy125]; with_reducible exact H) | (have H2_ := (Option.bind_some _ _).symm.trans H; rw [hy125]; with_reducible exact H2_) | (have H2_ := (Option.bind_some _ _).symm.trans H; with_reducible exact H2_) | with_reducible exact H | (rw [hy125]; exact H) | exact H
  have Ny125 := Aside0.mk hy125
  clear hy125
  replace H := Option.bind_eq_some_iff.mp H
  obtain ⟨⟨t128, t129, t130, t131⟩, A10, H⟩ := H
  replace H : ((coop_Coep.f y125 true).bind fun bt133 => ((coop_Coop.f (([(⟨(⟨#[99, 114, 111, 115, 115, 45, 111, 114, 105, 103, 105, 110, 45, 111, 112, 101, 110, 101, 114, 45, 112, 111, 108, 105, 99, 121]⟩ : ByteArray), (⟨#[83, 97, 109, 101, 45, 79, 114, 105, 103, 105, 110]⟩ : ByteArray)⟩ : S35)] : List (S35))) true).bind fun bt141 => (if (t128 == 3 && (t129.toList == ([97] : List UInt8) && (t130 == 0 && (t131.toList == ([] : List UInt8))))) = true then (if (bt133.1 == 2 && (bt133.2.1.toList == ([] : List UInt8) && (bt133.2.2.1 == 0 && (bt133.2.2.2.toList == ([] : List UInt8))))) = true then (if (bt141.1 == 0 && (bt141.2.1.toList == ([] : List UInt8) && (bt141.2.2.1 == 0 && (bt141.2.2.2.toList == ([] : List UInt8))))) = true then ((coop_Coop.f y125 false).bind fun bt146 => (if (bt146.1 == 0 && (bt146.2.1.toList == ([] : List UInt8) && (bt146.2.2.1 == 0 && (bt146.2.2.2.toList == ([] : List UInt8))))) = true then ((coop_Isolates.f 1).bind fun t150 => (if t150 = true then ((coop_Plain.f k y125).bind fun t151 => (some ((t151.length : Int) == 2))) else (none))) else (none))) else (none)) else (none)) else (none)))) = some r := H
  have A1 := Aside0.mk A10
  clear A10
  replace H := Option.bind_eq_some_iff.mp H
  obtain ⟨⟨t133, t134, t135, t136⟩, A20, H⟩ := H
  replace H : ((coop_Coop.f (([(⟨(⟨#[99, 114, 111, 115, 115, 45, 111, 114, 105, 103, 105, 110, 45, 111, 112, 101, 110, 101, 114, 45, 112, 111, 108, 105, 99, 121]⟩ : ByteArray), (⟨#[83, 97, 109, 101, 45, 79, 114, 105, 103, 105, 110]⟩ : ByteArray)⟩ : S35)] : List (S35))) true).bind fun bt141 => (if (t128 == 3 && (t129.toList == ([97] : List UInt8) && (t130 == 0 && (t131.toList == ([] : List UInt8))))) = true then (if (t133 == 2 && (t134.toList == ([] : List UInt8) && (t135 == 0 && (t136.toList == ([] : List UInt8))))) = true then (if (bt141.1 == 0 && (bt141.2.1.toList == ([] : List UInt8) && (bt141.2.2.1 == 0 && (bt141.2.2.2.toList == ([] : List UInt8))))) = true then ((coop_Coop.f y125 false).bind fun bt146 => (if (bt146.1 == 0 && (bt146.2.1.toList == ([] : List UInt8) && (bt146.2.2.1 == 0 && (bt146.2.2.2.toList == ([] : List UInt8))))) = true then ((coop_Isolates.f 1).bind fun t150 => (if t150 = true then ((coop_Plain.f k y125).bind fun t151 => (some ((t151.length : Int) == 2))) else (none))) else (none))) else (none)) else (none)) else (none))) = some r := H
  have A2 := Aside0.mk A20
  clear A20
  obtain ⟨y138, hy138⟩ : ∃ y_ : List (S35), y_ = (([(⟨(⟨#[99, 114, 111, 115, 115, 45, 111, 114, 105, 103, 105, 110, 45, 111, 112, 101, 110, 101, 114, 45, 112, 111, 108, 105, 99, 121]⟩ : ByteArray), (⟨#[83, 97, 109, 101, 45, 79, 114, 105, 103, 105, 110]⟩ : ByteArray)⟩ : S35)] : List (S35))) := ⟨_, rfl⟩
  replace H : ((coop_Coop.f y138 true).bind fun bt141 => (if (t128 == 3 && (t129.toList == ([97] : List UInt8) && (t130 == 0 && (t131.toList == ([] : List UInt8))))) = true then (if (t133 == 2 && (t134.toList == ([] : List UInt8) && (t135 == 0 && (t136.toList == ([] : List UInt8))))) = true then (if (bt141.1 == 0 && (bt141.2.1.toList == ([] : List UInt8) && (bt141.2.2.1 == 0 && (bt141.2.2.2.toList == ([] : List UInt8))))) = true then ((coop_Coop.f y125 false).bind fun bt146 => (if (bt146.1 == 0 && (bt146.2.1.toList == ([] : List UInt8) && (bt146.2.2.1 == 0 && (bt146.2.2.2.toList == ([] : List UInt8))))) = true then ((coop_Isolates.f 1).bind fun t150 => (if t150 = true then ((coop_Plain.f k y125).bind fun t151 => (some ((t151.length : Int) == 2))) else (none))) else (none))) else (none)) else (none)) else (none))) = some r := by first | (rw [hy138]; with_reducible exact H) | (have H2_ := (Option.bind_some _ _).symm.trans H; rw [hy138]; with_reducible exact H2_) | (have H2_ := (Option.bind_some _ _).symm.trans H; with_reducible exact H2_) | with_reducible exact H | (rw [hy138]; exact H) | exact H
  have Ny138 := Aside0.mk hy138
  clear hy138
  replace H := Option.bind_eq_some_iff.mp H
  obtain ⟨⟨t141, t142, t143, t144⟩, A30, H⟩ := H
  replace H : (if (t128 == 3 && (t129.toList == ([97] : List UInt8) && (t130 == 0 && (t131.toList == ([] : List UInt8))))) = true then (if (t133 == 2 && (t134.toList == ([] : List UInt8) && (t135 == 0 && (t136.toList == ([] : List UInt8))))) = true then (if (t141 == 0 && (t142.toList == ([] : List UInt8) && (t143 == 0 && (t144.toList == ([] : List UInt8))))) = true then ((coop_Coop.f y125 false).bind fun bt146 => (if (bt146.1 == 0 && (bt146.2.1.toList == ([] : List UInt8) && (bt146.2.2.1 == 0 && (bt146.2.2.2.toList == ([] : List UInt8))))) = true then ((coop_Isolates.f 1).bind fun t150 => (if t150 = true then ((coop_Plain.f k y125).bind fun t151 => (some ((t151.length : Int) == 2))) else (none))) else (none))) else (none)) else (none)) else (none)) = some r := H
  have A3 := Aside0.mk A30
  clear A30
  by_cases c4 : (t128 == 3 && (t129.toList == ([97] : List UInt8) && (t130 == 0 && (t131.toList == ([] : List UInt8))))) = true
  · rw [if_pos c4] at H
    obtain ⟨c4e0, c4e1, c4e2, c4e3⟩ : t128 = 3 ∧ t129.toList = ([97] : List UInt8) ∧ t130 = 0 ∧ t131.toList = ([] : List UInt8) := by simpa using c4
    clear c4
    have c4f1 : (t129.toList == ([97] : List UInt8)) = true := by rw [c4e1]; simp
    have c4f3 : (t131.toList == ([] : List UInt8)) = true := by rw [c4e3]; simp
    subst c4e0 c4e2
    by_cases c5 : (t133 == 2 && (t134.toList == ([] : List UInt8) && (t135 == 0 && (t136.toList == ([] : List UInt8))))) = true
    · rw [if_pos c5] at H
      obtain ⟨c5e0, c5e1, c5e2, c5e3⟩ : t133 = 2 ∧ t134.toList = ([] : List UInt8) ∧ t135 = 0 ∧ t136.toList = ([] : List UInt8) := by simpa using c5
      clear c5
      have c5f1 : (t134.toList == ([] : List UInt8)) = true := by rw [c5e1]; simp
      have c5f3 : (t136.toList == ([] : List UInt8)) = true := by rw [c5e3]; simp
      subst c5e0 c5e2
      by_cases c6 : (t141 == 0 && (t142.toList == ([] : List UInt8) && (t143 == 0 && (t144.toList == ([] : List UInt8))))) = true
      · rw [if_pos c6] at H
        obtain ⟨c6e0, c6e1, c6e2, c6e3⟩ : t141 = 0 ∧ t142.toList = ([] : List UInt8) ∧ t143 = 0 ∧ t144.toList = ([] : List UInt8) := by simpa using c6
        clear c6
        have c6f1 : (t142.toList == ([] : List UInt8)) = true := by rw [c6e1]; simp
        have c6f3 : (t144.toList == ([] : List UInt8)) = true := by rw [c6e3]; simp
        subst c6e0 c6e2
        replace H := Option.bind_eq_some_iff.mp H
        obtain ⟨⟨t146, t147, t148, t149⟩, A70, H⟩ := H
        replace H : (if (t146 == 0 && (t147.toList == ([] : List UInt8) && (t148 == 0 && (t149.toList == ([] : List UInt8))))) = true then ((coop_Isolates.f 1).bind fun t150 => (if t150 = true then ((coop_Plain.f k y125).bind fun t151 => (some ((t151.length : Int) == 2))) else (none))) else (none)) = some r := H
        have A7 := Aside0.mk A70
        clear A70
        by_cases c8 : (t146 == 0 && (t147.toList == ([] : List UInt8) && (t148 == 0 && (t149.toList == ([] : List UInt8))))) = true
        · rw [if_pos c8] at H
          obtain ⟨c8e0, c8e1, c8e2, c8e3⟩ : t146 = 0 ∧ t147.toList = ([] : List UInt8) ∧ t148 = 0 ∧ t149.toList = ([] : List UInt8) := by simpa using c8
          clear c8
          have c8f1 : (t147.toList == ([] : List UInt8)) = true := by rw [c8e1]; simp
          have c8f3 : (t149.toList == ([] : List UInt8)) = true := by rw [c8e3]; simp
          subst c8e0 c8e2
          replace H := Option.bind_eq_some_iff.mp H
          obtain ⟨t150, A90, H⟩ := H
          replace H : (if t150 = true then ((coop_Plain.f k y125).bind fun t151 => (some ((t151.length : Int) == 2))) else (none)) = some r := H
          have A9 := Aside0.mk A90
          clear A90
          by_cases c10 : t150 = true
          · subst c10
            have H1 : ((coop_Plain.f k y125).bind fun t151 => (some ((t151.length : Int) == 2))) = some r := by rw [if_pos rfl] at H; exact H
            clear H
            have H := H1
            clear H1
            replace H := Option.bind_eq_some_iff.mp H
            obtain ⟨t151, A110, H⟩ := H
            replace H : (some ((t151.length : Int) == 2)) = some r := H
            have A11 := Aside0.mk A110
            clear A110
            obtain rfl := Option.some.inj H
            go_enter Tryz.func5, Tryz.ntmps5
            go_wp2_with (first | ((with_reducible refine gate_dst (N := 7) rfl ?_); (try (refine gate_guard (by rfl) ?_; dsimp only)); refine Kd.R_lit k35 _ 35 ?hg (N := 7) ?hd (xs := ([(⟨(⟨#[67, 114, 111, 115, 115, 45, 79, 114, 105, 103, 105, 110, 45, 79, 112, 101, 110, 101, 114, 45, 80, 111, 108, 105, 99, 121]⟩ : ByteArray), (⟨#[115, 97, 109, 101, 45, 111, 114, 105, 103, 105, 110, 59, 32, 114, 101, 112, 111, 114, 116, 45, 116, 111, 61, 34, 97, 34]⟩ : ByteArray)⟩ : S35), (⟨(⟨#[99, 114, 111, 115, 115, 45, 111, 114, 105, 103, 105, 110, 45, 101, 109, 98, 101, 100, 100, 101, 114, 45, 112, 111, 108, 105, 99, 121]⟩ : ByteArray), (⟨#[114, 101, 113, 117, 105, 114, 101, 45, 99, 111, 114, 112]⟩ : ByteArray)⟩ : S35)] : List (S35))) (inner := [.string (⟨#[67, 114, 111, 115, 115, 45, 79, 114, 105, 103, 105, 110, 45, 79, 112, 101, 110, 101, 114, 45, 80, 111, 108, 105, 99, 121]⟩ : ByteArray), .string (⟨#[115, 97, 109, 101, 45, 111, 114, 105, 103, 105, 110, 59, 32, 114, 101, 112, 111, 114, 116, 45, 116, 111, 61, 34, 97, 34]⟩ : ByteArray), .string (⟨#[99, 114, 111, 115, 115, 45, 111, 114, 105, 103, 105, 110, 45, 101, 109, 98, 101, 100, 100, 101, 114, 45, 112, 111, 108, 105, 99, 121]⟩ : ByteArray), .string (⟨#[114, 101, 113, 117, 105, 114, 101, 45, 99, 111, 114, 112]⟩ : ByteArray)]) (ok := fun _ => True) (okp := fun _ => True) ?hr ?hp (fun _ hk => hk) trivial (Below.refl _ _) (Nat.le_refl _) (by simp) ?_; (case hd => rfl); (case hg => rfl); (case hr => first | (go_simp; done) | (go_simp; rfl)); (case hp => exact (Reps.c2 (show Kd.M k35 _ _ _ (⟨(⟨#[67, 114, 111, 115, 115, 45, 79, 114, 105, 103, 105, 110, 45, 79, 112, 101, 110, 101, 114, 45, 80, 111, 108, 105, 99, 121]⟩ : ByteArray), (⟨#[115, 97, 109, 101, 45, 111, 114, 105, 103, 105, 110, 59, 32, 114, 101, 112, 111, 114, 116, 45, 116, 111, 61, 34, 97, 34]⟩ : ByteArray)⟩ : S35) [.string (⟨#[67, 114, 111, 115, 115, 45, 79, 114, 105, 103, 105, 110, 45, 79, 112, 101, 110, 101, 114, 45, 80, 111, 108, 105, 99, 121]⟩ : ByteArray), .string (⟨#[115, 97, 109, 101, 45, 111, 114, 105, 103, 105, 110, 59, 32, 114, 101, 112, 111, 114, 116, 45, 116, 111, 61, 34, 97, 34]⟩ : ByteArray)] from (k35_mkM _ _ _ (⟨(⟨#[67, 114, 111, 115, 115, 45, 79, 114, 105, 103, 105, 110, 45, 79, 112, 101, 110, 101, 114, 45, 80, 111, 108, 105, 99, 121]⟩ : ByteArray), (⟨#[115, 97, 109, 101, 45, 111, 114, 105, 103, 105, 110, 59, 32, 114, 101, 112, 111, 114, 116, 45, 116, 111, 61, 34, 97, 34]⟩ : ByteArray)⟩ : S35) )) (Reps.c2 (show Kd.M k35 _ _ _ (⟨(⟨#[99, 114, 111, 115, 115, 45, 111, 114, 105, 103, 105, 110, 45, 101, 109, 98, 101, 100, 100, 101, 114, 45, 112, 111, 108, 105, 99, 121]⟩ : ByteArray), (⟨#[114, 101, 113, 117, 105, 114, 101, 45, 99, 111, 114, 112]⟩ : ByteArray)⟩ : S35) [.string (⟨#[99, 114, 111, 115, 115, 45, 111, 114, 105, 103, 105, 110, 45, 101, 109, 98, 101, 100, 100, 101, 114, 45, 112, 111, 108, 105, 99, 121]⟩ : ByteArray), .string (⟨#[114, 101, 113, 117, 105, 114, 101, 45, 99, 111, 114, 112]⟩ : ByteArray)] from (k35_mkM _ _ _ (⟨(⟨#[99, 114, 111, 115, 115, 45, 111, 114, 105, 103, 105, 110, 45, 101, 109, 98, 101, 100, 100, 101, 114, 45, 112, 111, 108, 105, 99, 121]⟩ : ByteArray), (⟨#[114, 101, 113, 117, 105, 114, 101, 45, 99, 111, 114, 112]⟩ : ByteArray)⟩ : S35) )) (Reps.none _ _)))); intro v126 w12 ho13 hb hg_ hnew_; clear hg_ hnew_; (first | rw [← Ny125.out] at ho13 | (simp only [Int.reduceToNat] at ho13; rw [← Ny125.out] at ho13)); have n0_ := Aside0.mk (Kd.R_lower ho13 (below_size (by repeat (first | (with_reducible first | exact HB.out | apply below_alloc | apply pw_below_drewN | apply below_drew1) | exact HB.out)))); have n1_ := Aside0.mk (below_step (by repeat (first | (with_reducible first | exact HB.out | apply below_alloc | apply pw_below_drewN | apply below_drew1) | exact HB.out)) hb); clear HB; have HO127 := n0_; have HB := n1_; clear n0_ n1_; clear hb ho13; obtain ⟨Ao14, co14, eo14⟩ := Kd.R_slice HO127.out; subst eo14) | ((with_reducible refine gate_callee (f := 10) rfl ?_); refine goesL_ (some 9) rfl rfl Tryz.func10 (by kernel_rfl) rfl #[.slice Ao14 y125.length co14, .bool true] rfl (by (try simp only [List.map_toArray, List.map_cons, List.map_nil]); first | done | rfl | (simp only [List.length_drop, List.length_take]; rfl)) ?_; (with_reducible refine (coop_Coop.calls _ _ y125 true 3 t129 0 t131 _ ?side1 ?side2 A1.out).mono ?_); (case side1 => repeat (first | exact (Kd.R_reads' HO127.out).2.2 | (with_reducible refine Kd.C_alloc ?_ _) | (with_reducible refine Kd.C_drewN ?_ _) | (with_reducible refine Kd.C_drew ?_))); (case side2 => exact (Kd.R_reads' HO127.out).2.1); rintro e w15 ⟨rfl, hb⟩; refine ⟨_, rfl, ?_⟩; have n0_ := Aside0.mk (Kd.R_below (by (with_reducible repeat (first | apply Kd.R_alloc | apply Kd.R_drewN | apply Kd.R_drew)); exact HO127.out) hb); have n1_ := Aside0.mk (below_step (by repeat (first | (with_reducible first | exact HB.out | apply below_alloc | apply pw_below_drewN | apply below_drew1) | exact HB.out)) hb); clear HO127; clear HB; have HO127 := n0_; have HB := n1_; clear n0_ n1_; (try clear hb); (try clear hb2); (try clear hk); (try clear hi)) | ((with_reducible refine gate_dst (N := 2) rfl ?_); (try (refine gate_guard (by rfl) ?_; dsimp only)); refine box_event ?hg (N := 2) ?hd (cs := #[.int .i64 0, .string (⟨#[]⟩ : ByteArray), .int .i64 0, .string (⟨#[]⟩ : ByteArray)]) (t := 28) ?hr ?_; (case hd => rfl); (case hg => rfl); (case hr => first | (go_simp; done) | (go_simp; rfl)); intro gb132 hg w16 hbox hb; have n0_ := Aside0.mk (Kd.R_below (by (with_reducible repeat (first | apply Kd.R_alloc | apply Kd.R_drewN | apply Kd.R_drew)); exact HO127.out) hb); have n1_ := Aside0.mk (below_step (by repeat (first | (with_reducible first | exact HB.out | apply below_alloc | apply pw_below_drewN | apply below_drew1) | exact HB.out)) hb); have n2_ := Aside0.mk (hbox); have n3_ := Aside0.mk ((by rw [hg]; exact (below_size (by repeat (first | (with_reducible first | exact HB.out | apply below_alloc | apply pw_below_drewN | apply below_drew1) | exact HB.out))) : w.heap.size ≤ gb132)); have n4_ := Aside0.mk ((by rw [hg]; exact (below_size (by repeat (first | (with_reducible first | exact HB.out | apply below_alloc | apply pw_below_drewN | apply below_drew1) | exact HB.out))) : w.heap.size ≤ gb132)); clear HO127; clear HB; have HO127 := n0_; have HB := n1_; have BK132 := n2_; have GW132 := n3_; have GE132 := n4_; clear n0_ n1_ n2_ n3_ n4_; clear hb hbox hg; have hcz17_0 : w16.cell? ⟨gb132, 0, none⟩ = some (.int .i64 0) := (blk_cell BK132.out 0).trans rfl; have hcz17_1 : w16.cell? ⟨gb132, 1, none⟩ = some (.string (⟨#[]⟩ : ByteArray)) := (blk_cell BK132.out 1).trans rfl; have hcz17_2 : w16.cell? ⟨gb132, 2, none⟩ = some (.int .i64 0) := (blk_cell BK132.out 2).trans rfl; have hcz17_3 : w16.cell? ⟨gb132, 3, none⟩ = some (.string (⟨#[]⟩ : ByteArray)) := (blk_cell BK132.out 3).trans rfl; have hfz17_0 := blk_frozen BK132.out 0; have hfz17_1 := blk_frozen BK132.out 1; have hfz17_2 := blk_frozen BK132.out 2; have hfz17_3 := blk_frozen BK132.out 3) | ((with_reducible refine gate_callee (f := 12) rfl ?_); refine goesL_ (some 11) rfl rfl Tryz.func12 (by kernel_rfl) rfl #[.slice Ao14 y125.length co14, .bool true] rfl (by (try simp only [List.map_toArray, List.map_cons, List.map_nil]); first | done | rfl | (simp only [List.length_drop, List.length_take]; rfl)) ?_; (with_reducible refine (coop_Coep.calls _ _ y125 true 2 t134 0 t136 _ ?side1 ?side2 A2.out).mono ?_); (case side1 => refine (Kd.R_reads' (e := 35) (base := w.heap.size) (ok := fun k_ => True) (n := y125.length) (c := co14) ?_).2.2; exact (by (with_reducible repeat (first | apply Kd.R_alloc | apply Kd.R_drewN | apply Kd.R_drew)); exact (Kd.R_mono (Kd.R_far (p := ⟨gb132, 3, none⟩) (Kd.R_far (p := ⟨gb132, 2, none⟩) (Kd.R_far (p := ⟨gb132, 1, none⟩) (Kd.R_far (p := ⟨gb132, 0, none⟩) (Kd.R_types HO127.out BK132.out (by decide)) (fun _ hk => hk.2) (.int .i64 3)) (fun _ hk => hk.2) (.string t129)) (fun _ hk => hk.2) (.int .i64 0)) (fun _ hk => hk.2) (.string t131)) (fun _ h_ => h_.1)))); (case side2 => exact (Kd.R_reads' HO127.out).2.1); rintro e w18 ⟨rfl, hb⟩; refine ⟨_, rfl, ?_⟩; have n0_ := Aside0.mk (Kd.R_below (by (with_reducible repeat (first | apply Kd.R_alloc | apply Kd.R_drewN | apply Kd.R_drew)); exact (Kd.R_mono (Kd.R_far (p := ⟨gb132, 3, none⟩) (Kd.R_far (p := ⟨gb132, 2, none⟩) (Kd.R_far (p := ⟨gb132, 1, none⟩) (Kd.R_far (p := ⟨gb132, 0, none⟩) (Kd.R_types HO127.out BK132.out (by decide)) (fun _ hk => hk.2) (.int .i64 3)) (fun _ hk => hk.2) (.string t129)) (fun _ hk => hk.2) (.int .i64 0)) (fun _ hk => hk.2) (.string t131)) (fun _ h_ => h_.1))) hb); have n1_ := Aside0.mk (blk_below (g := gb132) (o := .cells #[.int .i64 3, .string t129, .int .i64 0, .string t131] 28 (0, 0)) (by (with_reducible repeat (first | refine blk_drewN ?_ _ | refine blk_drew ?_ | refine blk_alloc ?_ _)); refine blk_put (cs := #[.int .i64 3, .string t129, .int .i64 0, .string (⟨#[]⟩ : ByteArray)]) ?_ 3 _ rfl; (with_reducible repeat (first | refine blk_drewN ?_ _ | refine blk_drew ?_ | refine blk_alloc ?_ _)); refine blk_put (cs := #[.int .i64 3, .string t129, .int .i64 0, .string (⟨#[]⟩ : ByteArray)]) ?_ 2 _ rfl; (with_reducible repeat (first | refine blk_drewN ?_ _ | refine blk_drew ?_ | refine blk_alloc ?_ _)); refine blk_put (cs := #[.int .i64 3, .string (⟨#[]⟩ : ByteArray), .int .i64 0, .string (⟨#[]⟩ : ByteArray)]) ?_ 1 _ rfl; (with_reducible repeat (first | refine blk_drewN ?_ _ | refine blk_drew ?_ | refine blk_alloc ?_ _)); refine blk_put (cs := #[.int .i64 0, .string (⟨#[]⟩ : ByteArray), .int .i64 0, .string (⟨#[]⟩ : ByteArray)]) ?_ 0 _ rfl; (with_reducible repeat (first | refine blk_drewN ?_ _ | refine blk_drew ?_ | refine blk_alloc ?_ _)); exact BK132.out) hb); have n2_ := Aside0.mk (below_step (by repeat (first | (with_reducible first | exact HB.out | apply below_alloc | apply pw_below_drewN | apply below_drew1 | refine below_set ?_ GE132.out) | exact HB.out)) hb); clear HO127; clear BK132; clear HB; have HO127 := n0_; have BK132 := n1_; have HB := n2_; clear n0_ n1_ n2_; (try clear hb); (try clear hb2); (try clear hk); (try clear hi)) | ((with_reducible refine gate_dst (N := 3) rfl ?_); (try (refine gate_guard (by rfl) ?_; dsimp only)); refine box_event ?hg (N := 3) ?hd (cs := #[.int .i64 0, .string (⟨#[]⟩ : ByteArray), .int .i64 0, .string (⟨#[]⟩ : ByteArray)]) (t := 30) ?hr ?_; (case hd => rfl); (case hg => rfl); (case hr => first | (go_simp; done) | (go_simp; rfl)); intro gb137 hg w19 hbox hb; have n0_ := Aside0.mk (Kd.R_below (by (with_reducible repeat (first | apply Kd.R_alloc | apply Kd.R_drewN | apply Kd.R_drew)); exact HO127.out) hb); have n1_ := Aside0.mk (blk_below (g := gb132) (o := .cells #[.int .i64 3, .string t129, .int .i64 0, .string t131] 28 (0, 0)) (by (with_reducible repeat (first | refine blk_drewN ?_ _ | refine blk_drew ?_ | refine blk_alloc ?_ _)); exact BK132.out) hb); have n2_ := Aside0.mk (below_step (by repeat (first | (with_reducible first | exact HB.out | apply below_alloc | apply pw_below_drewN | apply below_drew1 | refine below_set ?_ GE132.out) | exact HB.out)) hb); have n3_ := Aside0.mk (hbox); have n4_ := Aside0.mk ((by rw [hg]; exact (below_size (by repeat (first | (with_reducible first | exact HB.out | apply below_alloc | apply pw_below_drewN | apply below_drew1 | refine below_set ?_ GE132.out) | exact HB.out))) : w.heap.size ≤ gb137)); have n5_ := Aside0.mk ((by rw [hg]; exact (below_size (by repeat (first | (with_reducible first | exact HB.out | apply below_alloc | apply pw_below_drewN | apply below_drew1 | refine below_set ?_ GE132.out) | exact HB.out))) : w.heap.size ≤ gb137)); have n6_ := Aside0.mk ((by rw [hg]; exact Nat.ne_of_lt (blk_lt (g := gb132) (o := .cells #[.int .i64 3, .string t129, .int .i64 0, .string t131] 28 (0, 0)) (by (with_reducible repeat (first | refine blk_drewN ?_ _ | refine blk_drew ?_ | refine blk_alloc ?_ _)); exact BK132.out)) : gb132 ≠ gb137)); have n7_ := Aside0.mk ((by rw [hg]; exact Nat.ne_of_gt (blk_lt (g := gb132) (o := .cells #[.int .i64 3, .string t129, .int .i64 0, .string t131] 28 (0, 0)) (by (with_reducible repeat (first | refine blk_drewN ?_ _ | refine blk_drew ?_ | refine blk_alloc ?_ _)); exact BK132.out)) : gb137 ≠ gb132)); clear HO127; clear BK132; clear HB; have HO127 := n0_; have BK132 := n1_; have HB := n2_; have BK137 := n3_; have GW137 := n4_; have GE137 := n5_; have NB132_137 := n6_; have NB137_132 := n7_; clear n0_ n1_ n2_ n3_ n4_ n5_ n6_ n7_; clear hb hbox hg; have hnb20 := NB137_132.out; have hnc20 := NB132_137.out; have hcz21_0 : w19.cell? ⟨gb137, 0, none⟩ = some (.int .i64 0) := (blk_cell BK137.out 0).trans rfl; have hcz21_1 : w19.cell? ⟨gb137, 1, none⟩ = some (.string (⟨#[]⟩ : ByteArray)) := (blk_cell BK137.out 1).trans rfl; have hcz21_2 : w19.cell? ⟨gb137, 2, none⟩ = some (.int .i64 0) := (blk_cell BK137.out 2).trans rfl; have hcz21_3 : w19.cell? ⟨gb137, 3, none⟩ = some (.string (⟨#[]⟩ : ByteArray)) := (blk_cell BK137.out 3).trans rfl; have hfz21_0 := blk_frozen BK137.out 0; have hfz21_1 := blk_frozen BK137.out 1; have hfz21_2 := blk_frozen BK137.out 2; have hfz21_3 := blk_frozen BK137.out 3) | ((with_reducible refine gate_dst (N := 13) rfl ?_); (try (refine gate_guard (by rfl) ?_; dsimp only)); refine Kd.R_lit k35 _ 35 ?hg (N := 13) ?hd (xs := ([(⟨(⟨#[99, 114, 111, 115, 115, 45, 111, 114, 105, 103, 105, 110, 45, 111, 112, 101, 110, 101, 114, 45, 112, 111, 108, 105, 99, 121]⟩ : ByteArray), (⟨#[83, 97, 109, 101, 45, 79, 114, 105, 103, 105, 110]⟩ : ByteArray)⟩ : S35)] : List (S35))) (inner := [.string (⟨#[99, 114, 111, 115, 115, 45, 111, 114, 105, 103, 105, 110, 45, 111, 112, 101, 110, 101, 114, 45, 112, 111, 108, 105, 99, 121]⟩ : ByteArray), .string (⟨#[83, 97, 109, 101, 45, 79, 114, 105, 103, 105, 110]⟩ : ByteArray)]) (ok := fun _ => True) (okp := fun _ => True) ?hr ?hp (fun _ hk => hk) trivial (Below.refl _ _) (Nat.le_refl _) (by simp) ?_; (case hd => rfl); (case hg => rfl); (case hr => first | (go_simp; done) | (go_simp; rfl)); (case hp => exact (Reps.c2 (show Kd.M k35 _ _ _ (⟨(⟨#[99, 114, 111, 115, 115, 45, 111, 114, 105, 103, 105, 110, 45, 111, 112, 101, 110, 101, 114, 45, 112, 111, 108, 105, 99, 121]⟩ : ByteArray), (⟨#[83, 97, 109, 101, 45, 79, 114, 105, 103, 105, 110]⟩ : ByteArray)⟩ : S35) [.string (⟨#[99, 114, 111, 115, 115, 45, 111, 114, 105, 103, 105, 110, 45, 111, 112, 101, 110, 101, 114, 45, 112, 111, 108, 105, 99, 121]⟩ : ByteArray), .string (⟨#[83, 97, 109, 101, 45, 79, 114, 105, 103, 105, 110]⟩ : ByteArray)] from (k35_mkM _ _ _ (⟨(⟨#[99, 114, 111, 115, 115, 45, 111, 114, 105, 103, 105, 110, 45, 111, 112, 101, 110, 101, 114, 45, 112, 111, 108, 105, 99, 121]⟩ : ByteArray), (⟨#[83, 97, 109, 101, 45, 79, 114, 105, 103, 105, 110]⟩ : ByteArray)⟩ : S35) )) (Reps.none _ _))); intro v139 w22 ho23 hb hg_ hnew_; clear hg_ hnew_; (first | rw [← Ny138.out] at ho23 | (simp only [Int.reduceToNat] at ho23; rw [← Ny138.out] at ho23)); have n0_ := Aside0.mk (Kd.R_elder' (by (with_reducible repeat (first | apply Kd.R_alloc | apply Kd.R_drewN | apply Kd.R_drew)); exact (Kd.R_mono (Kd.R_far (p := ⟨gb137, 3, none⟩) (Kd.R_far (p := ⟨gb137, 2, none⟩) (Kd.R_far (p := ⟨gb137, 1, none⟩) (Kd.R_far (p := ⟨gb137, 0, none⟩) (Kd.R_types HO127.out BK137.out (by decide)) (fun _ hk => hk.2) (.int .i64 2)) (fun _ hk => hk.2) (.string t134)) (fun _ hk => hk.2) (.int .i64 0)) (fun _ hk => hk.2) (.string t136)) (fun _ h_ => h_.1))) (Kd.R_base ho23) hb); have n1_ := Aside0.mk (Kd.R_lower (Kd.R_new' ho23 (Kd.R_lt (by (with_reducible repeat (first | apply Kd.R_alloc | apply Kd.R_drewN | apply Kd.R_drew)); exact (Kd.R_mono (Kd.R_far (p := ⟨gb137, 3, none⟩) (Kd.R_far (p := ⟨gb137, 2, none⟩) (Kd.R_far (p := ⟨gb137, 1, none⟩) (Kd.R_far (p := ⟨gb137, 0, none⟩) (Kd.R_types HO127.out BK137.out (by decide)) (fun _ hk => hk.2) (.int .i64 2)) (fun _ hk => hk.2) (.string t134)) (fun _ hk => hk.2) (.int .i64 0)) (fun _ hk => hk.2) (.string t136)) (fun _ h_ => h_.1))))) (below_size (by repeat (first | (with_reducible first | exact HB.out | apply below_alloc | apply pw_below_drewN | apply below_drew1 | refine below_set ?_ GE132.out | refine below_set ?_ GE137.out) | exact HB.out)))); have n2_ := Aside0.mk (blk_below (g := gb132) (o := .cells #[.int .i64 3, .string t129, .int .i64 0, .string t131] 28 (0, 0)) (by (with_reducible repeat (first | refine blk_drewN ?_ _ | refine blk_drew ?_ | refine blk_alloc ?_ _)); refine blk_far ?_ NB132_137.out _; (with_reducible repeat (first | refine blk_drewN ?_ _ | refine blk_drew ?_ | refine blk_alloc ?_ _)); refine blk_far ?_ NB132_137.out _; (with_reducible repeat (first | refine blk_drewN ?_ _ | refine blk_drew ?_ | refine blk_alloc ?_ _)); refine blk_far ?_ NB132_137.out _; (with_reducible repeat (first | refine blk_drewN ?_ _ | refine blk_drew ?_ | refine blk_alloc ?_ _)); refine blk_far ?_ NB132_137.out _; (with_reducible repeat (first | refine blk_drewN ?_ _ | refine blk_drew ?_ | refine blk_alloc ?_ _)); exact BK132.out) hb); have n3_ := Aside0.mk (blk_below (g := gb137) (o := .cells #[.int .i64 2, .string t134, .int .i64 0, .string t136] 30 (0, 0)) (by (with_reducible repeat (first | refine blk_drewN ?_ _ | refine blk_drew ?_ | refine blk_alloc ?_ _)); refine blk_put (cs := #[.int .i64 2, .string t134, .int .i64 0, .string (⟨#[]⟩ : ByteArray)]) ?_ 3 _ rfl; (with_reducible repeat (first | refine blk_drewN ?_ _ | refine blk_drew ?_ | refine blk_alloc ?_ _)); refine blk_put (cs := #[.int .i64 2, .string t134, .int .i64 0, .string (⟨#[]⟩ : ByteArray)]) ?_ 2 _ rfl; (with_reducible repeat (first | refine blk_drewN ?_ _ | refine blk_drew ?_ | refine blk_alloc ?_ _)); refine blk_put (cs := #[.int .i64 2, .string (⟨#[]⟩ : ByteArray), .int .i64 0, .string (⟨#[]⟩ : ByteArray)]) ?_ 1 _ rfl; (with_reducible repeat (first | refine blk_drewN ?_ _ | refine blk_drew ?_ | refine blk_alloc ?_ _)); refine blk_put (cs := #[.int .i64 0, .string (⟨#[]⟩ : ByteArray), .int .i64 0, .string (⟨#[]⟩ : ByteArray)]) ?_ 0 _ rfl; (with_reducible repeat (first | refine blk_drewN ?_ _ | refine blk_drew ?_ | refine blk_alloc ?_ _)); exact BK137.out) hb); have n4_ := Aside0.mk (below_step (by repeat (first | (with_reducible first | exact HB.out | apply below_alloc | apply pw_below_drewN | apply below_drew1 | refine below_set ?_ GE132.out | refine below_set ?_ GE137.out) | exact HB.out)) hb); clear HO127; clear BK132; clear BK137; clear HB; have HO127 := n0_; have HO140 := n1_; have BK132 := n2_; have BK137 := n3_; have HB := n4_; clear n0_ n1_ n2_ n3_ n4_; clear hb ho23; obtain ⟨Ao24, co24, eo24⟩ := Kd.R_slice HO140.out; subst eo24) | ((with_reducible refine gate_callee (f := 10) rfl ?_); refine goesL_ (some 14) rfl rfl Tryz.func10 (by kernel_rfl) rfl #[.slice Ao24 y138.length co24, .bool true] rfl (by (try simp only [List.map_toArray, List.map_cons, List.map_nil]); first | done | rfl | (simp only [List.length_drop, List.length_take]; rfl)) ?_; (with_reducible refine (coop_Coop.calls _ _ y138 true 0 t142 0 t144 _ ?side1 ?side2 A3.out).mono ?_); (case side1 => repeat (first | exact (Kd.R_reads' HO140.out).2.2 | (with_reducible refine Kd.C_alloc ?_ _) | (with_reducible refine Kd.C_drewN ?_ _) | (with_reducible refine Kd.C_drew ?_))); (case side2 => exact (Kd.R_reads' HO140.out).2.1); rintro e w25 ⟨rfl, hb⟩; refine ⟨_, rfl, ?_⟩; have n0_ := Aside0.mk (Kd.R_below (by (with_reducible repeat (first | apply Kd.R_alloc | apply Kd.R_drewN | apply Kd.R_drew)); exact HO127.out) hb); have n1_ := Aside0.mk (Kd.R_below (by (with_reducible repeat (first | apply Kd.R_alloc | apply Kd.R_drewN | apply Kd.R_drew)); exact HO140.out) hb); have n2_ := Aside0.mk (blk_below (g := gb132) (o := .cells #[.int .i64 3, .string t129, .int .i64 0, .string t131] 28 (0, 0)) (by (with_reducible repeat (first | refine blk_drewN ?_ _ | refine blk_drew ?_ | refine blk_alloc ?_ _)); exact BK132.out) hb); have n3_ := Aside0.mk (blk_below (g := gb137) (o := .cells #[.int .i64 2, .string t134, .int .i64 0, .string t136] 30 (0, 0)) (by (with_reducible repeat (first | refine blk_drewN ?_ _ | refine blk_drew ?_ | refine blk_alloc ?_ _)); exact BK137.out) hb); have n4_ := Aside0.mk (below_step (by repeat (first | (with_reducible first | exact HB.out | apply below_alloc | apply pw_below_drewN | apply below_drew1 | refine below_set ?_ GE132.out | refine below_set ?_ GE137.out) | exact HB.out)) hb); clear HO127; clear HO140; clear BK132; clear BK137; clear HB; have HO127 := n0_; have HO140 := n1_; have BK132 := n2_; have BK137 := n3_; have HB := n4_; clear n0_ n1_ n2_ n3_ n4_; (try clear hb); (try clear hb2); (try clear hk); (try clear hi)) | ((with_reducible refine gate_dst (N := 4) rfl ?_); (try (refine gate_guard (by rfl) ?_; dsimp only)); refine box_event ?hg (N := 4) ?hd (cs := #[.int .i64 0, .string (⟨#[]⟩ : ByteArray), .int .i64 0, .string (⟨#[]⟩ : ByteArray)]) (t := 28) ?hr ?_; (case hd => rfl); (case hg => rfl); (case hr => first | (go_simp; done) | (go_simp; rfl)); intro gb145 hg w26 hbox hb; have n0_ := Aside0.mk (Kd.R_below (by (with_reducible repeat (first | apply Kd.R_alloc | apply Kd.R_drewN | apply Kd.R_drew)); exact HO127.out) hb); have n1_ := Aside0.mk (Kd.R_below (by (with_reducible repeat (first | apply Kd.R_alloc | apply Kd.R_drewN | apply Kd.R_drew)); exact HO140.out) hb); have n2_ := Aside0.mk (blk_below (g := gb132) (o := .cells #[.int .i64 3, .string t129, .int .i64 0, .string t131] 28 (0, 0)) (by (with_reducible repeat (first | refine blk_drewN ?_ _ | refine blk_drew ?_ | refine blk_alloc ?_ _)); exact BK132.out) hb); have n3_ := Aside0.mk (blk_below (g := gb137) (o := .cells #[.int .i64 2, .string t134, .int .i64 0, .string t136] 30 (0, 0)) (by (with_reducible repeat (first | refine blk_drewN ?_ _ | refine blk_drew ?_ | refine blk_alloc ?_ _)); exact BK137.out) hb); have n4_ := Aside0.mk (below_step (by repeat (first | (with_reducible first | exact HB.out | apply below_alloc | apply pw_below_drewN | apply below_drew1 | refine below_set ?_ GE132.out | refine below_set ?_ GE137.out) | exact HB.out)) hb); have n5_ := Aside0.mk (hbox); have n6_ := Aside0.mk ((by rw [hg]; exact (below_size (by repeat (first | (with_reducible first | exact HB.out | apply below_alloc | apply pw_below_drewN | apply below_drew1 | refine below_set ?_ GE132.out | refine below_set ?_ GE137.out) | exact HB.out))) : w.heap.size ≤ gb145)); have n7_ := Aside0.mk ((by rw [hg]; exact (below_size (by repeat (first | (with_reducible first | exact HB.out | apply below_alloc | apply pw_below_drewN | apply below_drew1 | refine below_set ?_ GE132.out | refine below_set ?_ GE137.out) | exact HB.out))) : w.heap.size ≤ gb145)); have n8_ := Aside0.mk ((by rw [hg]; exact Nat.ne_of_lt (blk_lt (g := gb132) (o := .cells #[.int .i64 3, .string t129, .int .i64 0, .string t131] 28 (0, 0)) (by (with_reducible repeat (first | refine blk_drewN ?_ _ | refine blk_drew ?_ | refine blk_alloc ?_ _)); exact BK132.out)) : gb132 ≠ gb145)); have n9_ := Aside0.mk ((by rw [hg]; exact Nat.ne_of_gt (blk_lt (g := gb132) (o := .cells #[.int .i64 3, .string t129, .int .i64 0, .string t131] 28 (0, 0)) (by (with_reducible repeat (first | refine blk_drewN ?_ _ | refine blk_drew ?_ | refine blk_alloc ?_ _)); exact BK132.out)) : gb145 ≠ gb132)); have n10_ := Aside0.mk ((by rw [hg]; exact Nat.ne_of_lt (blk_lt (g := gb137) (o := .cells #[.int .i64 2, .string t134, .int .i64 0, .string t136] 30 (0, 0)) (by (with_reducible repeat (first | refine blk_drewN ?_ _ | refine blk_drew ?_ | refine blk_alloc ?_ _)); exact BK137.out)) : gb137 ≠ gb145)); have n11_ := Aside0.mk ((by rw [hg]; exact Nat.ne_of_gt (blk_lt (g := gb137) (o := .cells #[.int .i64 2, .string t134, .int .i64 0, .string t136] 30 (0, 0)) (by (with_reducible repeat (first | refine blk_drewN ?_ _ | refine blk_drew ?_ | refine blk_alloc ?_ _)); exact BK137.out)) : gb145 ≠ gb137)); clear HO127; clear HO140; clear BK132; clear BK137; clear HB; have HO127 := n0_; have HO140 := n1_; have BK132 := n2_; have BK137 := n3_; have HB := n4_; have BK145 := n5_; have GW145 := n6_; have GE145 := n7_; have NB132_145 := n8_; have NB145_132 := n9_; have NB137_145 := n10_; have NB145_137 := n11_; clear n0_ n1_ n2_ n3_ n4_ n5_ n6_ n7_ n8_ n9_ n10_ n11_; clear hb hbox hg; have hnb27 := NB145_132.out; have hnc27 := NB132_145.out; have hnb28 := NB145_137.out; have hnc28 := NB137_145.out; have hcz29_0 : w26.cell? ⟨gb145, 0, none⟩ = some (.int .i64 0) := (blk_cell BK145.out 0).trans rfl; have hcz29_1 : w26.cell? ⟨gb145, 1, none⟩ = some (.string (⟨#[]⟩ : ByteArray)) := (blk_cell BK145.out 1).trans rfl; have hcz29_2 : w26.cell? ⟨gb145, 2, none⟩ = some (.int .i64 0) := (blk_cell BK145.out 2).trans rfl; have hcz29_3 : w26.cell? ⟨gb145, 3, none⟩ = some (.string (⟨#[]⟩ : ByteArray)) := (blk_cell BK145.out 3).trans rfl; have hfz29_0 := blk_frozen BK145.out 0; have hfz29_1 := blk_frozen BK145.out 1; have hfz29_2 := blk_frozen BK145.out 2; have hfz29_3 := blk_frozen BK145.out 3; have hcz30_0 : w26.cell? ⟨gb132, 0, none⟩ = some (.int .i64 3) := (blk_cell BK132.out 0).trans rfl; have hcz30_1 : w26.cell? ⟨gb132, 1, none⟩ = some (.string t129) := (blk_cell BK132.out 1).trans rfl; have hcz30_2 : w26.cell? ⟨gb132, 2, none⟩ = some (.int .i64 0) := (blk_cell BK132.out 2).trans rfl; have hcz30_3 : w26.cell? ⟨gb132, 3, none⟩ = some (.string t131) := (blk_cell BK132.out 3).trans rfl; have hfz30_0 := blk_frozen BK132.out 0; have hfz30_1 := blk_frozen BK132.out 1; have hfz30_2 := blk_frozen BK132.out 2; have hfz30_3 := blk_frozen BK132.out 3; have hcz31_0 : w26.cell? ⟨gb137, 0, none⟩ = some (.int .i64 2) := (blk_cell BK137.out 0).trans rfl; have hcz31_1 : w26.cell? ⟨gb137, 1, none⟩ = some (.string t134) := (blk_cell BK137.out 1).trans rfl; have hcz31_2 : w26.cell? ⟨gb137, 2, none⟩ = some (.int .i64 0) := (blk_cell BK137.out 2).trans rfl; have hcz31_3 : w26.cell? ⟨gb137, 3, none⟩ = some (.string t136) := (blk_cell BK137.out 3).trans rfl; have hfz31_0 := blk_frozen BK137.out 0; have hfz31_1 := blk_frozen BK137.out 1; have hfz31_2 := blk_frozen BK137.out 2; have hfz31_3 := blk_frozen BK137.out 3) | (go_at_call 10; (with_reducible refine (coop_Coop.calls _ _ y125 false 0 t147 0 t149 _ ?side1 ?side2 A7.out).mono ?_); (case side1 => refine (Kd.R_reads' (e := 35) (base := w.heap.size) (ok := fun k_ => (True ∧ some k_ ≠ (.slice Ao24 y138.length co24 : Value).ownBlock)) (n := y125.length) (c := co14) ?_).2.2; exact (by (with_reducible repeat (first | apply Kd.R_alloc | apply Kd.R_drewN | apply Kd.R_drew)); exact (Kd.R_mono (Kd.R_far (p := ⟨gb145, 3, none⟩) (Kd.R_far (p := ⟨gb145, 2, none⟩) (Kd.R_far (p := ⟨gb145, 1, none⟩) (Kd.R_far (p := ⟨gb145, 0, none⟩) (Kd.R_types HO127.out BK145.out (by decide)) (fun _ hk => hk.2) (.int .i64 0)) (fun _ hk => hk.2) (.string t142)) (fun _ hk => hk.2) (.int .i64 0)) (fun _ hk => hk.2) (.string t144)) (fun _ h_ => h_.1)))); (case side2 => exact (Kd.R_reads' HO127.out).2.1); rintro e w32 ⟨rfl, hb⟩; have n0_ := Aside0.mk (Kd.R_below (by (with_reducible repeat (first | apply Kd.R_alloc | apply Kd.R_drewN | apply Kd.R_drew)); exact (Kd.R_mono (Kd.R_far (p := ⟨gb145, 3, none⟩) (Kd.R_far (p := ⟨gb145, 2, none⟩) (Kd.R_far (p := ⟨gb145, 1, none⟩) (Kd.R_far (p := ⟨gb145, 0, none⟩) (Kd.R_types HO127.out BK145.out (by decide)) (fun _ hk => hk.2) (.int .i64 0)) (fun _ hk => hk.2) (.string t142)) (fun _ hk => hk.2) (.int .i64 0)) (fun _ hk => hk.2) (.string t144)) (fun _ h_ => h_.1))) hb); have n1_ := Aside0.mk (Kd.R_below (by (with_reducible repeat (first | apply Kd.R_alloc | apply Kd.R_drewN | apply Kd.R_drew)); exact (Kd.R_mono (Kd.R_far (p := ⟨gb145, 3, none⟩) (Kd.R_far (p := ⟨gb145, 2, none⟩) (Kd.R_far (p := ⟨gb145, 1, none⟩) (Kd.R_far (p := ⟨gb145, 0, none⟩) (Kd.R_types HO140.out BK145.out (by decide)) (fun _ hk => hk.2) (.int .i64 0)) (fun _ hk => hk.2) (.string t142)) (fun _ hk => hk.2) (.int .i64 0)) (fun _ hk => hk.2) (.string t144)) (fun _ h_ => h_.1))) hb); have n2_ := Aside0.mk (blk_below (g := gb132) (o := .cells #[.int .i64 3, .string t129, .int .i64 0, .string t131] 28 (0, 0)) (by (with_reducible repeat (first | refine blk_drewN ?_ _ | refine blk_drew ?_ | refine blk_alloc ?_ _)); refine blk_far ?_ NB132_145.out _; (with_reducible repeat (first | refine blk_drewN ?_ _ | refine blk_drew ?_ | refine blk_alloc ?_ _)); refine blk_far ?_ NB132_145.out _; (with_reducible repeat (first | refine blk_drewN ?_ _ | refine blk_drew ?_ | refine blk_alloc ?_ _)); refine blk_far ?_ NB132_145.out _; (with_reducible repeat (first | refine blk_drewN ?_ _ | refine blk_drew ?_ | refine blk_alloc ?_ _)); refine blk_far ?_ NB132_145.out _; (with_reducible repeat (first | refine blk_drewN ?_ _ | refine blk_drew ?_ | refine blk_alloc ?_ _)); exact BK132.out) hb); have n3_ := Aside0.mk (blk_below (g := gb137) (o := .cells #[.int .i64 2, .string t134, .int .i64 0, .string t136] 30 (0, 0)) (by (with_reducible repeat (first | refine blk_drewN ?_ _ | refine blk_drew ?_ | refine blk_alloc ?_ _)); refine blk_far ?_ NB137_145.out _; (with_reducible repeat (first | refine blk_drewN ?_ _ | refine blk_drew ?_ | refine blk_alloc ?_ _)); refine blk_far ?_ NB137_145.out _; (with_reducible repeat (first | refine blk_drewN ?_ _ | refine blk_drew ?_ | refine blk_alloc ?_ _)); refine blk_far ?_ NB137_145.out _; (with_reducible repeat (first | refine blk_drewN ?_ _ | refine blk_drew ?_ | refine blk_alloc ?_ _)); refine blk_far ?_ NB137_145.out _; (with_reducible repeat (first | refine blk_drewN ?_ _ | refine blk_drew ?_ | refine blk_alloc ?_ _)); exact BK137.out) hb); have n4_ := Aside0.mk (blk_below (g := gb145) (o := .cells #[.int .i64 0, .string t142, .int .i64 0, .string t144] 28 (0, 0)) (by (with_reducible repeat (first | refine blk_drewN ?_ _ | refine blk_drew ?_ | refine blk_alloc ?_ _)); refine blk_put (cs := #[.int .i64 0, .string t142, .int .i64 0, .string (⟨#[]⟩ : ByteArray)]) ?_ 3 _ rfl; (with_reducible repeat (first | refine blk_drewN ?_ _ | refine blk_drew ?_ | refine blk_alloc ?_ _)); refine blk_put (cs := #[.int .i64 0, .string t142, .int .i64 0, .string (⟨#[]⟩ : ByteArray)]) ?_ 2 _ rfl; (with_reducible repeat (first | refine blk_drewN ?_ _ | refine blk_drew ?_ | refine blk_alloc ?_ _)); refine blk_put (cs := #[.int .i64 0, .string (⟨#[]⟩ : ByteArray), .int .i64 0, .string (⟨#[]⟩ : ByteArray)]) ?_ 1 _ rfl; (with_reducible repeat (first | refine blk_drewN ?_ _ | refine blk_drew ?_ | refine blk_alloc ?_ _)); refine blk_put (cs := #[.int .i64 0, .string (⟨#[]⟩ : ByteArray), .int .i64 0, .string (⟨#[]⟩ : ByteArray)]) ?_ 0 _ rfl; (with_reducible repeat (first | refine blk_drewN ?_ _ | refine blk_drew ?_ | refine blk_alloc ?_ _)); exact BK145.out) hb); have n5_ := Aside0.mk (below_step (by repeat (first | (with_reducible first | exact HB.out | apply below_alloc | apply pw_below_drewN | apply below_drew1 | refine below_set ?_ GE132.out | refine below_set ?_ GE137.out | refine below_set ?_ GE145.out) | exact HB.out)) hb); clear HO127; clear HO140; clear BK132; clear BK137; clear BK145; clear HB; have HO127 := n0_; have HO140 := n1_; have BK132 := n2_; have BK137 := n3_; have BK145 := n4_; have HB := n5_; clear n0_ n1_ n2_ n3_ n4_ n5_; (try clear hb); (try clear hb2); (try clear hk); (try clear hi)) | (go_at_call 14; (with_reducible refine (coop_Isolates.calls 1 true _ A9.out).mono ?_); rintro e w' ⟨rfl, ⟨nd, rfl⟩⟩) | (go_at_call 8; (with_reducible refine (coop_Plain.calls k _ _ y125 t151 _ ?side1 ?side2 A11.out).mono ?_); (case side1 => repeat (first | exact (Kd.R_reads' HO127.out).2.2 | (with_reducible refine Kd.C_alloc ?_ _) | (with_reducible refine Kd.C_drewN ?_ _) | (with_reducible refine Kd.C_drew ?_))); (case side2 => exact (Kd.R_reads' HO127.out).2.1); rintro e w33 ⟨v152, rfl, ho0, hb⟩; have n0_ := Aside0.mk (Kd.R_elder' (by (with_reducible repeat (first | apply Kd.R_alloc | apply Kd.R_drewN | apply Kd.R_drew)); exact HO127.out) (Kd.R_base ho0) hb); have n1_ := Aside0.mk (Kd.R_elder' (by (with_reducible repeat (first | apply Kd.R_alloc | apply Kd.R_drewN | apply Kd.R_drew)); exact HO140.out) (Kd.R_base ho0) hb); have n2_ := Aside0.mk (Kd.R_lower (Kd.R_new' (Kd.R_new' ho0 (Kd.R_lt (by (with_reducible repeat (first | apply Kd.R_alloc | apply Kd.R_drewN | apply Kd.R_drew)); exact HO127.out))) (Kd.R_lt (by (with_reducible repeat (first | apply Kd.R_alloc | apply Kd.R_drewN | apply Kd.R_drew)); exact HO140.out))) (below_size (by repeat (first | (with_reducible first | exact HB.out | apply below_alloc | apply pw_below_drewN | apply below_drew1 | refine below_set ?_ GE132.out | refine below_set ?_ GE137.out | refine below_set ?_ GE145.out) | exact HB.out)))); have n3_ := Aside0.mk (blk_below (g := gb132) (o := .cells #[.int .i64 3, .string t129, .int .i64 0, .string t131] 28 (0, 0)) (by (with_reducible repeat (first | refine blk_drewN ?_ _ | refine blk_drew ?_ | refine blk_alloc ?_ _)); exact BK132.out) hb); have n4_ := Aside0.mk (blk_below (g := gb137) (o := .cells #[.int .i64 2, .string t134, .int .i64 0, .string t136] 30 (0, 0)) (by (with_reducible repeat (first | refine blk_drewN ?_ _ | refine blk_drew ?_ | refine blk_alloc ?_ _)); exact BK137.out) hb); have n5_ := Aside0.mk (blk_below (g := gb145) (o := .cells #[.int .i64 0, .string t142, .int .i64 0, .string t144] 28 (0, 0)) (by (with_reducible repeat (first | refine blk_drewN ?_ _ | refine blk_drew ?_ | refine blk_alloc ?_ _)); exact BK145.out) hb); have n6_ := Aside0.mk (below_step (by repeat (first | (with_reducible first | exact HB.out | apply below_alloc | apply pw_below_drewN | apply below_drew1 | refine below_set ?_ GE132.out | refine below_set ?_ GE137.out | refine below_set ?_ GE145.out) | exact HB.out)) hb); clear HO127; clear HO140; clear BK132; clear BK137; clear BK145; clear HB; have HO127 := n0_; have HO140 := n1_; have HO153 := n2_; have BK132 := n3_; have BK137 := n4_; have BK145 := n5_; have HB := n6_; clear n0_ n1_ n2_ n3_ n4_ n5_ n6_; (try clear hb); (try clear hb2); (try clear hk); (try clear hi); (try clear ho0); obtain ⟨Ao34, co34, eo34⟩ := Kd.R_slice HO153.out; subst eo34))
            go_ret
            exact ⟨by first | rfl | (simp [errW_none, errW_some] <;> rfl) | (simp [*, errW_none, errW_some] <;> rfl) | (simp [q_ne_nil]; done), by repeat (first | (with_reducible first | exact HB.out | apply below_alloc | apply pw_below_drewN | apply below_drew1 | refine below_set ?_ GE132.out | refine below_set ?_ GE137.out | refine below_set ?_ GE145.out) | exact HB.out)⟩
          · exact absurd H (by rw [if_neg c10]; simp)
        · exact absurd H (by rw [if_neg c8]; simp)
      · exact absurd H (by rw [if_neg c6]; simp)
    · exact absurd H (by rw [if_neg c5]; simp)
  · exact absurd H (by rw [if_neg c4]; simp)
end Go.Proofs.YtciigmlibnpeeaaGreatDoor.Q
namespace Go.Proofs.YtciigmlibnpeeaaGreatDoor.Q
open Go.RowKit Go.Proofs.YtciigmlibnpeeaaGreatDoorW.PrintWords Go.Proofs.YtciigmlibnpeeaaGreatDoorW.PrintLast Go.Proofs.YtciigmlibnpeeaaGreatDoorW.PrintMore
set_option linter.unusedVariables false
set_option linter.unusedSimpArgs false
theorem eqA35 (d : Nat) (w : World) (x0 y0 : ByteArray) (x1 y1 : ByteArray) :
    (Op.equalIn (d + 2) 35 (.agg #[.string x0, .string x1]) (.agg #[.string y0, .string y1])).run Tryz.prog w = .ok (x0.toList == y0.toList && (x1.toList == y1.toList)) w := by
  refine eqA_of Tryz.underlying35 (by kernel_rfl) ?_
  refine eqf_cons (by rfl) (by go_simp; rfl) (by go_simp; rfl) (by go_simp) ?_
  exact eqf_last (by rfl) (by go_simp; rfl) (by go_simp; rfl) (by go_simp)
end Go.Proofs.YtciigmlibnpeeaaGreatDoor.Q
namespace Go.Proofs.YtciigmlibnpeeaaGreatDoor.Q
open Go.RowKit Go.Proofs.YtciigmlibnpeeaaGreatDoorW.PrintWords Go.Proofs.YtciigmlibnpeeaaGreatDoorW.PrintLast Go.Proofs.YtciigmlibnpeeaaGreatDoorW.PrintMore
set_option linter.unusedVariables false
set_option linter.unusedSimpArgs false
attribute [local go_sem high] eqA35
def glacislaw08_Few.l0 : Nat → List (S35) → Int → Option (Bool)
  | 0, _, _ => none
  | k + 1, x0, x3 => if x3 < (x0.length : Int) then (if 0 ≤ x3 then (if (((rd_T35 x0 x3).f0).size : Int) > 200 then (some false) else (if (((rd_T35 x0 x3).f1).size : Int) > 4000 then (some false) else (glacislaw08_Few.l0 k x0 (wrap64 (x3 + 1))))) else (none)) else (some true)
def glacislaw08_Few.f (k : Nat) (l0 : List (S35)) : Option (Bool) := if (l0.length : Int) > 100 then (some false) else (glacislaw08_Few.l0 k l0 0)
set_option maxHeartbeats 8000000 in
set_option maxRecDepth 100000 in
theorem glacislaw08_Few.calls (k : Nat) (A0 : Option Addr) (c0 : Nat) (l0 : List (S35)) (r : Bool) (w : World) (hr0 : Kd.C k35 w A0 l0.length l0) (hc0 : l0.length ≤ c0) (h : glacislaw08_Few.f k l0 = some r) :
    Calls Tryz.prog 6 #[.slice A0 l0.length c0] w fun e w' => e = .returned (.bool r) ∧ Drawn0 w w' := by
  have HR0 := Aside0.mk hr0
  have HC0 := Aside0.mk hc0
  clear hr0 hc0
  have H : (if (l0.length : Int) > 100 then (some false) else (glacislaw08_Few.l0 k l0 0)) = some r := h
  clear h
  by_cases c2 : (l0.length : Int) > 100
  · rw [if_pos c2] at H
    have c2b0 : decide (100 < (l0.length : Int)) = true := decide_eq_true c2
    have c2b1 : decide (100 < l0.length) = true := decide_eq_true (by omega)
    clear c2
    obtain rfl := Option.some.inj H
    go_enter Tryz.func6, Tryz.ntmps6
    go_wp2
    go_ret
    exact ⟨by first | rfl | (simp; done) | (simp [*]; done) | (simp [q_ne_nil]; done), by repeat (first | exact Drawn0.refl _ | apply Drawn0.step)⟩
  · rw [if_neg c2] at H
    have c2b0 : decide (100 < (l0.length : Int)) = false := decide_eq_false c2
    have c2b1 : decide (100 < l0.length) = false := decide_eq_false (by omega)
    clear c2
    have H' := Aside0.mk H
    clear H
    go_enter Tryz.func6, Tryz.ntmps6
    go_wp2
    go_loopg [3] k (fun kq v3 w' => ∃ (x3_1 : Int), v3 = .int .i64 x3_1 ∧ Aside0 (glacislaw08_Few.l0 kq l0 x3_1 = some r) ∧ Aside0 (kq ≤ k) ∧ Drawn0 w w')
    case atStart => exact ⟨(0), (by first | rfl | (simp; done) | (simp [*]; done) | (simp [q_ne_nil]; done)), H', ⟨Nat.le_refl _⟩, by repeat (first | exact Drawn0.refl _ | apply Drawn0.step)⟩
    case round =>
      clear H'
      try clear c2
      try clear c2b0
      try clear c2b1
      try clear p2
      obtain ⟨x3_1, rfl, HA, HK1, ⟨m1, rfl⟩⟩ := hrel
      cases gk with
      | zero => exact absurd HA.out (by simp [glacislaw08_Few.l0])
      | succ k1 =>
        have H := HA.out
        clear HA
        simp only [glacislaw08_Few.l0] at H
        by_cases c3 : x3_1 < (l0.length : Int)
        · rw [if_pos c3] at H
          have c3b0 : decide (x3_1 < (l0.length : Int)) = true := decide_eq_true c3
          clear c3
          by_cases c4 : 0 ≤ x3_1
          · rw [if_pos c4] at H
            have c4b0 : decide (0 ≤ x3_1) = true := decide_eq_true c4
            clear c4
            by_cases c5 : (((rd_T35 l0 x3_1).f0).size : Int) > 200
            · rw [if_pos c5] at H
              have c5b0 : decide (200 < (((rd_T35 l0 x3_1).f0).size : Int)) = true := decide_eq_true c5
              have c5b1 : decide (200 < ((rd_T35 l0 x3_1).f0).size) = true := decide_eq_true (by omega)
              clear c5
              obtain rfl := Option.some.inj H
              have p154 : 0 ≤ (x3_1 : Int) := of_decide_eq_true (by first | (with_reducible assumption) | assumption)
              have q154 : x3_1 < (l0.length : Int) := of_decide_eq_true (by first | (with_reducible assumption) | assumption)
              obtain ⟨ad154, e154, hx154_0, hx154_1⟩ := at_T35 HR0.out x3_1 p154 q154
              cases e154
              replace p154 := eq_true p154
              replace q154 := eq_true q154
              go_wp2
              go_ret
              exact ⟨by first | rfl | (simp; done) | (simp [*]; done) | (simp [q_ne_nil]; done), by repeat (first | exact Drawn0.refl _ | apply Drawn0.step)⟩
            · rw [if_neg c5] at H
              have c5b0 : decide (200 < (((rd_T35 l0 x3_1).f0).size : Int)) = false := decide_eq_false c5
              have c5b1 : decide (200 < ((rd_T35 l0 x3_1).f0).size) = false := decide_eq_false (by omega)
              clear c5
              by_cases c6 : (((rd_T35 l0 x3_1).f1).size : Int) > 4000
              · rw [if_pos c6] at H
                have c6b0 : decide (4000 < (((rd_T35 l0 x3_1).f1).size : Int)) = true := decide_eq_true c6
                have c6b1 : decide (4000 < ((rd_T35 l0 x3_1).f1).size) = true := decide_eq_true (by omega)
                clear c6
                obtain rfl := Option.some.inj H
                have p154 : 0 ≤ (x3_1 : Int) := of_decide_eq_true (by first | (with_reducible assumption) | assumption)
                have q154 : x3_1 < (l0.length : Int) := of_decide_eq_true (by first | (with_reducible assumption) | assumption)
                obtain ⟨ad154, e154, hx154_0, hx154_1⟩ := at_T35 HR0.out x3_1 p154 q154
                cases e154
                replace p154 := eq_true p154
                replace q154 := eq_true q154
                have p155 : 0 ≤ (x3_1 : Int) := of_decide_eq_true (by first | (with_reducible assumption) | assumption)
                have q155 : x3_1 < (l0.length : Int) := of_decide_eq_true (by first | (with_reducible assumption) | assumption)
                obtain ⟨ad155, e155, hx155_0, hx155_1⟩ := at_T35 HR0.out x3_1 p155 q155
                obtain rfl : ad154 = ad155 := (by injection e155)
                replace p155 := eq_true p155
                replace q155 := eq_true q155
                go_wp2
                go_ret
                exact ⟨by first | rfl | (simp; done) | (simp [*]; done) | (simp [q_ne_nil]; done), by repeat (first | exact Drawn0.refl _ | apply Drawn0.step)⟩
              · rw [if_neg c6] at H
                have c6b0 : decide (4000 < (((rd_T35 l0 x3_1).f1).size : Int)) = false := decide_eq_false c6
                have c6b1 : decide (4000 < ((rd_T35 l0 x3_1).f1).size) = false := decide_eq_false (by omega)
                clear c6
                have H' := Aside0.mk H
                clear H
                have p154 : 0 ≤ (x3_1 : Int) := of_decide_eq_true (by first | (with_reducible assumption) | assumption)
                have q154 : x3_1 < (l0.length : Int) := of_decide_eq_true (by first | (with_reducible assumption) | assumption)
                obtain ⟨ad154, e154, hx154_0, hx154_1⟩ := at_T35 HR0.out x3_1 p154 q154
                cases e154
                replace p154 := eq_true p154
                replace q154 := eq_true q154
                have p155 : 0 ≤ (x3_1 : Int) := of_decide_eq_true (by first | (with_reducible assumption) | assumption)
                have q155 : x3_1 < (l0.length : Int) := of_decide_eq_true (by first | (with_reducible assumption) | assumption)
                obtain ⟨ad155, e155, hx155_0, hx155_1⟩ := at_T35 HR0.out x3_1 p155 q155
                obtain rfl : ad154 = ad155 := (by injection e155)
                replace p155 := eq_true p155
                replace q155 := eq_true q155
                go_wp2
                go_roundg k1
                case measure => have := HK1.out; omega
                case rel => exact ⟨(wrap64 (x3_1 + 1)), (by first | rfl | (simp; done) | (simp [*]; done) | (simp [q_ne_nil]; done)), H', ⟨by have := HK1.out; omega⟩, by repeat (first | exact Drawn0.refl _ | apply Drawn0.step)⟩
          · rw [if_neg c4] at H
            exact absurd H (by simp)
        · rw [if_neg c3] at H
          have c3b0 : decide (x3_1 < (l0.length : Int)) = false := decide_eq_false c3
          clear c3
          obtain rfl := Option.some.inj H
          go_wp2
          go_ret
          exact ⟨by first | rfl | (simp; done) | (simp [*]; done) | (simp [q_ne_nil]; done), by repeat (first | exact Drawn0.refl _ | apply Drawn0.step)⟩
def glacisref08_Same.l0 : Nat → List (S35) → List (S35) → Int → Option (Bool)
  | 0, _, _, _ => none
  | k + 1, x0, x1, x5 => if x5 < (x0.length : Int) then (if 0 ≤ x5 then (if x5 < (x1.length : Int) then (if (!((((rd_T35 x0 x5).f0).toList) == (((rd_T35 x1 x5).f0).toList)) || (!((((rd_T35 x0 x5).f1).toList) == (((rd_T35 x1 x5).f1).toList)))) = true then (some false) else (glacisref08_Same.l0 k x0 x1 (wrap64 (x5 + 1)))) else (none)) else (none)) else (some true)
def glacisref08_Same.f (k : Nat) (l0 : List (S35)) (l1 : List (S35)) : Option (Bool) := if (l0.length : Int) = (l1.length : Int) then (glacisref08_Same.l0 k l0 l1 0) else (some false)
set_option maxHeartbeats 8000000 in
set_option maxRecDepth 100000 in
theorem glacisref08_Same.calls (k : Nat) (A0 : Option Addr) (c0 : Nat) (l0 : List (S35)) (A1 : Option Addr) (c1 : Nat) (l1 : List (S35)) (r : Bool) (w : World) (hr0 : Kd.C k35 w A0 l0.length l0) (hc0 : l0.length ≤ c0) (hr1 : Kd.C k35 w A1 l1.length l1) (hc1 : l1.length ≤ c1) (h : glacisref08_Same.f k l0 l1 = some r) :
    Calls Tryz.prog 7 #[.slice A0 l0.length c0, .slice A1 l1.length c1] w fun e w' => e = .returned (.bool r) ∧ Drawn0 w w' := by
  have hu35 := Tryz.underlying35
  have HR0 := Aside0.mk hr0
  have HC0 := Aside0.mk hc0
  clear hr0 hc0
  have HR1 := Aside0.mk hr1
  have HC1 := Aside0.mk hc1
  clear hr1 hc1
  have H : (if (l0.length : Int) = (l1.length : Int) then (glacisref08_Same.l0 k l0 l1 0) else (some false)) = some r := h
  clear h
  by_cases c3 : (l0.length : Int) = (l1.length : Int)
  · rw [if_pos c3] at H
    have c3b0 : ((l0.length : Int) == (l1.length : Int)) = true := beq_iff_eq.mpr c3
    have c3b1 : ((l0.length : Int) != (l1.length : Int)) = false := bne_eq_false_iff_eq.mpr c3
    have c3b2 : (l0.length == l1.length) = true := by first | simpa using c3 | (simp at c3 ⊢; omega)
    clear c3
    have H' := Aside0.mk H
    clear H
    go_enter Tryz.func7, Tryz.ntmps7
    go_wp2
    repeat (go_quiet (fail); try go_wp2)
    go_loopg [5] k (fun kq v5 w' => ∃ (x5_1 : Int), v5 = .int .i64 x5_1 ∧ Aside0 (glacisref08_Same.l0 kq l0 l1 x5_1 = some r) ∧ Aside0 (kq ≤ k) ∧ Drawn0 w w')
    case atStart => exact ⟨(0), (by first | rfl | (simp; done) | (simp [*]; done) | (simp [q_ne_nil]; done)), H', ⟨Nat.le_refl _⟩, by repeat (first | exact Drawn0.refl _ | apply Drawn0.step)⟩
    case round =>
      clear H'
      try clear c1
      try clear p2
      try clear c3
      try clear c3b0
      try clear c3b1
      try clear c3b2
      obtain ⟨x5_1, rfl, HA, HK1, ⟨m1, rfl⟩⟩ := hrel
      cases gk with
      | zero => exact absurd HA.out (by simp [glacisref08_Same.l0])
      | succ k1 =>
        have H := HA.out
        clear HA
        simp only [glacisref08_Same.l0] at H
        by_cases c4 : x5_1 < (l0.length : Int)
        · rw [if_pos c4] at H
          have c4b0 : decide (x5_1 < (l0.length : Int)) = true := decide_eq_true c4
          clear c4
          by_cases c5 : 0 ≤ x5_1
          · rw [if_pos c5] at H
            have c5b0 : decide (0 ≤ x5_1) = true := decide_eq_true c5
            clear c5
            by_cases c6 : x5_1 < (l1.length : Int)
            · rw [if_pos c6] at H
              have c6b0 : decide (x5_1 < (l1.length : Int)) = true := decide_eq_true c6
              clear c6
              by_cases c7 : (!((((rd_T35 l0 x5_1).f0).toList) == (((rd_T35 l1 x5_1).f0).toList)) || (!((((rd_T35 l0 x5_1).f1).toList) == (((rd_T35 l1 x5_1).f1).toList)))) = true
              · rw [if_pos c7] at H
                have c7b0 : (!((((rd_T35 l0 x5_1).f0).toList) == (((rd_T35 l1 x5_1).f0).toList)) || (!((((rd_T35 l0 x5_1).f1).toList) == (((rd_T35 l1 x5_1).f1).toList)))) = true := c7
                clear c7
                obtain rfl := Option.some.inj H
                have p156 : 0 ≤ (x5_1 : Int) := of_decide_eq_true (by first | (with_reducible assumption) | assumption)
                have q156 : x5_1 < (l0.length : Int) := of_decide_eq_true (by first | (with_reducible assumption) | assumption)
                obtain ⟨ad156, e156, hx156_0, hx156_1⟩ := at_T35 HR0.out x5_1 p156 q156
                cases e156
                replace p156 := eq_true p156
                replace q156 := eq_true q156
                have p157 : 0 ≤ (x5_1 : Int) := of_decide_eq_true (by first | (with_reducible assumption) | assumption)
                have q157 : x5_1 < (l1.length : Int) := of_decide_eq_true (by first | (with_reducible assumption) | assumption)
                obtain ⟨ad157, e157, hx157_0, hx157_1⟩ := at_T35 HR1.out x5_1 p157 q157
                cases e157
                replace p157 := eq_true p157
                replace q157 := eq_true q157
                go_wp2
                repeat (go_quiet (fail); try go_wp2)
                go_ret
                exact ⟨by first | rfl | (simp; done) | (simp [*]; done) | (simp [q_ne_nil]; done), by repeat (first | exact Drawn0.refl _ | apply Drawn0.step)⟩
              · rw [if_neg c7] at H
                have c7b0 : (!((((rd_T35 l0 x5_1).f0).toList) == (((rd_T35 l1 x5_1).f0).toList)) || (!((((rd_T35 l0 x5_1).f1).toList) == (((rd_T35 l1 x5_1).f1).toList)))) = false := by simpa using c7
                clear c7
                have H' := Aside0.mk H
                clear H
                have p156 : 0 ≤ (x5_1 : Int) := of_decide_eq_true (by first | (with_reducible assumption) | assumption)
                have q156 : x5_1 < (l0.length : Int) := of_decide_eq_true (by first | (with_reducible assumption) | assumption)
                obtain ⟨ad156, e156, hx156_0, hx156_1⟩ := at_T35 HR0.out x5_1 p156 q156
                cases e156
                replace p156 := eq_true p156
                replace q156 := eq_true q156
                have p157 : 0 ≤ (x5_1 : Int) := of_decide_eq_true (by first | (with_reducible assumption) | assumption)
                have q157 : x5_1 < (l1.length : Int) := of_decide_eq_true (by first | (with_reducible assumption) | assumption)
                obtain ⟨ad157, e157, hx157_0, hx157_1⟩ := at_T35 HR1.out x5_1 p157 q157
                cases e157
                replace p157 := eq_true p157
                replace q157 := eq_true q157
                go_wp2
                repeat (go_quiet (fail); try go_wp2)
                go_roundg k1
                case measure => have := HK1.out; omega
                case rel => exact ⟨(wrap64 (x5_1 + 1)), (by first | rfl | (simp; done) | (simp [*]; done) | (simp [q_ne_nil]; done)), H', ⟨by have := HK1.out; omega⟩, by repeat (first | exact Drawn0.refl _ | apply Drawn0.step)⟩
            · rw [if_neg c6] at H
              exact absurd H (by simp)
          · rw [if_neg c5] at H
            exact absurd H (by simp)
        · rw [if_neg c4] at H
          have c4b0 : decide (x5_1 < (l0.length : Int)) = false := decide_eq_false c4
          clear c4
          obtain rfl := Option.some.inj H
          go_wp2
          repeat (go_quiet (fail); try go_wp2)
          go_ret
          exact ⟨by first | rfl | (simp; done) | (simp [*]; done) | (simp [q_ne_nil]; done), by repeat (first | exact Drawn0.refl _ | apply Drawn0.step)⟩
  · rw [if_neg c3] at H
    have c3b0 : ((l0.length : Int) == (l1.length : Int)) = false := beq_eq_false_iff_ne.mpr c3
    have c3b1 : ((l0.length : Int) != (l1.length : Int)) = true := bne_iff_ne.mpr c3
    have c3b2 : (l0.length == l1.length) = false := by first | simpa using c3 | (simp at c3 ⊢; omega)
    obtain rfl := Option.some.inj H
    go_enter Tryz.func7, Tryz.ntmps7
    go_wp2
    repeat (go_quiet (fail); try go_wp2)
    go_ret
    exact ⟨by first | rfl | (simp; done) | (simp [*]; done) | (simp [q_ne_nil]; done), by repeat (first | exact Drawn0.refl _ | apply Drawn0.step)⟩
def glacisref01_Lower.f (a0 : ByteArray) : Option ByteArray := if a0.size ≤ 281474976710656 then some (lowBA a0) else none
set_option maxHeartbeats 1000000 in
set_option maxRecDepth 100000 in
theorem glacisref01_Lower.calls (a0 : ByteArray) (r : ByteArray) (w : World) (h : glacisref01_Lower.f a0 = some r) :
    Calls Tryz.prog 19 #[.string a0] w fun e w' => e = .returned (.string r) ∧ Below w.heap.size w w' := by
  unfold glacisref01_Lower.f at h
  split at h
  · rename_i hsz
    obtain rfl := Option.some.inj h
    clear h
    have kb := fun W => print_bytes (P := Tryz.prog) 9 51 5 Tryz.underlying9 Tryz.underlying51 Tryz.underlying5 a0 W
    go_enter Tryz.func19, Tryz.ntmps19
    go_wp2
    generalize grownCap w a0.size 0 5 = cap
    go_loopw [4] (fun v4 wr => ∃ k : Nat, k ≤ a0.size ∧ v4 = .int .i64 k ∧ LowAt w wr a0 k) (fun v4 _ => a0.size - (intOf v4).toNat)
    case atStart => exact ⟨0, Nat.zero_le _, rfl, LowAt.start w _ a0⟩
    case round =>
      clear kb
      obtain ⟨k, hk, rfl, hL⟩ := hrel
      by_cases hlt : k < a0.size
      · have hcell : wr.cell? ⟨w.heap.size, k, none⟩ = some (.int .u8 (bt a0 k)) := by rw [hL.cell k hlt, if_neg (by omega)]
        have hfree := hL.free k hlt
        obtain ⟨hb0, hb1⟩ := bt_range a0 k
        have hS := Aside0.mk (hL.store hlt)
        have hN := Aside0.mk (fun e => hL.same (k := k) e)
        generalize hc : bt a0 k = c at hcell hb0 hb1 hS hN
        clear hc
        have HL := Aside0.mk hL
        clear hL
        by_cases hu1 : 65 ≤ c
        · by_cases hu2 : c ≤ 90
          · have hl : lowByte c = c + 32 := by unfold lowByte; rw [if_pos ⟨hu1, hu2⟩]
            have hor := low_or c hu1 hu2
            rw [hl] at hS
            clear hl hN
            go_wp2
            go_roundw
            case rel => exact ⟨k + 1, by omega, by go_num, hS.out⟩
            case measure => simp [intOf]; omega
          · have hl : lowByte c = c := by unfold lowByte; rw [if_neg (by omega)]
            clear hS
            have hN' := Aside0.mk (hN.out hl)
            clear hN hl
            go_wp2
            go_roundw
            case rel => exact ⟨k + 1, by omega, by go_num, hN'.out⟩
            case measure => simp [intOf]; omega
        · have hl : lowByte c = c := by unfold lowByte; rw [if_neg (by omega)]
          clear hS
          have hN' := Aside0.mk (hN.out hl)
          clear hN hl
          go_wp2
          go_roundw
          case rel => exact ⟨k + 1, by omega, by go_num, hN'.out⟩
          case measure => simp [intOf]; omega
      · obtain rfl : k = a0.size := by omega
        have hd := fun c => hL.done (P := Tryz.prog) (src := 51) (dst := 9) (e := 5) Tryz.underlying51 Tryz.underlying5 Tryz.underlying9 c
        go_wp2
        go_ret
        exact ⟨rfl, hL.below⟩
  · cases h
def glacisref08_Plain.l0 : Nat → List (S35) → List (S35) → Int → Option ((List (S35)))
  | 0, _, _, _ => none
  | k + 1, x0, x3, x4 => if x4 < (x0.length : Int) then (if 0 ≤ x4 then ((glacisref01_Lower.f ((rd_T35 x0 x4).f0)).bind fun t159 => (if t159.toList = ([99, 114, 111, 115, 115, 45, 111, 114, 105, 103, 105, 110, 45, 111, 112, 101, 110, 101, 114, 45, 112, 111, 108, 105, 99, 121, 45, 114, 101, 112, 111, 114, 116, 45, 111, 110, 108, 121] : List UInt8) then (glacisref08_Plain.l0 k x0 x3 (wrap64 (x4 + 1))) else (if t159.toList = ([99, 114, 111, 115, 115, 45, 111, 114, 105, 103, 105, 110, 45, 101, 109, 98, 101, 100, 100, 101, 114, 45, 112, 111, 108, 105, 99, 121, 45, 114, 101, 112, 111, 114, 116, 45, 111, 110, 108, 121] : List UInt8) then (glacisref08_Plain.l0 k x0 x3 (wrap64 (x4 + 1))) else (if x3.length < 4398046511104 then (glacisref08_Plain.l0 k x0 (x3 ++ [(⟨(rd_T35 x0 x4).f0, (rd_T35 x0 x4).f1⟩ : S35)]) (wrap64 (x4 + 1))) else (none))))) else (none)) else (some x3)
def glacisref08_Plain.f (k : Nat) (l0 : List (S35)) : Option ((List (S35))) := glacisref08_Plain.l0 k l0 ([] : List (S35)) 0
set_option maxHeartbeats 8000000 in
set_option maxRecDepth 100000 in
theorem glacisref08_Plain.calls (k : Nat) (A0 : Option Addr) (c0 : Nat) (l0 : List (S35)) (r : List (S35)) (w : World) (hr0 : Kd.C k35 w A0 l0.length l0) (hc0 : l0.length ≤ c0) (h : glacisref08_Plain.f k l0 = some r) :
    Calls Tryz.prog 9 #[.slice A0 l0.length c0] w fun e w' => ∃ v0_ : Value, e = .returned (v0_) ∧ Kd.R k35 35 w' w.heap.size (fun _ => True) v0_ r ∧ Below w.heap.size w w' := by
  have hu35 := Tryz.underlying35
  have HR0 := Aside0.mk hr0
  have HC0 := Aside0.mk hc0
  clear hr0 hc0
  have HB := Aside0.mk (Below.refl w.heap.size w)
  have H : (glacisref08_Plain.l0 k l0 ([] : List (S35)) 0) = some r := h
  clear h
  have H' := Aside0.mk H
  clear H
  go_enter Tryz.func9, Tryz.ntmps9
  go_wp2
  go_loopg [3, 4] k (fun kq v3 v4 w' => ∃ (x3_1 : List (S35)) (x4_1 : Int), v4 = .int .i64 x4_1 ∧ Aside0 (glacisref08_Plain.l0 kq l0 x3_1 x4_1 = some r) ∧ Aside0 (kq ≤ k) ∧ Aside0 (Kd.R k35 35 w' w.heap.size (fun _ => True) v3 x3_1) ∧ Aside0 (Below w.heap.size w w'))
  case atStart => exact ⟨(([] : List (S35))), (0), (by first | rfl | (simp; done) | (simp [*]; done) | (simp [q_ne_nil]; done)), H', ⟨Nat.le_refl _⟩, ⟨by first | exact Kd.R_nil _ _ _ _ _ | exact Kd.N_nil _ _ _ _ _ | exact Kd.V_nil _ _ _ _ _ | exact Kd.Q_nil _ _ _ _ _ | exact Kd.S_nil _ _ _ _ _⟩, ⟨by repeat (first | (with_reducible first | exact HB.out | apply below_alloc | apply pw_below_drewN | apply below_drew1) | exact HB.out)⟩⟩
  case round =>
    clear H'
    obtain ⟨x3_1, x4_1, rfl, HA, HK1, HO_3, HB⟩ := hrel
    cases gk with
    | zero => exact absurd HA.out (by simp [glacisref08_Plain.l0])
    | succ k1 =>
      have H := HA.out
      clear HA
      simp only [glacisref08_Plain.l0] at H
      by_cases c2 : x4_1 < (l0.length : Int)
      · rw [if_pos c2] at H
        have c2b0 : decide (x4_1 < (l0.length : Int)) = true := decide_eq_true c2
        clear c2
        by_cases c3 : 0 ≤ x4_1
        · rw [if_pos c3] at H
          have c3b0 : decide (0 ≤ x4_1) = true := decide_eq_true c3
          clear c3
          replace H := Option.bind_eq_some_iff.mp H
          obtain ⟨t159, A40, H⟩ := H
          replace H : (if t159.toList = ([99, 114, 111, 115, 115, 45, 111, 114, 105, 103, 105, 110, 45, 111, 112, 101, 110, 101, 114, 45, 112, 111, 108, 105, 99, 121, 45, 114, 101, 112, 111, 114, 116, 45, 111, 110, 108, 121] : List UInt8) then (glacisref08_Plain.l0 k1 l0 x3_1 (wrap64 (x4_1 + 1))) else (if t159.toList = ([99, 114, 111, 115, 115, 45, 111, 114, 105, 103, 105, 110, 45, 101, 109, 98, 101, 100, 100, 101, 114, 45, 112, 111, 108, 105, 99, 121, 45, 114, 101, 112, 111, 114, 116, 45, 111, 110, 108, 121] : List UInt8) then (glacisref08_Plain.l0 k1 l0 x3_1 (wrap64 (x4_1 + 1))) else (if x3_1.length < 4398046511104 then (glacisref08_Plain.l0 k1 l0 (x3_1 ++ [(⟨(rd_T35 l0 x4_1).f0, (rd_T35 l0 x4_1).f1⟩ : S35)]) (wrap64 (x4_1 + 1))) else (none)))) = some r := H
          have A4 := Aside0.mk A40
          clear A40
          by_cases c5 : t159.toList = ([99, 114, 111, 115, 115, 45, 111, 114, 105, 103, 105, 110, 45, 111, 112, 101, 110, 101, 114, 45, 112, 111, 108, 105, 99, 121, 45, 114, 101, 112, 111, 114, 116, 45, 111, 110, 108, 121] : List UInt8)
          · rw [if_pos c5] at H
            have c5b0 : (t159.toList == ([99, 114, 111, 115, 115, 45, 111, 114, 105, 103, 105, 110, 45, 111, 112, 101, 110, 101, 114, 45, 112, 111, 108, 105, 99, 121, 45, 114, 101, 112, 111, 114, 116, 45, 111, 110, 108, 121] : List UInt8)) = true := beq_iff_eq.mpr c5
            have c5b1 : (t159.toList != ([99, 114, 111, 115, 115, 45, 111, 114, 105, 103, 105, 110, 45, 111, 112, 101, 110, 101, 114, 45, 112, 111, 108, 105, 99, 121, 45, 114, 101, 112, 111, 114, 116, 45, 111, 110, 108, 121] : List UInt8)) = false := bne_eq_false_iff_eq.mpr c5
            clear c5
            have H' := Aside0.mk H
            clear H
            have p158 : 0 ≤ (x4_1 : Int) := of_decide_eq_true (by first | (with_reducible assumption) | assumption)
            have q158 : x4_1 < (l0.length : Int) := of_decide_eq_true (by first | (with_reducible assumption) | assumption)
            obtain ⟨ad158, e158, hx158_0, hx158_1⟩ := at_T35 HR0.out x4_1 p158 q158
            cases e158
            replace hx158_0 := (HB.out.cell (World.block_lt_of_cell? w _ hx158_0)).trans hx158_0
            replace hx158_1 := (HB.out.cell (World.block_lt_of_cell? w _ hx158_1)).trans hx158_1
            replace p158 := eq_true p158
            replace q158 := eq_true q158
            go_wp2_with (first | ((with_reducible refine gate_callee (f := 19) rfl ?_); refine goesL_ (some 17) rfl rfl Tryz.func19 (by kernel_rfl) rfl #[.string ((rd_T35 l0 x4_1).f0)] rfl (by (try simp only [List.map_toArray, List.map_cons, List.map_nil]); first | done | rfl | (simp only [List.length_drop, List.length_take]; rfl)) ?_; (with_reducible refine (glacisref01_Lower.calls ((rd_T35 l0 x4_1).f0) t159 _ A4.out).mono ?_); rintro e w6 ⟨rfl, hb⟩; refine ⟨_, rfl, ?_⟩; have n0_ := Aside0.mk (Kd.R_below (by (with_reducible repeat (first | apply Kd.R_alloc | apply Kd.R_drewN | apply Kd.R_drew)); exact HO_3.out) hb); have n1_ := Aside0.mk (below_step (by repeat (first | (with_reducible first | exact HB.out | apply below_alloc | apply pw_below_drewN | apply below_drew1) | exact HB.out)) hb); clear HO_3; clear HB; have HO_3 := n0_; have HB := n1_; clear n0_ n1_; (try clear hb); (try clear hb2); (try clear hk); (try clear hi)))
            go_roundg k1
            case measure => have := HK1.out; omega
            case rel => exact ⟨(x3_1), (wrap64 (x4_1 + 1)), (by first | rfl | (simp; done) | (simp [*]; done) | (simp [q_ne_nil]; done)), H', ⟨by have := HK1.out; omega⟩, ⟨by (with_reducible repeat (first | apply Kd.R_alloc | apply Kd.R_drewN | apply Kd.R_drew)); exact HO_3.out⟩, ⟨by repeat (first | (with_reducible first | exact HB.out | apply below_alloc | apply pw_below_drewN | apply below_drew1) | exact HB.out)⟩⟩
          · rw [if_neg c5] at H
            have c5b0 : (t159.toList == ([99, 114, 111, 115, 115, 45, 111, 114, 105, 103, 105, 110, 45, 111, 112, 101, 110, 101, 114, 45, 112, 111, 108, 105, 99, 121, 45, 114, 101, 112, 111, 114, 116, 45, 111, 110, 108, 121] : List UInt8)) = false := beq_eq_false_iff_ne.mpr c5
            have c5b1 : (t159.toList != ([99, 114, 111, 115, 115, 45, 111, 114, 105, 103, 105, 110, 45, 111, 112, 101, 110, 101, 114, 45, 112, 111, 108, 105, 99, 121, 45, 114, 101, 112, 111, 114, 116, 45, 111, 110, 108, 121] : List UInt8)) = true := bne_iff_ne.mpr c5
            by_cases c7 : t159.toList = ([99, 114, 111, 115, 115, 45, 111, 114, 105, 103, 105, 110, 45, 101, 109, 98, 101, 100, 100, 101, 114, 45, 112, 111, 108, 105, 99, 121, 45, 114, 101, 112, 111, 114, 116, 45, 111, 110, 108, 121] : List UInt8)
            · rw [if_pos c7] at H
              have c7b0 : (t159.toList == ([99, 114, 111, 115, 115, 45, 111, 114, 105, 103, 105, 110, 45, 101, 109, 98, 101, 100, 100, 101, 114, 45, 112, 111, 108, 105, 99, 121, 45, 114, 101, 112, 111, 114, 116, 45, 111, 110, 108, 121] : List UInt8)) = true := beq_iff_eq.mpr c7
              have c7b1 : (t159.toList != ([99, 114, 111, 115, 115, 45, 111, 114, 105, 103, 105, 110, 45, 101, 109, 98, 101, 100, 100, 101, 114, 45, 112, 111, 108, 105, 99, 121, 45, 114, 101, 112, 111, 114, 116, 45, 111, 110, 108, 121] : List UInt8)) = false := bne_eq_false_iff_eq.mpr c7
              clear c7
              have H' := Aside0.mk H
              clear H
              have p158 : 0 ≤ (x4_1 : Int) := of_decide_eq_true (by first | (with_reducible assumption) | assumption)
              have q158 : x4_1 < (l0.length : Int) := of_decide_eq_true (by first | (with_reducible assumption) | assumption)
              obtain ⟨ad158, e158, hx158_0, hx158_1⟩ := at_T35 HR0.out x4_1 p158 q158
              cases e158
              replace hx158_0 := (HB.out.cell (World.block_lt_of_cell? w _ hx158_0)).trans hx158_0
              replace hx158_1 := (HB.out.cell (World.block_lt_of_cell? w _ hx158_1)).trans hx158_1
              replace p158 := eq_true p158
              replace q158 := eq_true q158
              go_wp2_with (first | ((with_reducible refine gate_callee (f := 19) rfl ?_); refine goesL_ (some 17) rfl rfl Tryz.func19 (by kernel_rfl) rfl #[.string ((rd_T35 l0 x4_1).f0)] rfl (by (try simp only [List.map_toArray, List.map_cons, List.map_nil]); first | done | rfl | (simp only [List.length_drop, List.length_take]; rfl)) ?_; (with_reducible refine (glacisref01_Lower.calls ((rd_T35 l0 x4_1).f0) t159 _ A4.out).mono ?_); rintro e w8 ⟨rfl, hb⟩; refine ⟨_, rfl, ?_⟩; have n0_ := Aside0.mk (Kd.R_below (by (with_reducible repeat (first | apply Kd.R_alloc | apply Kd.R_drewN | apply Kd.R_drew)); exact HO_3.out) hb); have n1_ := Aside0.mk (below_step (by repeat (first | (with_reducible first | exact HB.out | apply below_alloc | apply pw_below_drewN | apply below_drew1) | exact HB.out)) hb); clear HO_3; clear HB; have HO_3 := n0_; have HB := n1_; clear n0_ n1_; (try clear hb); (try clear hb2); (try clear hk); (try clear hi)))
              go_roundg k1
              case measure => have := HK1.out; omega
              case rel => exact ⟨(x3_1), (wrap64 (x4_1 + 1)), (by first | rfl | (simp; done) | (simp [*]; done) | (simp [q_ne_nil]; done)), H', ⟨by have := HK1.out; omega⟩, ⟨by (with_reducible repeat (first | apply Kd.R_alloc | apply Kd.R_drewN | apply Kd.R_drew)); exact HO_3.out⟩, ⟨by repeat (first | (with_reducible first | exact HB.out | apply below_alloc | apply pw_below_drewN | apply below_drew1) | exact HB.out)⟩⟩
            · rw [if_neg c7] at H
              have c7b0 : (t159.toList == ([99, 114, 111, 115, 115, 45, 111, 114, 105, 103, 105, 110, 45, 101, 109, 98, 101, 100, 100, 101, 114, 45, 112, 111, 108, 105, 99, 121, 45, 114, 101, 112, 111, 114, 116, 45, 111, 110, 108, 121] : List UInt8)) = false := beq_eq_false_iff_ne.mpr c7
              have c7b1 : (t159.toList != ([99, 114, 111, 115, 115, 45, 111, 114, 105, 103, 105, 110, 45, 101, 109, 98, 101, 100, 100, 101, 114, 45, 112, 111, 108, 105, 99, 121, 45, 114, 101, 112, 111, 114, 116, 45, 111, 110, 108, 121] : List UInt8)) = true := bne_iff_ne.mpr c7
              by_cases c9 : x3_1.length < 4398046511104
              · rw [if_pos c9] at H
                have LMc9 := Aside0.mk c9
                clear c9
                obtain ⟨y161, hy161⟩ : ∃ y_ : List (S35), y_ = (x3_1 ++ [(⟨(rd_T35 l0 x4_1).f0, (rd_T35 l0 x4_1).f1⟩ : S35)]) := ⟨_, rfl⟩
                replace H : (glacisref08_Plain.l0 k1 l0 y161 (wrap64 (x4_1 + 1))) = some r := by first | (rw [hy161]; with_reducible exact H) | (have H2_ := (Option.bind_some _ _).symm.trans H; rw [hy161]; with_reducible exact H2_) | (have H2_ := (Option.bind_some _ _).symm.trans H; with_reducible exact H2_) | with_reducible exact H | (rw [hy161]; exact H) | exact H
                have Ny161 := Aside0.mk hy161
                clear hy161
                have H' := Aside0.mk H
                clear H
                have p158 : 0 ≤ (x4_1 : Int) := of_decide_eq_true (by first | (with_reducible assumption) | assumption)
                have q158 : x4_1 < (l0.length : Int) := of_decide_eq_true (by first | (with_reducible assumption) | assumption)
                obtain ⟨ad158, e158, hx158_0, hx158_1⟩ := at_T35 HR0.out x4_1 p158 q158
                cases e158
                replace hx158_0 := (HB.out.cell (World.block_lt_of_cell? w _ hx158_0)).trans hx158_0
                replace hx158_1 := (HB.out.cell (World.block_lt_of_cell? w _ hx158_1)).trans hx158_1
                replace p158 := eq_true p158
                replace q158 := eq_true q158
                go_wp2_with (first | ((with_reducible refine gate_callee (f := 19) rfl ?_); refine goesL_ (some 17) rfl rfl Tryz.func19 (by kernel_rfl) rfl #[.string ((rd_T35 l0 x4_1).f0)] rfl (by (try simp only [List.map_toArray, List.map_cons, List.map_nil]); first | done | rfl | (simp only [List.length_drop, List.length_take]; rfl)) ?_; (with_reducible refine (glacisref01_Lower.calls ((rd_T35 l0 x4_1).f0) t159 _ A4.out).mono ?_); rintro e w10 ⟨rfl, hb⟩; refine ⟨_, rfl, ?_⟩; have n0_ := Aside0.mk (Kd.R_below (by (with_reducible repeat (first | apply Kd.R_alloc | apply Kd.R_drewN | apply Kd.R_drew)); exact HO_3.out) hb); have n1_ := Aside0.mk (below_step (by repeat (first | (with_reducible first | exact HB.out | apply below_alloc | apply pw_below_drewN | apply below_drew1) | exact HB.out)) hb); clear HO_3; clear HB; have HO_3 := n0_; have HB := n1_; clear n0_ n1_; (try clear hb); (try clear hb2); (try clear hk); (try clear hi); have p160 : 0 ≤ (x4_1 : Int) := of_decide_eq_true (by first | (with_reducible assumption) | assumption); have q160 : x4_1 < (l0.length : Int) := of_decide_eq_true (by first | (with_reducible assumption) | assumption); obtain ⟨ad160, e160, hx160_0, hx160_1⟩ := at_T35 HR0.out x4_1 p160 q160; obtain rfl : ad158 = ad160 := (by injection e160); replace hx160_0 := (HB.out.cell (World.block_lt_of_cell? w _ hx160_0)).trans hx160_0; replace hx160_1 := (HB.out.cell (World.block_lt_of_cell? w _ hx160_1)).trans hx160_1; replace p160 := eq_true p160; replace q160 := eq_true q160) | ((with_reducible refine gate_builtin (b := .append) (xs := #[.tmp 24, .tmp 29]) rfl ?_); at_builtin; refine Kd.R_append k35 (w0 := w) w.heap.size rfl (.tmp 24) (.tmp 29) 22 35 (.agg #[(.string ⟨#[]⟩), (.string ⟨#[]⟩)]) 32 rfl Tryz.underlying22 info35 rfl (by decide) (by omega) u3 x3_1 (⟨(rd_T35 l0 x4_1).f0, (rd_T35 l0 x4_1).f1⟩ : S35) [.string ((rd_T35 l0 x4_1).f0), .string ((rd_T35 l0 x4_1).f1)] (fun _ => True) (fun _ => False) rfl rfl ?aP (fun _ hk => hk.elim) ?aF ?aO ?aB ?aS ?aL ?_; (case aP => exact k35_mkM _ _ _ (⟨(rd_T35 l0 x4_1).f0, (rd_T35 l0 x4_1).f1⟩ : S35)); (case aB => exact (by repeat (first | (with_reducible first | exact HB.out | apply below_alloc | apply pw_below_drewN | apply below_drew1) | exact HB.out))); (case aF => exact (fun _ _ => trivial)); (case aO => exact (by (with_reducible repeat (first | apply Kd.R_alloc | apply Kd.R_drewN | apply Kd.R_drew)); exact HO_3.out)); (case aS => exact (below_size (by repeat (first | (with_reducible first | exact HB.out | apply below_alloc | apply pw_below_drewN | apply below_drew1) | exact HB.out)))); (case aL => have := LMc9.out; omega); intro v162 w11 ho hb hg hat; rw [← Ny161.out] at ho; have n0_ := Aside0.mk (hb); have n1_ := Aside0.mk (ho); clear HB; clear HO_3; have HB := n0_; have HO163 := n1_; clear n0_ n1_; clear ho hb hg hat))
                go_roundg k1
                case measure => have := HK1.out; omega
                case rel => exact ⟨(y161), (wrap64 (x4_1 + 1)), (by first | rfl | (simp; done) | (simp [*]; done) | (simp [q_ne_nil]; done)), H', ⟨by have := HK1.out; omega⟩, ⟨by (with_reducible repeat (first | apply Kd.R_alloc | apply Kd.R_drewN | apply Kd.R_drew)); exact HO163.out⟩, ⟨by repeat (first | (with_reducible first | exact HB.out | apply below_alloc | apply pw_below_drewN | apply below_drew1) | exact HB.out)⟩⟩
              · rw [if_neg c9] at H
                exact absurd H (by simp)
        · rw [if_neg c3] at H
          exact absurd H (by simp)
      · rw [if_neg c2] at H
        have c2b0 : decide (x4_1 < (l0.length : Int)) = false := decide_eq_false c2
        clear c2
        obtain rfl := Option.some.inj H
        go_wp2
        go_ret
        exact ⟨_, by first | rfl | (simp [errW_none, errW_some] <;> rfl) | (simp [*, errW_none, errW_some] <;> rfl) | (simp [q_ne_nil]; done), by (with_reducible repeat (first | apply Kd.R_alloc | apply Kd.R_drewN | apply Kd.R_drew)); exact HO_3.out, by repeat (first | (with_reducible first | exact HB.out | apply below_alloc | apply pw_below_drewN | apply below_drew1) | exact HB.out)⟩
def glacisref01_Fold.f (a0 : ByteArray) (a1 : ByteArray) : Option (Bool) := (glacisref01_Lower.f a0).bind fun t164 => ((glacisref01_Lower.f a1).bind fun t165 => (some (t164.toList == t165.toList)))
set_option maxHeartbeats 8000000 in
set_option maxRecDepth 100000 in
theorem glacisref01_Fold.calls (a0 : ByteArray) (a1 : ByteArray) (r : Bool) (w : World) (h : glacisref01_Fold.f a0 a1 = some r) :
    Calls Tryz.prog 59 #[.string a0, .string a1] w fun e w' => e = .returned (.bool r) ∧ Below w.heap.size w w' := by
  have HB := Aside0.mk (Below.refl w.heap.size w)
  have H : ((glacisref01_Lower.f a0).bind fun t164 => ((glacisref01_Lower.f a1).bind fun t165 => (some (t164.toList == t165.toList)))) = some r := h
  clear h
  replace H := Option.bind_eq_some_iff.mp H
  obtain ⟨t164, A30, H⟩ := H
  replace H : ((glacisref01_Lower.f a1).bind fun t165 => (some (t164.toList == t165.toList))) = some r := H
  have A3 := Aside0.mk A30
  clear A30
  replace H := Option.bind_eq_some_iff.mp H
  obtain ⟨t165, A40, H⟩ := H
  replace H : (some (t164.toList == t165.toList)) = some r := H
  have A4 := Aside0.mk A40
  clear A40
  obtain rfl := Option.some.inj H
  go_enter Tryz.func59, Tryz.ntmps59
  go_wp2_with (first | ((with_reducible refine gate_callee (f := 19) rfl ?_); refine goesL_ (some 6) rfl rfl Tryz.func19 (by kernel_rfl) rfl #[.string a0] rfl (by (try simp only [List.map_toArray, List.map_cons, List.map_nil]); first | done | rfl | (simp only [List.length_drop, List.length_take]; rfl)) ?_; (with_reducible refine (glacisref01_Lower.calls a0 t164 _ A3.out).mono ?_); rintro e w5 ⟨rfl, hb⟩; refine ⟨_, rfl, ?_⟩; have n0_ := Aside0.mk (below_step (by repeat (first | (with_reducible first | exact HB.out | apply below_alloc | apply pw_below_drewN | apply below_drew1) | exact HB.out)) hb); clear HB; have HB := n0_; clear n0_; (try clear hb); (try clear hb2); (try clear hk); (try clear hi)) | ((with_reducible refine gate_callee (f := 19) rfl ?_); refine goesL_ (some 8) rfl rfl Tryz.func19 (by kernel_rfl) rfl #[.string a1] rfl (by (try simp only [List.map_toArray, List.map_cons, List.map_nil]); first | done | rfl | (simp only [List.length_drop, List.length_take]; rfl)) ?_; (with_reducible refine (glacisref01_Lower.calls a1 t165 _ A4.out).mono ?_); rintro e w6 ⟨rfl, hb⟩; refine ⟨_, rfl, ?_⟩; have n0_ := Aside0.mk (below_step (by repeat (first | (with_reducible first | exact HB.out | apply below_alloc | apply pw_below_drewN | apply below_drew1) | exact HB.out)) hb); clear HB; have HB := n0_; clear n0_; (try clear hb); (try clear hb2); (try clear hk); (try clear hi)))
  go_ret
  exact ⟨by first | rfl | (simp [errW_none, errW_some] <;> rfl) | (simp [*, errW_none, errW_some] <;> rfl) | (simp [q_ne_nil]; done), by repeat (first | (with_reducible first | exact HB.out | apply below_alloc | apply pw_below_drewN | apply below_drew1) | exact HB.out)⟩
def glacisref01_Blank.f (a0 : Int) : Option (Bool) := if a0 = 9 then (some true) else (if a0 = 10 then (some true) else (if a0 = 12 then (some true) else (if a0 = 13 then (some true) else (some (a0 == 32)))))
set_option maxHeartbeats 8000000 in
set_option maxRecDepth 100000 in
theorem glacisref01_Blank.calls (a0 : Int) (r : Bool) (w : World) (h : glacisref01_Blank.f a0 = some r) :
    Calls Tryz.prog 83 #[.int .u8 a0] w fun e w' => e = .returned (.bool r) ∧ Drawn0 w w' := by
  have H : (if a0 = 9 then (some true) else (if a0 = 10 then (some true) else (if a0 = 12 then (some true) else (if a0 = 13 then (some true) else (some (a0 == 32)))))) = some r := h
  clear h
  by_cases c2 : a0 = 9
  · rw [if_pos c2] at H
    have c2b0 : (a0 == 9) = true := beq_iff_eq.mpr c2
    have c2b1 : (a0 != 9) = false := bne_eq_false_iff_eq.mpr c2
    clear c2
    obtain rfl := Option.some.inj H
    go_enter Tryz.func83, Tryz.ntmps83
    go_wp2
    go_ret
    exact ⟨by first | rfl | (simp; done) | (simp [*]; done) | (simp [q_ne_nil]; done), by repeat (first | exact Drawn0.refl _ | apply Drawn0.step)⟩
  · rw [if_neg c2] at H
    have c2b0 : (a0 == 9) = false := beq_eq_false_iff_ne.mpr c2
    have c2b1 : (a0 != 9) = true := bne_iff_ne.mpr c2
    by_cases c3 : a0 = 10
    · rw [if_pos c3] at H
      have c3b0 : (a0 == 10) = true := beq_iff_eq.mpr c3
      have c3b1 : (a0 != 10) = false := bne_eq_false_iff_eq.mpr c3
      clear c3
      obtain rfl := Option.some.inj H
      go_enter Tryz.func83, Tryz.ntmps83
      go_wp2
      go_ret
      exact ⟨by first | rfl | (simp; done) | (simp [*]; done) | (simp [q_ne_nil]; done), by repeat (first | exact Drawn0.refl _ | apply Drawn0.step)⟩
    · rw [if_neg c3] at H
      have c3b0 : (a0 == 10) = false := beq_eq_false_iff_ne.mpr c3
      have c3b1 : (a0 != 10) = true := bne_iff_ne.mpr c3
      by_cases c4 : a0 = 12
      · rw [if_pos c4] at H
        have c4b0 : (a0 == 12) = true := beq_iff_eq.mpr c4
        have c4b1 : (a0 != 12) = false := bne_eq_false_iff_eq.mpr c4
        clear c4
        obtain rfl := Option.some.inj H
        go_enter Tryz.func83, Tryz.ntmps83
        go_wp2
        go_ret
        exact ⟨by first | rfl | (simp; done) | (simp [*]; done) | (simp [q_ne_nil]; done), by repeat (first | exact Drawn0.refl _ | apply Drawn0.step)⟩
      · rw [if_neg c4] at H
        have c4b0 : (a0 == 12) = false := beq_eq_false_iff_ne.mpr c4
        have c4b1 : (a0 != 12) = true := bne_iff_ne.mpr c4
        by_cases c5 : a0 = 13
        · rw [if_pos c5] at H
          have c5b0 : (a0 == 13) = true := beq_iff_eq.mpr c5
          have c5b1 : (a0 != 13) = false := bne_eq_false_iff_eq.mpr c5
          clear c5
          obtain rfl := Option.some.inj H
          go_enter Tryz.func83, Tryz.ntmps83
          go_wp2
          go_ret
          exact ⟨by first | rfl | (simp; done) | (simp [*]; done) | (simp [q_ne_nil]; done), by repeat (first | exact Drawn0.refl _ | apply Drawn0.step)⟩
        · rw [if_neg c5] at H
          have c5b0 : (a0 == 13) = false := beq_eq_false_iff_ne.mpr c5
          have c5b1 : (a0 != 13) = true := bne_iff_ne.mpr c5
          obtain rfl := Option.some.inj H
          go_enter Tryz.func83, Tryz.ntmps83
          go_wp2
          go_ret
          exact ⟨by first | rfl | (simp; done) | (simp [*]; done) | (simp [q_ne_nil]; done), by repeat (first | exact Drawn0.refl _ | apply Drawn0.step)⟩
end Go.Proofs.YtciigmlibnpeeaaGreatDoor.Q
