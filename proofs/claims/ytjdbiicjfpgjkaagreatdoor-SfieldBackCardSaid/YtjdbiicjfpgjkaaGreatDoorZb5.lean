/- The law SfieldBack: its row and card. Its conditions: the row's own. -/
import Derived.Test.YtjdbiicjfpgjkaaGreatDoorZb4
import Derived.Carry
import Derived.Deep.Slices
import Derived.Lib.LaidTab
import Derived.Lib.SmallJoins
import Derived.Stop.LaidErr
/- Chapter 5: the document's own text of parameters and items is the program's. -/
namespace Go.Proofs.YtjdbiicjfpgjkaaGreatDoor.Pl
open Go.RowKit Go.Proofs.YtjdbiicjfpgjkaaGreatDoor.Q Go.Proofs.YtjdbiicjfpgjkaaGreatDoor.Sf Go.Proofs.YtjdbiicjfpgjkaaGreatDoorW.PrintWords Go.Proofs.YtjdbiicjfpgjkaaGreatDoorW.PrintLast
set_option linter.unusedVariables false
set_option linter.unusedSimpArgs false
theorem flag_any {u : List UInt8} {i : Int} {t : List UInt8} (h : VT u 6 i t) : i = 0 ∨ i = 1 := by
  by_cases c : i = 0
  · exact Or.inl c
  · exact Or.inr (flag_inv h c).1
/-- What follows where no key stands there twice. -/
theorem tail_cont (k j : Nat) (l : List S60) (o v : ByteArray) (hl : l.length ≤ 100) (hj : j < l.length) (ho : o.size ≤ 900000) (hk : l[j].f0.size ≤ 1000) (hv : v.size ≤ 5000) (hf : l[j].f1 = 6 → l[j].f2 = 0 ∨ l[j].f2 = 1) :
    (if o.size + 1 ≤ 9223372036854775807 then (if (o ++ (⟨#[59]⟩ : ByteArray)).size + l[j].f0.size ≤ 9223372036854775807 then (if 0 ≤ (j : Int) then (if (j : Int) < (l.length : Int) then (if ((rd_T60 l (j : Int)).f1) = 6 then (if ((rd_T60 l (j : Int)).f2) = 1 then (glacisref05_Tail.l0 k l ((o ++ (⟨#[59]⟩ : ByteArray)) ++ l[j].f0) (wrap64 ((j : Int) + 1))) else (if ((o ++ (⟨#[59]⟩ : ByteArray)) ++ l[j].f0).size + 1 ≤ 9223372036854775807 then (if (((o ++ (⟨#[59]⟩ : ByteArray)) ++ l[j].f0) ++ (⟨#[61]⟩ : ByteArray)).size + v.size ≤ 9223372036854775807 then (glacisref05_Tail.l0 k l ((((o ++ (⟨#[59]⟩ : ByteArray)) ++ l[j].f0) ++ (⟨#[61]⟩ : ByteArray)) ++ v) (wrap64 ((j : Int) + 1))) else (none)) else (none))) else (if ((o ++ (⟨#[59]⟩ : ByteArray)) ++ l[j].f0).size + 1 ≤ 9223372036854775807 then (if (((o ++ (⟨#[59]⟩ : ByteArray)) ++ l[j].f0) ++ (⟨#[61]⟩ : ByteArray)).size + v.size ≤ 9223372036854775807 then (glacisref05_Tail.l0 k l ((((o ++ (⟨#[59]⟩ : ByteArray)) ++ l[j].f0) ++ (⟨#[61]⟩ : ByteArray)) ++ v) (wrap64 ((j : Int) + 1))) else (none)) else (none))) else (none)) else (none)) else (none)) else (none)) =
    glacisref05_Tail.l0 k l (partT l[j] o v) ((j + 1 : Nat) : Int) := by
  have z59 : (⟨#[59]⟩ : ByteArray).size = 1 := rfl
  have z61 : (⟨#[61]⟩ : ByteArray).size = 1 := rfl
  have s1 : (o ++ (⟨#[59]⟩ : ByteArray)).size ≤ 900001 := by rw [ByteArray.size_append]; omega
  have s2 : ((o ++ (⟨#[59]⟩ : ByteArray)) ++ l[j].f0).size ≤ 901001 := by rw [ByteArray.size_append]; omega
  have s3 : (((o ++ (⟨#[59]⟩ : ByteArray)) ++ l[j].f0) ++ (⟨#[61]⟩ : ByteArray)).size ≤ 901002 := by rw [ByteArray.size_append]; omega
  have p3 : (0 : Int) ≤ (j : Int) := by omega
  have p4 : (j : Int) < (l.length : Int) := by omega
  have hw := wrap_next j (by omega)
  have f1 := fit2 o.size 1 (by omega) (by omega)
  have f2 := fit2 (o ++ (⟨#[59]⟩ : ByteArray)).size l[j].f0.size (by omega) (by omega)
  have f3 := fit2 ((o ++ (⟨#[59]⟩ : ByteArray)) ++ l[j].f0).size 1 (by omega) (by omega)
  have f4 := fit2 (((o ++ (⟨#[59]⟩ : ByteArray)) ++ l[j].f0) ++ (⟨#[61]⟩ : ByteArray)).size v.size (by omega) (by omega)
  rw [if_pos f1, if_pos f2, if_pos p3, if_pos p4, rd_at5 l j hj, hw]
  have eA : partT l[j] o v = if l[j].f1 ≠ 6 ∨ l[j].f2 = 0 then (((o ++ (⟨#[59]⟩ : ByteArray)) ++ l[j].f0) ++ (⟨#[61]⟩ : ByteArray)) ++ v else (o ++ (⟨#[59]⟩ : ByteArray)) ++ l[j].f0 := by
    apply L_inj
    rw [part_L]
    split
    · rw [L_app, L_app, L_app, L_app]
      show _ = (((L o ++ [59]) ++ L l[j].f0) ++ [61]) ++ L v
      simp
    · rw [L_app, L_app]
      show _ = (L o ++ [59]) ++ L l[j].f0
      simp
  by_cases h6 : l[j].f1 = 6
  · rw [if_pos h6]
    by_cases h1 : l[j].f2 = 1
    · rw [if_pos h1, eA, if_neg (by rintro (h | h); exact h h6; rw [h1] at h; cases h)]
    · have h0 : l[j].f2 = 0 := (hf h6).resolve_right h1
      rw [if_neg h1, if_pos f3, if_pos f4, eA, if_pos (Or.inr h0)]
  · rw [if_neg h6, if_pos f3, if_pos f4, eA, if_pos (Or.inl h6)]
/-- Whether a key stands ahead. -/
theorem tail_l1 (l : List S60) (o v : ByteArray) (j : Nat) (hl : l.length ≤ 100) (hj : j < l.length) (ho : o.size ≤ 900000) (hk : l[j].f0.size ≤ 1000) (hv : v.size ≤ 5000) (hf : l[j].f1 = 6 → l[j].f2 = 0 ∨ l[j].f2 = 1) : ∀ (m x k : Nat), x + m = j → m < k →
    (l[j].f0 ∈ ((l.take j).drop x).map (·.f0) → glacisref05_Tail.l1 k l o (j : Int) l[j].f0 v (x : Int) = some (⟨#[]⟩, 50)) ∧
    (l[j].f0 ∉ ((l.take j).drop x).map (·.f0) → ∃ k', k ≤ k' + m + 1 ∧ glacisref05_Tail.l1 k l o (j : Int) l[j].f0 v (x : Int) = glacisref05_Tail.l0 k' l (partT l[j] o v) ((j + 1 : Nat) : Int))
  | 0, x, k, hm, hkk => by
    obtain ⟨k, rfl⟩ : ∃ k', k = k' + 1 := ⟨k - 1, by omega⟩
    have e : (l.take j).drop x = [] := List.drop_eq_nil_of_le (by rw [List.length_take]; omega)
    rw [e]
    refine ⟨fun h => (by cases h), fun _ => ⟨k, by omega, ?_⟩⟩
    rw [glacisref05_Tail.l1, if_neg (by omega)]
    exact tail_cont k j l o v hl hj ho hk hv hf
  | m + 1, x, k, hm, hkk => by
    obtain ⟨k, rfl⟩ : ∃ k', k = k' + 1 := ⟨k - 1, by omega⟩
    have hx : x < (l.take j).length := by rw [List.length_take]; omega
    have hxl : x < l.length := by omega
    have e : (l.take j).drop x = l[x] :: (l.take j).drop (x + 1) := by rw [List.drop_eq_getElem_cons hx, List.getElem_take]
    have ih := tail_l1 l o v j hl hj ho hk hv hf m (x + 1) k (by omega) (by omega)
    rw [glacisref05_Tail.l1, if_pos (by omega), if_pos (by omega), if_pos (by omega), rd_at5 l x hxl, wrap_next x (by omega), e, List.map_cons]
    by_cases h : l[x].f0 = l[j].f0
    · rw [if_pos (toList_inj.2 h)]
      refine ⟨fun _ => rfl, fun hn => absurd (by rw [h]; exact List.mem_cons_self ..) hn⟩
    · rw [if_neg (fun k => h (toList_inj.1 k))]
      refine ⟨fun hm' => ih.1 ((List.mem_cons.1 hm').resolve_left (fun k => h k.symm)), fun hn => ?_⟩
      obtain ⟨k', h1, h2⟩ := ih.2 (fun k => hn (List.mem_cons_of_mem _ k))
      exact ⟨k', by omega, h2⟩
theorem tail_l0 (l : List S60) (hl : l.length ≤ 100) (hs : ∀ q ∈ l, Short q) : ∀ (m j k : Nat) (o : ByteArray) (seen : List ByteArray), j + m = l.length → 200000 + 200 * m < k → (∀ x, x ∈ seen ↔ x ∈ (l.take j).map (·.f0)) → o.size + m * 4000 ≤ 500000 →
    ∃ r, tailF (l.drop j) seen o = some r ∧ glacisref05_Tail.l0 k l o (j : Int) = some r
  | 0, j, k, o, seen, hm, hk, hse, ho => by
    obtain ⟨k, rfl⟩ : ∃ k', k = k' + 1 := ⟨k - 1, by omega⟩
    have e : l.drop j = [] := List.drop_eq_nil_of_le (by omega)
    rw [e, tailF, glacisref05_Tail.l0, if_neg (by omega)]
    exact ⟨_, rfl, rfl⟩
  | m + 1, j, k, o, seen, hm, hk, hse, ho => by
    obtain ⟨k, rfl⟩ : ∃ k', k = k' + 2 := ⟨k - 2, by omega⟩
    have hj : j < l.length := by omega
    have hp := hs _ (List.getElem_mem hj)
    have hp1 := hp.1
    obtain ⟨v, b, v', e1, e2, e3, e4⟩ := Value_f l[j].f0 l[j].f1 l[j].f2 l[j].f3 hp.2 (k + 1) (by omega)
    have hp2 := hp.2
    rw [List.drop_eq_getElem_cons hj, tailF, e1]
    simp only [Option.bind_some]
    rw [if_neg (by simp only [Decidable.not_not]; refine ⟨by omega, by omega, by omega⟩)]
    have p3 : (0 : Int) ≤ (j : Int) := by omega
    have p4 : (j : Int) < (l.length : Int) := by omega
    rw [glacisref05_Tail.l0, if_pos p4, if_pos p3, rd_at5 l j hj, key_f _ (by omega) _ (by omega)]
    simp only [Option.bind_some]
    rw [e2]
    simp only [Option.bind_some]
    have no : ∀ x y : ByteArray, glacisref05_Tail.j1 (k + 1) l o (j : Int) x y true = some (⟨#[]⟩, 50) := fun x y => by rw [glacisref05_Tail.j1, if_pos rfl]
    by_cases hK : KT (L l[j].f0)
    · have hr := key_read (L l[j].f0) [] hK (fun c r' h => by cases h) l[j].f0 (by simp)
      rw [B_L] at hr
      rw [hr, if_pos (show (refK (some (l[j].f0, B []))).2.2 = 0 from rfl), if_pos (show (refK (some (l[j].f0, B []))).2.1.toList = ([] : List UInt8) by rw [L_toList]; exact L_B [])]
      cases b with
      | false =>
        have hb : badP l[j] false seen = true := by
          cases h : badP l[j] false seen with
          | true => rfl
          | false => exact absurd (bad_not h).2.1 (by decide)
        rw [hb, if_pos rfl]
        exact ⟨_, rfl, no _ _⟩
      | true =>
        have hvv := e3 rfl
        subst hvv
        have hf : l[j].f1 = 6 → l[j].f2 = 0 ∨ l[j].f2 = 1 := fun h6 => by
          have := value_back _ _ _ _ _ e1
          rw [h6] at this
          exact flag_any this
        have hl1 := tail_l1 l o v' j hl hj (by omega) hp1 (by omega) hf j 0 k (by omega) (by omega)
        rw [List.drop_zero] at hl1
        show ∃ r, _ ∧ glacisref05_Tail.j1 (k + 1) l o (j : Int) l[j].f0 v' (!true) = some r
        rw [glacisref05_Tail.j1, if_neg (show ¬ ((!true) = true) by decide)]
        by_cases hd : l[j].f0 ∈ (l.take j).map (·.f0)
        · have hb : badP l[j] true seen = true := by
            cases h : badP l[j] true seen with
            | true => rfl
            | false => exact absurd ((hse _).2 hd) (bad_not h).2.2
          rw [hb, if_pos rfl]
          exact ⟨_, rfl, hl1.1 hd⟩
        · rw [bad_of hK rfl (fun h => hd ((hse _).1 h)), if_neg (by decide)]
          obtain ⟨k', h1, h2⟩ := hl1.2 hd
          have hsz := part_size l[j] o v'
          obtain ⟨r, q1, q2⟩ := tail_l0 l hl hs m (j + 1) k' (partT l[j] o v') (l[j].f0 :: seen) (by omega) (by omega) (fun x => by
            rw [take_snoc l j hj, List.map_append, List.mem_cons, List.mem_append, hse x]
            simp only [List.map_cons, List.map_nil, List.mem_singleton]
            exact Or.comm) (by omega)
          exact ⟨r, q1, by rw [← q2]; exact h2⟩
    · have hb : badP l[j] b seen = true := by
        cases h : badP l[j] b seen with
        | true => rfl
        | false => exact absurd (bad_not h).1 hK
      rw [hb, if_pos rfl]
      refine ⟨_, rfl, ?_⟩
      by_cases c1 : (refK (rdKey l[j].f0)).2.2 = 0
      · rw [if_pos c1]
        by_cases c2 : (refK (rdKey l[j].f0)).2.1.toList = ([] : List UInt8)
        · exfalso
          apply hK
          have a1 : (keyF l[j].f0) = refK (rdKey l[j].f0) := by unfold keyF refK; cases rdKey l[j].f0 <;> rfl
          exact key_all (by rw [a1]; exact c1) (by rw [a1]; exact c2)
        · rw [if_neg c2]; exact no _ _
      · rw [if_neg c1]; exact no _ _
theorem Tail_f (l : List S60) (hl : l.length ≤ 100) (hs : ∀ q ∈ l, Short q) (k : Nat) (hk : 300000 ≤ k) : ∃ r, sfitem_Tail.f l = some r ∧ glacisref05_Tail.f k l = some r := by
  unfold sfitem_Tail.f glacisref05_Tail.f
  rw [if_pos (by omega)]
  have := tail_l0 l hl hs l.length 0 k ⟨#[]⟩ [] (by omega) (by omega) (fun x => by simp) (by show 0 + _ ≤ _; omega)
  exact this
theorem Text_f (n i : Int) (t : ByteArray) (l : List S60) (hl : l.length ≤ 100) (ht : t.size ≤ 1000) (hs : ∀ q ∈ l, Short q) (k : Nat) (hk : 300000 ≤ k) : ∃ r, sfitem_Text.f n i t l = some r ∧ glacisref05_Text.f k n i t l = some r := by
  obtain ⟨v, b, v', e1, e2, e3, e4⟩ := Value_f ⟨#[]⟩ n i t ht k (by omega)
  have z0 : (⟨#[]⟩ : ByteArray).size = 0 := rfl
  obtain ⟨o, e, ho, hoz⟩ := tail_any l [] ⟨#[]⟩ hs (by omega)
  obtain ⟨r, q1, q2⟩ := Tail_f l hl hs k hk
  have q3 : sfitem_Tail.f l = some (o, e) := by unfold sfitem_Tail.f; rw [if_pos (by omega), ho]
  obtain rfl : r = (o, e) := Option.some.inj (q1.symm.trans q3)
  unfold sfitem_Text.f glacisref05_Text.f
  rw [e1, e2, q1, q2]
  simp only [Option.bind_some]
  cases b with
  | false => exact ⟨_, rfl, rfl⟩
  | true =>
    rw [e3 rfl]
    have f := fit2 v.size o.size (by omega) (by omega)
    refine ⟨if e = 0 then (v ++ o, 0) else (⟨#[]⟩, 50), ?_, ?_⟩ <;>
    · by_cases he : e = 0
      · simp only [he, if_true, f]
      · simp only [he, if_true, if_false]
end Go.Proofs.YtjdbiicjfpgjkaaGreatDoor.Pl
namespace Go.Proofs.YtjdbiicjfpgjkaaGreatDoor.Q
open Go.RowKit Go.Proofs.YtjdbiicjfpgjkaaGreatDoorW.PrintWords Go.Proofs.YtjdbiicjfpgjkaaGreatDoorW.PrintLast Go.Proofs.YtjdbiicjfpgjkaaGreatDoorW.PrintMore
set_option linter.unusedVariables false
set_option linter.unusedSimpArgs false
def glacisref06_text.l0 : Nat → ByteArray → Int → ByteArray → Bool → Int → Int → ByteArray → List (S60) → List (S31) → List (S60) → Option (ByteArray × Bool)
 | 0, _, _, _, _, _, _, _, _, _, _ => none
 | k + 1, x7, x8, x563000, x563001, x563002, x563003, x563004, x563005, x563006, x563007 => if x8 < (x563006.length : Int) then (if 0 ≤ x8 then ((glacisref05_Text.f k ((rd_T31 x563006 x8).f0) ((rd_T31 x563006 x8).f1) ((rd_T31 x563006 x8).f2) ((rd_T31 x563006 x8).f3)).bind fun bt569 => (if bt569.2 = 0 then (if x8 > 0 then (if x7.size + 1 ≤ 9223372036854775807 then (if (x7 ++ (⟨#[32]⟩ : ByteArray)).size + bt569.1.size ≤ 9223372036854775807 then (glacisref06_text.l0 k ((x7 ++ (⟨#[32]⟩ : ByteArray)) ++ bt569.1) (wrap64 (x8 + 1)) x563000 x563001 x563002 x563003 x563004 x563005 x563006 x563007) else (none)) else (none)) else (if x7.size + bt569.1.size ≤ 9223372036854775807 then (glacisref06_text.l0 k (x7 ++ bt569.1) (wrap64 (x8 + 1)) x563000 x563001 x563002 x563003 x563004 x563005 x563006 x563007) else (none))) else (some ((⟨#[]⟩ : ByteArray), false)))) else (none)) else ((glacisref05_Tail.f k x563007).bind fun bt566 => (if x7.size + 1 ≤ 9223372036854775807 then (if (x7 ++ (⟨#[41]⟩ : ByteArray)).size + bt566.1.size ≤ 9223372036854775807 then (some ((x7 ++ (⟨#[41]⟩ : ByteArray)) ++ bt566.1, (bt566.2 == 0))) else (none)) else (none)))
def glacisref06_text.f (k : Nat) (a0_0 : ByteArray) (a0_1 : Bool) (a0_2 : Int) (a0_3 : Int) (a0_4 : ByteArray) (l0_5 : List (S60)) (l0_6 : List (S31)) (l0_7 : List (S60)) : Option (ByteArray × Bool) := if a0_1 = true then ((glacisref06_bare.f a0_2 a0_3 a0_4 l0_5).bind fun t565 => (if t565 = true then (glacisref06_text.l0 k (⟨#[40]⟩ : ByteArray) 0 a0_0 a0_1 a0_2 a0_3 a0_4 l0_5 l0_6 l0_7) else (some ((⟨#[]⟩ : ByteArray), false)))) else ((glacisref05_Text.f k a0_2 a0_3 a0_4 l0_5).bind fun bt563 => (if bt563.2 = 0 then (if (l0_6.length : Int) = 0 then (some (bt563.1, ((l0_7.length : Int) == 0))) else (some (bt563.1, false))) else (some (bt563.1, false))))
mutual
def glacisref06_ListText.l0 : Nat → List (S34) → ByteArray → Int → Option (ByteArray × Int)
 | 0, _, _, _ => none
 | k + 1, x0, x4, x5 => if x5 < (x0.length : Int) then (if 0 ≤ x5 then ((glacisref06_text.f k ((rd_T34 x0 x5).f0) ((rd_T34 x0 x5).f1) ((rd_T34 x0 x5).f2.f0) ((rd_T34 x0 x5).f2.f1) ((rd_T34 x0 x5).f2.f2) ((rd_T34 x0 x5).f2.f3) ((rd_T34 x0 x5).f3) ((rd_T34 x0 x5).f4)).bind fun bt572 => (if bt572.2 = true then (glacisref06_ListText.j1 k x0 x4 x5 bt572.1 (((rd_T34 x0 x5).f0).toList != ([] : List UInt8))) else (glacisref06_ListText.j1 k x0 x4 x5 bt572.1 true))) else (none)) else (some (x4, 0))
def glacisref06_ListText.j1 : Nat → List (S34) → ByteArray → Int → ByteArray → Bool → Option (ByteArray × Int)
 | 0, _, _, _, _, _ => none
 | k + 1, x0, x4, x5, x6, x31 => if x31 = true then (some ((⟨#[]⟩ : ByteArray), 50)) else (if x5 > 0 then (if x4.size + 2 ≤ 9223372036854775807 then (if (x4 ++ (⟨#[44, 32]⟩ : ByteArray)).size + x6.size ≤ 9223372036854775807 then (glacisref06_ListText.l0 k x0 ((x4 ++ (⟨#[44, 32]⟩ : ByteArray)) ++ x6) (wrap64 (x5 + 1))) else (none)) else (none)) else (if x4.size + x6.size ≤ 9223372036854775807 then (glacisref06_ListText.l0 k x0 (x4 ++ x6) (wrap64 (x5 + 1))) else (none)))
end
def glacisref06_ListText.f (k : Nat) (l0 : List (S34)) : Option (ByteArray × Int) := glacisref06_ListText.l0 k l0 (⟨#[]⟩ : ByteArray) 0
end Go.Proofs.YtjdbiicjfpgjkaaGreatDoor.Q
namespace Go.Proofs.YtjdbiicjfpgjkaaGreatDoor.Q
open Go.RowKit Go.Proofs.YtjdbiicjfpgjkaaGreatDoorW.PrintWords Go.Proofs.YtjdbiicjfpgjkaaGreatDoorW.PrintLast Go.Proofs.YtjdbiicjfpgjkaaGreatDoorW.PrintMore
set_option linter.unusedVariables false
set_option linter.unusedSimpArgs false
mutual
def glacisref06_DictText.l0 : Nat → List (S34) → ByteArray → Int → Option (ByteArray × Int)
 | 0, _, _, _ => none
 | k + 1, x0, x4, x5 => if x5 < (x0.length : Int) then (if 0 ≤ x5 then ((glacisref06_text.f k ((rd_T34 x0 x5).f0) ((rd_T34 x0 x5).f1) ((rd_T34 x0 x5).f2.f0) ((rd_T34 x0 x5).f2.f1) ((rd_T34 x0 x5).f2.f2) ((rd_T34 x0 x5).f2.f3) ((rd_T34 x0 x5).f3) ((rd_T34 x0 x5).f4)).bind fun bt576 => ((glacisref05_Key.f k ((rd_T34 x0 x5).f0)).bind fun bt579 => (glacisref06_DictText.l1 k x0 x4 x5 bt576.1 bt576.2 bt579.1 bt579.2.1 bt579.2.2 0))) else (none)) else (some (x4, 0))
def glacisref06_DictText.l1 : Nat → List (S34) → ByteArray → Int → ByteArray → Bool → ByteArray → ByteArray → Int → Int → Option (ByteArray × Int)
 | 0, _, _, _, _, _, _, _, _, _ => none
 | k + 1, x0, x4, x5, x6, x7, x8, x9, x10, x11 => if x11 < x5 then (if x7 = true then (if 0 ≤ x11 then (if x11 < (x0.length : Int) then (if 0 ≤ x5 then (if x5 < (x0.length : Int) then (glacisref06_DictText.l1 k x0 x4 x5 x6 (((rd_T34 x0 x11).f0).toList != ((rd_T34 x0 x5).f0).toList) x8 x9 x10 (wrap64 (x11 + 1))) else (none)) else (none)) else (none)) else (none)) else (glacisref06_DictText.l1 k x0 x4 x5 x6 false x8 x9 x10 (wrap64 (x11 + 1)))) else (if x7 = true then (if x10 = 0 then (glacisref06_DictText.j2 k x0 x4 x5 x6 x8 (x9.toList != ([] : List UInt8))) else (glacisref06_DictText.j2 k x0 x4 x5 x6 x8 true)) else (glacisref06_DictText.j2 k x0 x4 x5 x6 x8 true))
def glacisref06_DictText.j2 : Nat → List (S34) → ByteArray → Int → ByteArray → ByteArray → Bool → Option (ByteArray × Int)
 | 0, _, _, _, _, _, _ => none
 | k + 1, x0, x4, x5, x6, x8, x66 => if x66 = true then (some ((⟨#[]⟩ : ByteArray), 50)) else (if x5 > 0 then (if x4.size + 2 ≤ 9223372036854775807 then (if 0 ≤ x5 then (if x5 < (x0.length : Int) then (if ((rd_T34 x0 x5).f1 = true) then (if (x4 ++ (⟨#[44, 32]⟩ : ByteArray)).size + x8.size ≤ 9223372036854775807 then (if ((x4 ++ (⟨#[44, 32]⟩ : ByteArray)) ++ x8).size + 1 ≤ 9223372036854775807 then (if (((x4 ++ (⟨#[44, 32]⟩ : ByteArray)) ++ x8) ++ (⟨#[61]⟩ : ByteArray)).size + x6.size ≤ 9223372036854775807 then (glacisref06_DictText.l0 k x0 ((((x4 ++ (⟨#[44, 32]⟩ : ByteArray)) ++ x8) ++ (⟨#[61]⟩ : ByteArray)) ++ x6) (wrap64 (x5 + 1))) else (none)) else (none)) else (none)) else (if ((rd_T34 x0 x5).f2.f0) = 6 then (if ((rd_T34 x0 x5).f2.f1) = 1 then ((glacisref05_Tail.f k ((rd_T34 x0 x5).f2.f3)).bind fun bt588 => (if (x4 ++ (⟨#[44, 32]⟩ : ByteArray)).size + x8.size ≤ 9223372036854775807 then (if ((x4 ++ (⟨#[44, 32]⟩ : ByteArray)) ++ x8).size + bt588.1.size ≤ 9223372036854775807 then (glacisref06_DictText.l0 k x0 (((x4 ++ (⟨#[44, 32]⟩ : ByteArray)) ++ x8) ++ bt588.1) (wrap64 (x5 + 1))) else (none)) else (none))) else (if (x4 ++ (⟨#[44, 32]⟩ : ByteArray)).size + x8.size ≤ 9223372036854775807 then (if ((x4 ++ (⟨#[44, 32]⟩ : ByteArray)) ++ x8).size + 1 ≤ 9223372036854775807 then (if (((x4 ++ (⟨#[44, 32]⟩ : ByteArray)) ++ x8) ++ (⟨#[61]⟩ : ByteArray)).size + x6.size ≤ 9223372036854775807 then (glacisref06_DictText.l0 k x0 ((((x4 ++ (⟨#[44, 32]⟩ : ByteArray)) ++ x8) ++ (⟨#[61]⟩ : ByteArray)) ++ x6) (wrap64 (x5 + 1))) else (none)) else (none)) else (none))) else (if (x4 ++ (⟨#[44, 32]⟩ : ByteArray)).size + x8.size ≤ 9223372036854775807 then (if ((x4 ++ (⟨#[44, 32]⟩ : ByteArray)) ++ x8).size + 1 ≤ 9223372036854775807 then (if (((x4 ++ (⟨#[44, 32]⟩ : ByteArray)) ++ x8) ++ (⟨#[61]⟩ : ByteArray)).size + x6.size ≤ 9223372036854775807 then (glacisref06_DictText.l0 k x0 ((((x4 ++ (⟨#[44, 32]⟩ : ByteArray)) ++ x8) ++ (⟨#[61]⟩ : ByteArray)) ++ x6) (wrap64 (x5 + 1))) else (none)) else (none)) else (none)))) else (none)) else (none)) else (none)) else (if 0 ≤ x5 then (if x5 < (x0.length : Int) then (if ((rd_T34 x0 x5).f1 = true) then (if x4.size + x8.size ≤ 9223372036854775807 then (if (x4 ++ x8).size + 1 ≤ 9223372036854775807 then (if ((x4 ++ x8) ++ (⟨#[61]⟩ : ByteArray)).size + x6.size ≤ 9223372036854775807 then (glacisref06_DictText.l0 k x0 (((x4 ++ x8) ++ (⟨#[61]⟩ : ByteArray)) ++ x6) (wrap64 (x5 + 1))) else (none)) else (none)) else (none)) else (if ((rd_T34 x0 x5).f2.f0) = 6 then (if ((rd_T34 x0 x5).f2.f1) = 1 then ((glacisref05_Tail.f k ((rd_T34 x0 x5).f2.f3)).bind fun bt594 => (if x4.size + x8.size ≤ 9223372036854775807 then (if (x4 ++ x8).size + bt594.1.size ≤ 9223372036854775807 then (glacisref06_DictText.l0 k x0 ((x4 ++ x8) ++ bt594.1) (wrap64 (x5 + 1))) else (none)) else (none))) else (if x4.size + x8.size ≤ 9223372036854775807 then (if (x4 ++ x8).size + 1 ≤ 9223372036854775807 then (if ((x4 ++ x8) ++ (⟨#[61]⟩ : ByteArray)).size + x6.size ≤ 9223372036854775807 then (glacisref06_DictText.l0 k x0 (((x4 ++ x8) ++ (⟨#[61]⟩ : ByteArray)) ++ x6) (wrap64 (x5 + 1))) else (none)) else (none)) else (none))) else (if x4.size + x8.size ≤ 9223372036854775807 then (if (x4 ++ x8).size + 1 ≤ 9223372036854775807 then (if ((x4 ++ x8) ++ (⟨#[61]⟩ : ByteArray)).size + x6.size ≤ 9223372036854775807 then (glacisref06_DictText.l0 k x0 (((x4 ++ x8) ++ (⟨#[61]⟩ : ByteArray)) ++ x6) (wrap64 (x5 + 1))) else (none)) else (none)) else (none)))) else (none)) else (none)))
end
def glacisref06_DictText.f (k : Nat) (l0 : List (S34)) : Option (ByteArray × Int) := glacisref06_DictText.l0 k l0 (⟨#[]⟩ : ByteArray) 0
end Go.Proofs.YtjdbiicjfpgjkaaGreatDoor.Q
/- Chapter 6: few members' texts, by the program and by the document. -/
namespace Go.Proofs.YtjdbiicjfpgjkaaGreatDoor.Pl
open Go.RowKit Go.Proofs.YtjdbiicjfpgjkaaGreatDoor.Q Go.Proofs.YtjdbiicjfpgjkaaGreatDoor.Sf Go.Proofs.YtjdbiicjfpgjkaaGreatDoorW.PrintWords Go.Proofs.YtjdbiicjfpgjkaaGreatDoorW.PrintLast
set_option linter.unusedVariables false
set_option linter.unusedSimpArgs false
theorem few_item {x : S31} (h : fewI x = true) : x.f3.length ≤ 50 ∧ x.f2.size ≤ 200 ∧ ∀ q ∈ x.f3, Short q := by
  unfold fewI at h
  simp only [Bool.and_eq_true, decide_eq_true_eq, List.all_eq_true] at h
  refine ⟨h.1, h.2.1, fun q hq => ?_⟩
  have := h.2.2 q hq
  unfold fewP at this
  simp only [Bool.and_eq_true, decide_eq_true_eq] at this
  exact ⟨by omega, by omega⟩
theorem few_memb {m : S34} (h : fewM m = true) : m.f3.length ≤ 50 ∧ m.f4.length ≤ 50 ∧ m.f0.size ≤ 200 ∧ (∀ x ∈ m.f3, fewI x = true) ∧ fewI m.f2 = true ∧ ∀ q ∈ m.f4, Short q := by
  unfold fewM at h
  simp only [Bool.and_eq_true, decide_eq_true_eq, List.all_eq_true] at h
  obtain ⟨h1, h2, h3, h4⟩ := h
  unfold allI at h4
  refine ⟨h1, h2, h3, fun x hx => h4 x (List.mem_append_left _ hx), h4 m.f2 (List.mem_append_right _ (by simp)), ?_⟩
  exact (few_item (h4 ⟨0, 0, ⟨#[]⟩, m.f4⟩ (List.mem_append_right _ (by simp)))).2.2
theorem text_sz {n i : Int} {t : ByteArray} {l : List S60} (hl : l.length ≤ 100) (ht : t.size ≤ 1000) (hs : ∀ q ∈ l, Short q) {o : ByteArray} {e : Int} (h : sfitem_Text.f n i t l = some (o, e)) : o.size ≤ 2 * t.size + 20 + l.length * 4000 := by
  have z0 : (⟨#[]⟩ : ByteArray).size = 0 := rfl
  obtain ⟨v, b, hv, hvz⟩ := value_any ⟨#[]⟩ n i t ht
  obtain ⟨o2, e2, ho, hoz⟩ := tail_any l [] ⟨#[]⟩ hs (by omega)
  unfold sfitem_Text.f sfitem_Tail.f at h
  rw [hv, Option.bind_some, if_pos (by omega), ho, Option.bind_some] at h
  dsimp only at h
  split at h
  · split at h
    · rw [if_pos (by omega)] at h
      obtain ⟨rfl, _⟩ := Prod.mk.inj (Option.some.inj h)
      rw [ByteArray.size_append]; omega
    · obtain ⟨rfl, _⟩ := Prod.mk.inj (Option.some.inj h)
      omega
  · obtain ⟨rfl, _⟩ := Prod.mk.inj (Option.some.inj h)
    omega
/-- An item's text, by both. -/
theorem item_f {x : S31} (h : fewI x = true) (k : Nat) (hk : 300000 ≤ k) : ∃ o e, sfitem_Text.f x.f0 x.f1 x.f2 x.f3 = some (o, e) ∧ glacisref05_Text.f k x.f0 x.f1 x.f2 x.f3 = some (o, e) ∧ o.size ≤ 201000 := by
  obtain ⟨h1, h2, h3⟩ := few_item h
  obtain ⟨⟨o, e⟩, a1, a2⟩ := Text_f x.f0 x.f1 x.f2 x.f3 (by omega) (by omega) h3 k hk
  have := text_sz (by omega) (by omega) h3 a1
  exact ⟨o, e, a1, a2, by omega⟩
theorem tail_f6 {l : List S60} (hl : l.length ≤ 50) (hs : ∀ q ∈ l, Short q) (k : Nat) (hk : 300000 ≤ k) : ∃ o e, sfitem_Tail.f l = some (o, e) ∧ glacisref05_Tail.f k l = some (o, e) ∧ o.size ≤ 201000 := by
  obtain ⟨⟨o, e⟩, a1, a2⟩ := Tail_f l (by omega) hs k hk
  obtain ⟨o2, e2, ho, hoz⟩ := tail_any l [] ⟨#[]⟩ hs (by show 0 + _ ≤ _; omega)
  have z0 : (⟨#[]⟩ : ByteArray).size = 0 := rfl
  have a3 := a1
  unfold sfitem_Tail.f at a3
  rw [if_pos (by omega), ho] at a3
  obtain ⟨rfl, _⟩ := Prod.mk.inj (Option.some.inj a3)
  exact ⟨_, _, a1, a2, by omega⟩
theorem joinBA_nil (sep : ByteArray) : joinBA [] sep = ⟨#[]⟩ := rfl
theorem joinBA_snoc (l : List ByteArray) (x sep : ByteArray) : joinBA (l ++ [x]) sep = if l = [] then x else (joinBA l sep ++ sep) ++ x := by
  apply L_inj
  cases l with
  | nil =>
    rw [if_pos rfl, List.nil_append, join_L]
    simp
  | cons t ts =>
    rw [if_neg (by simp), List.cons_append, join_L, L_app, L_app, join_L]
    simp
theorem joinBA_le (sep : ByteArray) (c : Nat) (l : List ByteArray) (h : ∀ x ∈ l, x.size ≤ c) : (joinBA l sep).size ≤ l.length * (c + sep.size) := by
  have key : ∀ ts : List ByteArray, (∀ x ∈ ts, x.size ≤ c) → (ts.map (fun x => L sep ++ L x)).flatten.length ≤ ts.length * (c + sep.size) := by
    intro ts
    induction ts with
    | nil => intro _; simp
    | cons x ts ih =>
      intro h
      have h1 := h x (List.mem_cons_self ..)
      have h2 := ih (fun y hy => h y (List.mem_cons_of_mem _ hy))
      rw [List.map_cons, List.flatten_cons, List.length_append, List.length_append, List.length_cons, Nat.succ_mul, ← size_L, ← size_L]
      omega
  cases l with
  | nil => exact Nat.zero_le _
  | cons t ts =>
    have h1 := h t (List.mem_cons_self ..)
    have h2 := key ts (fun y hy => h y (List.mem_cons_of_mem _ hy))
    rw [size_L, join_L, List.length_append, List.length_cons, Nat.succ_mul, ← size_L]
    omega
theorem join_s {l : List ByteArray} {sep : ByteArray} (c : Nat) (h : ∀ x ∈ l, x.size ≤ c) (hl : l.length ≤ 1000) (hc : c ≤ 1000000000) (hs : sep.size ≤ 2) : strings_Join.f l sep = some (joinBA l sep) := by
  have h1 := joinBA_le sep c l h
  have h2 : l.length * (c + sep.size) ≤ 1000 * 1000000002 := Nat.mul_le_mul hl (by omega)
  exact if_pos ⟨by omega, by omega⟩
def brk (o : List ByteArray) : ByteArray := (⟨#[40]⟩ : ByteArray) ++ joinBA o ⟨#[32]⟩
theorem brk_snoc (o : List ByteArray) (t : ByteArray) (h : o ≠ []) : brk (o ++ [t]) = (brk o ++ (⟨#[32]⟩ : ByteArray)) ++ t := by
  unfold brk
  rw [joinBA_snoc, if_neg h]
  apply L_inj
  simp only [L_app, List.append_assoc]
theorem brk_one (t : ByteArray) : brk [t] = brk [] ++ t := by
  unfold brk
  have := joinBA_snoc [] t ⟨#[32]⟩
  rw [List.nil_append, if_pos rfl] at this
  rw [this, joinBA_nil]
  apply L_inj
  simp only [L_app, List.append_assoc]
  rfl
theorem brk_size (o : List ByteArray) (h : ∀ x ∈ o, x.size ≤ 201000) (hl : o.length ≤ 50) : (brk o).size ≤ 10100000 := by
  have h1 := joinBA_le ⟨#[32]⟩ 201000 o h
  have z1 : (⟨#[32]⟩ : ByteArray).size = 1 := rfl
  have z2 : (⟨#[40]⟩ : ByteArray).size = 1 := rfl
  have h2 : o.length * (201000 + 1) ≤ 50 * (201000 + 1) := Nat.mul_le_mul_right _ hl
  unfold brk
  rw [ByteArray.size_append]
  rw [z1] at h1
  omega
/-- What the loop over items answers. -/
def refI (x : Option (List ByteArray × Int)) (u : ByteArray × Int) : Option (ByteArray × Bool) := x.bind fun o => if o.2 = 0 then some ((brk o.1 ++ (⟨#[41]⟩ : ByteArray)) ++ u.1, u.2 == 0) else some (⟨#[]⟩, false)
theorem items_f (a0 : ByteArray) (a1 : Bool) (a2 a3 : Int) (a4 : ByteArray) (l5 : List S60) (l6 : List S31) (l7 : List S60) (h6 : l6.length ≤ 50) (hf : ∀ x ∈ l6, fewI x = true) (u : ByteArray × Int) (hu : ∀ k, 300000 ≤ k → glacisref05_Tail.f k l7 = some u) (hz : u.1.size ≤ 201000) :
    ∀ (m j k : Nat) (o : List ByteArray), j + m = l6.length → 300000 + m < k → o.length = j → (∀ x ∈ o, x.size ≤ 201000) →
      ∃ r, textL (l6.drop j) o = some r ∧ (r.2 = 0 → r.1.length ≤ 50 ∧ ∀ x ∈ r.1, x.size ≤ 201000) ∧ glacisref06_text.l0 k (brk o) (j : Int) a0 a1 a2 a3 a4 l5 l6 l7 = refI (some r) u
  | 0, j, k, o, hj, hk, ho, hx => by
    obtain ⟨k, rfl⟩ : ∃ k', k = k' + 1 := ⟨k - 1, by omega⟩
    have hb := brk_size o hx (by omega)
    have z1 : (⟨#[41]⟩ : ByteArray).size = 1 := rfl
    rw [List.drop_eq_nil_of_le (by omega), textL]
    refine ⟨_, rfl, fun _ => ⟨by dsimp only; omega, hx⟩, ?_⟩
    rw [glacisref06_text.l0, if_neg (by omega), hu k (by omega), Option.bind_some, if_pos (by omega), if_pos (by rw [ByteArray.size_append]; omega)]
    rfl
  | m + 1, j, k, o, hj, hk, ho, hx => by
    obtain ⟨k, rfl⟩ : ∃ k', k = k' + 1 := ⟨k - 1, by omega⟩
    have hjl : j < l6.length := by omega
    have hb := brk_size o hx (by omega)
    have z1 : (⟨#[32]⟩ : ByteArray).size = 1 := rfl
    obtain ⟨t, e, t1, t2, t3⟩ := item_f (hf _ (List.getElem_mem hjl)) k (by omega)
    rw [List.drop_eq_getElem_cons hjl, textL, t1, Option.bind_some, glacisref06_text.l0, if_pos (show (j : Int) < (l6.length : Int) by omega), if_pos (show 0 ≤ (j : Int) by omega), rd_item l6 j hjl, t2, Option.bind_some]
    dsimp only
    by_cases he : e = 0
    · rw [if_neg (show ¬ e ≠ 0 by simpa using he), if_pos (show o.length < 1000000 by omega), if_pos he]
      obtain ⟨r, r1, r2, r3⟩ := items_f a0 a1 a2 a3 a4 l5 l6 l7 h6 hf u hu hz m (j + 1) k (o ++ [t]) (by omega) (by omega) (by rw [List.length_append, List.length_singleton]; omega) (fun x h => by
        rcases List.mem_append.1 h with h | h
        · exact hx x h
        · rw [List.mem_singleton.1 h]; exact t3)
      refine ⟨r, r1, r2, ?_⟩
      rw [← r3, wrap_next j (by omega)]
      by_cases h0 : j = 0
      · obtain rfl : o = [] := List.length_eq_zero_iff.1 (by omega)
        rw [if_neg (by omega), if_pos (by omega), List.nil_append, brk_one]
      · have hne : o ≠ [] := fun h => by rw [h] at ho; exact h0 (by rw [← ho]; rfl)
        rw [if_pos (by omega), if_pos (by omega), if_pos (by rw [ByteArray.size_append]; omega), brk_snoc o t hne]
    · rw [if_pos (show e ≠ 0 from he), if_neg he]
      refine ⟨_, rfl, fun h => absurd h he, ?_⟩
      unfold refI
      rw [Option.bind_some, if_neg he]
theorem bare_f (a2 a3 : Int) (a4 : ByteArray) (l5 : List S60) : glacisref06_bare.f a2 a3 a4 l5 = some (!(decide (a2 ≠ 0 ∨ a3 ≠ 0 ∨ a4.toList ≠ [] ∨ l5.length > 0))) := by
  unfold glacisref06_bare.f
  by_cases h2 : a2 = 0
  · rw [if_pos h2]
    by_cases h3 : a3 = 0
    · rw [if_pos h3]
      by_cases h4 : a4.toList = []
      · rw [if_pos h4]
        by_cases h5 : l5.length = 0
        · simp [h2, h3, h4, h5]
        · have : 0 < l5.length := by omega
          have hb : ((l5.length : Int) == 0) = false := by rw [beq_eq_false_iff_ne]; omega
          rw [hb, decide_eq_true (.inr (.inr (.inr this)))]
          rfl
      · rw [if_neg h4]; simp [h4]
    · rw [if_neg h3]; simp [h3]
  · rw [if_neg h2]; simp [h2]
/-- A member's text, by both. -/
theorem text_f6 (m : S34) (h : fewM m = true) (kk k : Nat) (hk : 300100 ≤ k) :
    ∃ o e o' b, sfield_text.f kk m.f0 m.f1 m.f2.f0 m.f2.f1 m.f2.f2 m.f2.f3 m.f3 m.f4 = some (o, e) ∧ glacisref06_text.f k m.f0 m.f1 m.f2.f0 m.f2.f1 m.f2.f2 m.f2.f3 m.f3 m.f4 = some (o', b) ∧ b = decide (e = 0) ∧ (e = 0 → o' = o ∧ o.size ≤ 10400000) ∧ o.size ≤ 10400000 := by
  obtain ⟨h1, h2, h3, h4, h5, h6⟩ := few_memb h
  obtain ⟨t, e, t1, t2, t3⟩ := item_f h5 k (by omega)
  obtain ⟨u, ue, u1, u2, u3⟩ := tail_f6 h2 h6 k (by omega)
  have z0 : (⟨#[]⟩ : ByteArray).size = 0 := rfl
  unfold sfield_text.f glacisref06_text.f
  rw [if_neg (by simp only [Decidable.not_not]; omega)]
  cases hin : m.f1 with
  | false =>
    rw [if_pos rfl, if_neg (show ¬ (false = true) by decide), t1, t2, Option.bind_some]
    dsimp only
    by_cases hz : m.f3.length + m.f4.length > 0
    · rw [if_pos hz]
      by_cases he : e = 0
      · rw [if_pos he]
        by_cases h3z : (m.f3.length : Int) = 0
        · rw [if_pos h3z]
          refine ⟨_, _, _, _, rfl, rfl, ?_, fun k => (by cases k), by omega⟩
          rw [show decide ((50 : Int) = 0) = false from rfl, beq_eq_false_iff_ne]
          omega
        · rw [if_neg h3z]
          exact ⟨_, _, _, _, rfl, rfl, rfl, fun k => (by cases k), by omega⟩
      · rw [if_neg he]
        exact ⟨_, _, _, _, rfl, rfl, rfl, fun k => (by cases k), by omega⟩
    · rw [if_neg hz]
      by_cases he : e = 0
      · rw [if_pos he, if_pos (by omega)]
        refine ⟨_, _, _, _, rfl, rfl, ?_, fun _ => ⟨rfl, by omega⟩, by omega⟩
        rw [decide_eq_true he, beq_iff_eq]
        omega
      · rw [if_neg he]
        exact ⟨_, _, _, _, rfl, rfl, by rw [decide_eq_false he], fun k => absurd k he, by omega⟩
  | true =>
    rw [if_neg (show ¬ (true = false) by decide), if_pos rfl, bare_f, Option.bind_some]
    by_cases hb : m.f2.f0 ≠ 0 ∨ m.f2.f1 ≠ 0 ∨ m.f2.f2.toList ≠ [] ∨ m.f2.f3.length > 0
    · rw [if_pos hb, decide_eq_true hb, if_neg (by decide)]
      exact ⟨_, _, _, _, rfl, rfl, rfl, fun k => (by cases k), by omega⟩
    · rw [if_neg hb, decide_eq_false hb, if_pos (show (!false) = true from rfl)]
      obtain ⟨⟨o, oe⟩, r1, r2, r3⟩ := items_f m.f0 true m.f2.f0 m.f2.f1 m.f2.f2 m.f2.f3 m.f3 m.f4 h1 h4 (u, ue) (fun k' hk' => by
        obtain ⟨v, ve, v1, v2, v3⟩ := tail_f6 h2 h6 k' hk'
        rw [u1] at v1
        rw [v2, ← Option.some.inj v1]) u3 m.f3.length 0 k [] (by omega) (by omega) rfl (fun x hx => by cases hx)
      rw [List.drop_zero] at r1
      have e0 : brk [] = (⟨#[40]⟩ : ByteArray) := by unfold brk; rw [joinBA_nil]; rfl
      rw [e0] at r3
      rw [show ((0 : Nat) : Int) = 0 from rfl] at r3
      rw [r1, r3, Option.bind_some]
      unfold refI
      rw [Option.bind_some]
      dsimp only
      by_cases he : oe = 0
      · obtain ⟨g1, g2⟩ := r2 he
        dsimp only at g1 g2
        rw [if_neg (by simpa using he), if_pos he, u1, Option.bind_some, join_s 201000 g2 (by omega) (by omega) (by show (1 : Nat) ≤ 2; omega), Option.bind_some]
        have hs := brk_size o g2 g1
        have hj : (joinBA o ⟨#[32]⟩).size ≤ (brk o).size := by unfold brk; rw [ByteArray.size_append]; omega
        have z1 : (⟨#[41]⟩ : ByteArray).size = 1 := rfl
        have ep : parT (joinBA o ⟨#[32]⟩) u = (brk o ++ (⟨#[41]⟩ : ByteArray)) ++ u := rfl
        have hps : (parT (joinBA o ⟨#[32]⟩) u).size ≤ 10400000 := by
          rw [ep, ByteArray.size_append, ByteArray.size_append]; omega
        rw [if_pos ⟨by omega, by dsimp only; omega⟩]
        refine ⟨_, _, _, _, rfl, rfl, ?_, fun _ => ⟨rfl, hps⟩, hps⟩
        by_cases hue : ue = 0
        · rw [decide_eq_true hue, hue]; rfl
        · rw [decide_eq_false hue, beq_eq_false_iff_ne]; exact hue
      · rw [if_pos he, if_neg he]
        exact ⟨_, _, _, _, rfl, rfl, by rw [decide_eq_false he], fun k => absurd k he, by omega⟩
end Go.Proofs.YtjdbiicjfpgjkaaGreatDoor.Pl
/- Chapter 6: a list's and a dictionary's text, by the program and by the document. -/
namespace Go.Proofs.YtjdbiicjfpgjkaaGreatDoor.Pl
open Go.RowKit Go.Proofs.YtjdbiicjfpgjkaaGreatDoor.Q Go.Proofs.YtjdbiicjfpgjkaaGreatDoor.Sf Go.Proofs.YtjdbiicjfpgjkaaGreatDoorW.PrintWords Go.Proofs.YtjdbiicjfpgjkaaGreatDoorW.PrintLast
set_option linter.unusedVariables false
set_option linter.unusedSimpArgs false
/-- A list's text. -/
def listT : List S34 → List ByteArray → Option (ByteArray × Int)
  | [], o => (strings_Join.f o ⟨#[44, 32]⟩).bind fun t => some (t, 0)
  | m :: ms, o => (txt m).bind fun t => if t.2 = 0 then (if m.f0.toList = [] then listT ms (o ++ [t.1]) else some (⟨#[]⟩, 50)) else some (⟨#[]⟩, 50)
theorem list_l0 (l : List S34) (hl : l.length ≤ 1000000) : ∀ (m j k : Nat) (o : List ByteArray), j + m = l.length → m < k → o.length = j → sfield_ListText.l0 k o l (l.length : Int) (j : Int) = listT (l.drop j) o
  | 0, j, k, o, hj, hk, ho => by
    obtain ⟨k, rfl⟩ : ∃ k', k = k' + 1 := ⟨k - 1, by omega⟩
    rw [sfield_ListText.l0, if_neg (by omega), List.drop_eq_nil_of_le (by omega), listT]
  | m + 1, j, k, o, hj, hk, ho => by
    obtain ⟨k, rfl⟩ : ∃ k', k = k' + 1 := ⟨k - 1, by omega⟩
    have hjl : j < l.length := by omega
    rw [sfield_ListText.l0, if_pos (by omega), if_pos (by omega), if_pos (by omega), rd_memb l j hjl, List.drop_eq_getElem_cons hjl, listT]
    show (txt l[j]).bind _ = _
    cases txt l[j] with
    | none => rfl
    | some t =>
      rw [Option.bind_some, Option.bind_some]
      by_cases he : t.2 = 0
      · rw [if_pos he, if_pos he]
        by_cases hk0 : (l[j]).f0.toList = []
        · rw [if_pos hk0, if_pos hk0, if_pos (by omega), ← list_l0 l hl m (j + 1) k (o ++ [t.1]) (by omega) (by omega) (by rw [List.length_append, List.length_singleton]; omega)]
          rw [show wrap64 ((j : Int) + 1) = ((j + 1 : Nat) : Int) by unfold wrap64; omega]
        · rw [if_neg hk0, if_neg hk0]
      · rw [if_neg he, if_neg he]
theorem list_text (l : List S34) (hl : l.length ≤ 1000000) (k : Nat) (hk : l.length < k) : sfield_ListText.f k l = listT l [] := by
  unfold sfield_ListText.f
  exact list_l0 l hl l.length 0 k [] (by omega) hk rfl
def few50 (l : List S34) : Prop := l.length ≤ 50 ∧ ∀ m ∈ l, fewM m = true
theorem few_of {l : List S34} (h : fewL l = true) : few50 l := by
  unfold fewL at h
  simp only [Bool.and_eq_true, decide_eq_true_eq, List.all_eq_true] at h
  exact h
theorem big_join (o : List ByteArray) (h : ∀ x ∈ o, x.size ≤ 10700000) (hl : o.length ≤ 50) : (joinBA o ⟨#[44, 32]⟩).size ≤ 600000000 := by
  have h1 := joinBA_le ⟨#[44, 32]⟩ 10700000 o h
  have z1 : (⟨#[44, 32]⟩ : ByteArray).size = 2 := rfl
  rw [z1] at h1
  have h2 : o.length * (10700000 + 2) ≤ 50 * (10700000 + 2) := Nat.mul_le_mul_right _ hl
  omega
theorem toList_nil {s : ByteArray} : (s.toList != ([] : List UInt8)) = !(decide (s.toList = [])) := by
  by_cases h : s.toList = [] <;> simp [h]
theorem ref_list0 (l : List S34) (hl : few50 l) : ∀ (m j k : Nat) (o : List ByteArray), j + m = l.length → 300200 + 2 * m < k → o.length = j → (∀ x ∈ o, x.size ≤ 10400000) →
    ∃ r, listT (l.drop j) o = some r ∧ glacisref06_ListText.l0 k l (joinBA o ⟨#[44, 32]⟩) (j : Int) = some r
  | 0, j, k, o, hj, hk, ho, hx => by
    obtain ⟨k, rfl⟩ : ∃ k', k = k' + 1 := ⟨k - 1, by omega⟩
    have h50 := hl.1
    rw [glacisref06_ListText.l0, if_neg (by omega), List.drop_eq_nil_of_le (by omega), listT, join_s 10400000 hx (by omega) (by omega) (by show (2 : Nat) ≤ 2; omega)]
    exact ⟨_, rfl, rfl⟩
  | m + 1, j, k, o, hj, hk, ho, hx => by
    obtain ⟨k, rfl⟩ : ∃ k', k = k' + 1 + 1 := ⟨k - 2, by omega⟩
    have h50 := hl.1
    have hjl : j < l.length := by omega
    have hb := big_join o (fun x h => Nat.le_trans (hx x h) (by omega)) (by omega)
    have z2 : (⟨#[44, 32]⟩ : ByteArray).size = 2 := rfl
    obtain ⟨t, e, t', b, t1, t2, t3, t4, t5⟩ := text_f6 l[j] (hl.2 _ (List.getElem_mem hjl)) 0 (k + 1) (by omega)
    have t1' : txt l[j] = some (t, e) := t1
    rw [glacisref06_ListText.l0, if_pos (by omega), if_pos (by omega), rd_memb l j hjl, t2, List.drop_eq_getElem_cons hjl, listT, t1', Option.bind_some, Option.bind_some]
    dsimp only
    subst t3
    by_cases he : e = 0
    · obtain ⟨rfl, _⟩ := t4 he
      rw [if_pos he, decide_eq_true he, if_pos rfl, toList_nil]
      by_cases hk0 : (l[j]).f0.toList = []
      · rw [if_pos hk0, decide_eq_true hk0, glacisref06_ListText.j1, if_neg (by decide)]
        obtain ⟨r, r1, r2⟩ := ref_list0 l hl m (j + 1) k (o ++ [t']) (by omega) (by omega) (by rw [List.length_append, List.length_singleton]; omega) (fun x h => by
          rcases List.mem_append.1 h with h | h
          · exact hx x h
          · rw [List.mem_singleton.1 h]; exact t5)
        refine ⟨r, r1, ?_⟩
        rw [← r2, wrap_next j (by omega)]
        by_cases h0 : j = 0
        · obtain rfl : o = [] := List.length_eq_zero_iff.1 (by omega)
          rw [if_neg (by omega), if_pos (by omega), List.nil_append]
          congr 1
          have := joinBA_snoc [] t' ⟨#[44, 32]⟩
          rw [List.nil_append, if_pos rfl] at this
          rw [this, joinBA_nil]
          apply L_inj
          rw [L_app]
          rfl
        · have hne : o ≠ [] := fun h => by rw [h] at ho; exact h0 (by rw [← ho]; rfl)
          rw [if_pos (by omega), if_pos (by omega), if_pos (by rw [ByteArray.size_append]; omega), joinBA_snoc, if_neg hne]
      · rw [if_neg hk0, decide_eq_false hk0, glacisref06_ListText.j1, if_pos (by decide)]
        exact ⟨_, rfl, rfl⟩
    · rw [if_neg he, decide_eq_false he, if_neg (by decide), glacisref06_ListText.j1, if_pos rfl]
      exact ⟨_, rfl, rfl⟩
theorem list_both (l : List S34) (hl : few50 l) (k : Nat) (hk : 300400 ≤ k) : ∃ r, sfield_ListText.f k l = some r ∧ glacisref06_ListText.f k l = some r := by
  have h50 := hl.1
  obtain ⟨r, r1, r2⟩ := ref_list0 l hl l.length 0 k [] (by omega) (by omega) rfl (fun x h => by cases h)
  rw [List.drop_zero] at r1
  refine ⟨r, by rw [list_text l (by omega) k (by omega), r1], ?_⟩
  unfold glacisref06_ListText.f
  exact r2
theorem keyF_ref (s : ByteArray) : keyF s = refK (rdKey s) := by unfold keyF refK; cases rdKey s <;> rfl
theorem ref_l1 (l : List S34) (hl : l.length ≤ 50) (X t key rest : ByteArray) (e : Int) (j : Nat) (hj : j < l.length) : ∀ (d i k : Nat) (b : Bool), i + d = j →
    glacisref06_DictText.l1 (k + d + 1) l X (j : Int) t b key rest e (i : Int) = glacisref06_DictText.j2 k l X (j : Int) t key (if (b && ((l.take j).drop i).all (fun q => decide (q.f0 ≠ (l[j]).f0))) = true then (if e = 0 then (rest.toList != ([] : List UInt8)) else true) else true)
  | 0, i, k, b, hi => by
    rw [Nat.add_zero, glacisref06_DictText.l1, if_neg (by omega), List.drop_eq_nil_of_le (by rw [List.length_take]; omega), List.all_nil, Bool.and_true]
    cases b with
    | false => rw [if_neg (by decide), if_neg (by decide)]
    | true =>
      rw [if_pos rfl, if_pos rfl]
      by_cases he : e = 0
      · rw [if_pos he, if_pos he]
      · rw [if_neg he, if_neg he]
  | d + 1, i, k, b, hi => by
    have hil : i < l.length := by omega
    have hit : i < (l.take j).length := by rw [List.length_take]; omega
    rw [glacisref06_DictText.l1, if_pos (by omega), List.drop_eq_getElem_cons hit, List.all_cons, List.getElem_take, wrap_next i (by omega)]
    cases b with
    | false =>
      rw [if_neg (by decide)]
      have := ref_l1 l hl X t key rest e j hj d (i + 1) k false (by omega)
      rw [Bool.false_and] at this ⊢
      exact this
    | true =>
      rw [if_pos rfl, if_pos (by omega), if_pos (by omega), if_pos (by omega), if_pos (by omega), rd_memb l i hil, rd_memb l j hj]
      have e1 : ((l[i]).f0.toList != (l[j]).f0.toList) = decide ((l[i]).f0 ≠ (l[j]).f0) := by
        by_cases h : (l[i]).f0 = (l[j]).f0
        · simp [h]
        · have h2 : ¬ (l[i]).f0.toList = (l[j]).f0.toList := fun k => h (toList_inj.1 k)
          simp [h, h2]
      rw [e1]
      have := ref_l1 l hl X t key rest e j hj d (i + 1) k (decide ((l[i]).f0 ≠ (l[j]).f0)) (by omega)
      rw [Bool.true_and]
      exact this
/-- A member's part of a dictionary's text. -/
def partD (m : S34) (t u : ByteArray) : ByteArray := if m.f2.f0 = 6 ∧ m.f2.f1 = 1 then m.f0 ++ u else m.f0 ++ ((⟨#[61]⟩ : ByteArray) ++ t)
def sepD (X : ByteArray) (j : Nat) : ByteArray := if j = 0 then X else X ++ (⟨#[44, 32]⟩ : ByteArray)
theorem ref_j2 (l : List S34) (hl : l.length ≤ 50) (X t : ByteArray) (u : ByteArray × Int) (j : Nat) (hj : j < l.length) (k : Nat) (hX : X.size ≤ 600000000) (ht : t.size ≤ 10400000) (hk : (l[j]).f0.size ≤ 200) (hu : glacisref05_Tail.f k (l[j]).f2.f3 = some u) (huz : u.1.size ≤ 201000)
    (hin : (l[j]).f1 = true → (l[j]).f2.f0 = 0) : glacisref06_DictText.j2 (k + 1) l X (j : Int) t (l[j]).f0 false = glacisref06_DictText.l0 k l (sepD X j ++ partD l[j] t u.1) ((j + 1 : Nat) : Int) := by
  have z1 : (⟨#[61]⟩ : ByteArray).size = 1 := rfl
  have z2 : (⟨#[44, 32]⟩ : ByteArray).size = 2 := rfl
  have hw := wrap_next j (by omega)
  rw [glacisref06_DictText.j2, if_neg (by decide), rd_memb l j hj, hw]
  unfold sepD partD
  by_cases h0 : j = 0
  · rw [if_neg (show ¬ (j : Int) > 0 by omega), if_pos (show 0 ≤ (j : Int) by omega), if_pos (show (j : Int) < (l.length : Int) by omega), if_pos h0]
    cases hf : (l[j]).f1 with
    | true =>
      have h6 : ¬ ((l[j]).f2.f0 = 6 ∧ (l[j]).f2.f1 = 1) := fun k => by rw [hin hf] at k; exact absurd k.1 (by decide)
      rw [if_pos rfl, if_neg h6, if_pos (by omega), if_pos (by rw [ByteArray.size_append]; omega), if_pos (by rw [ByteArray.size_append, ByteArray.size_append]; omega)]
      congr 1
      apply L_inj
      simp only [L_app, List.append_assoc]
    | false =>
      rw [if_neg (by decide)]
      by_cases h6 : (l[j]).f2.f0 = 6
      · rw [if_pos h6]
        by_cases h1 : (l[j]).f2.f1 = 1
        · rw [if_pos h1, if_pos ⟨h6, h1⟩, hu, Option.bind_some, if_pos (by omega), if_pos (by rw [ByteArray.size_append]; omega)]
          congr 1
          apply L_inj
          simp only [L_app, List.append_assoc]
        · rw [if_neg h1, if_neg (show ¬ ((l[j]).f2.f0 = 6 ∧ (l[j]).f2.f1 = 1) from fun k => h1 k.2), if_pos (by omega), if_pos (by rw [ByteArray.size_append]; omega), if_pos (by rw [ByteArray.size_append, ByteArray.size_append]; omega)]
          congr 1
          apply L_inj
          simp only [L_app, List.append_assoc]
      · rw [if_neg h6, if_neg (show ¬ ((l[j]).f2.f0 = 6 ∧ (l[j]).f2.f1 = 1) from fun k => h6 k.1), if_pos (by omega), if_pos (by rw [ByteArray.size_append]; omega), if_pos (by rw [ByteArray.size_append, ByteArray.size_append]; omega)]
        congr 1
        apply L_inj
        simp only [L_app, List.append_assoc]
  · have hX2 : (X ++ (⟨#[44, 32]⟩ : ByteArray)).size ≤ 600000002 := by rw [ByteArray.size_append]; omega
    rw [if_pos (show (j : Int) > 0 by omega), if_pos (show X.size + 2 ≤ 9223372036854775807 by omega), if_pos (show 0 ≤ (j : Int) by omega), if_pos (show (j : Int) < (l.length : Int) by omega), if_neg h0]
    generalize X ++ (⟨#[44, 32]⟩ : ByteArray) = Y at *
    cases hf : (l[j]).f1 with
    | true =>
      have h6 : ¬ ((l[j]).f2.f0 = 6 ∧ (l[j]).f2.f1 = 1) := fun k => by rw [hin hf] at k; exact absurd k.1 (by decide)
      rw [if_pos rfl, if_neg h6, if_pos (by omega), if_pos (by rw [ByteArray.size_append]; omega), if_pos (by rw [ByteArray.size_append, ByteArray.size_append]; omega)]
      congr 1
      apply L_inj
      simp only [L_app, List.append_assoc]
    | false =>
      rw [if_neg (by decide)]
      by_cases h6 : (l[j]).f2.f0 = 6
      · rw [if_pos h6]
        by_cases h1 : (l[j]).f2.f1 = 1
        · rw [if_pos h1, if_pos ⟨h6, h1⟩, hu, Option.bind_some, if_pos (by omega), if_pos (by rw [ByteArray.size_append]; omega)]
          congr 1
          apply L_inj
          simp only [L_app, List.append_assoc]
        · rw [if_neg h1, if_neg (show ¬ ((l[j]).f2.f0 = 6 ∧ (l[j]).f2.f1 = 1) from fun k => h1 k.2), if_pos (by omega), if_pos (by rw [ByteArray.size_append]; omega), if_pos (by rw [ByteArray.size_append, ByteArray.size_append]; omega)]
          congr 1
          apply L_inj
          simp only [L_app, List.append_assoc]
      · rw [if_neg h6, if_neg (show ¬ ((l[j]).f2.f0 = 6 ∧ (l[j]).f2.f1 = 1) from fun k => h6 k.1), if_pos (by omega), if_pos (by rw [ByteArray.size_append]; omega), if_pos (by rw [ByteArray.size_append, ByteArray.size_append]; omega)]
        congr 1
        apply L_inj
        simp only [L_app, List.append_assoc]
theorem sep_snoc (o : List ByteArray) (x : ByteArray) : joinBA (o ++ [x]) ⟨#[44, 32]⟩ = sepD (joinBA o ⟨#[44, 32]⟩) o.length ++ x := by
  rw [joinBA_snoc]
  unfold sepD
  by_cases h : o = []
  · subst h
    rw [if_pos rfl, if_pos (show ([] : List ByteArray).length = 0 from rfl), joinBA_nil]
    apply L_inj
    rw [L_app]
    rfl
  · rw [if_neg h, if_neg (fun k => h (List.length_eq_zero_iff.1 k))]
/-- What a member's text with no error says of her. -/
theorem txt_inner {m : S34} {o : ByteArray} (h : txt m = some (o, 0)) (hf : m.f1 = true) : m.f2.f0 = 0 := by
  have h1 := txt_back h
  have e1 : (bareM m).f1 = m.f1 := rfl
  have e2 : (bareM m).f2 = m.f2 := rfl
  rw [← e2]
  rw [← e1] at hf
  generalize bareM m = q at h1 hf
  generalize L o = lo at h1
  cases h1 with
  | inn u its l h => rfl
  | itm _ x h => cases hf
end Go.Proofs.YtjdbiicjfpgjkaaGreatDoor.Pl
/- Chapter 6: a dictionary's text, by the program and by the document: the loop. -/
namespace Go.Proofs.YtjdbiicjfpgjkaaGreatDoor.Pl
open Go.RowKit Go.Proofs.YtjdbiicjfpgjkaaGreatDoor.Q Go.Proofs.YtjdbiicjfpgjkaaGreatDoor.Sf Go.Proofs.YtjdbiicjfpgjkaaGreatDoorW.PrintWords Go.Proofs.YtjdbiicjfpgjkaaGreatDoorW.PrintLast
set_option linter.unusedVariables false
set_option linter.unusedSimpArgs false
theorem seen_eq (l : List S34) (j : Nat) (hj : j < l.length) (seen : List ByteArray) (hs : ∀ x, x ∈ seen ↔ ∃ q ∈ l.take j, q.f0 = x) : inL (l[j]).f0 seen = !((l.take j).all (fun q => decide (q.f0 ≠ (l[j]).f0))) := by
  cases ha : (l.take j).all (fun q => decide (q.f0 ≠ (l[j]).f0)) with
  | true =>
    cases e : inL (l[j]).f0 seen with
    | false => rfl
    | true =>
      obtain ⟨q, hq, h⟩ := (hs _).1 ((inL_iff _ _).1 e)
      exact absurd h (of_decide_eq_true (List.all_eq_true.1 ha q hq))
  | false =>
    cases e : inL (l[j]).f0 seen with
    | true => rfl
    | false =>
      have : (l.take j).all (fun q => decide (q.f0 ≠ (l[j]).f0)) = true := List.all_eq_true.2 (fun q hq => decide_eq_true (fun h => by
        have := (inL_iff _ _).2 ((hs _).2 ⟨q, hq, h⟩)
        rw [e] at this
        cases this))
      rw [ha] at this
      cases this
theorem bad_eq (m : S34) (e : Int) (seen : List ByteArray) (c : Bool) (hc : inL m.f0 seen = !c) :
    badM m e seen = (if (decide (e = 0) && c) = true then (if (refK (rdKey m.f0)).2.2 = 0 then ((refK (rdKey m.f0)).2.1.toList != ([] : List UInt8)) else true) else true) := by
  unfold badM
  rw [keyF_ref, hc]
  by_cases he : e = 0
  · have e1 : (e != 0) = false := by simp [he]
    rw [e1, decide_eq_true he, Bool.false_or, Bool.true_and]
    cases c with
    | false => rw [if_neg (by decide)]; simp
    | true =>
      rw [if_pos rfl]
      by_cases k0 : (refK (rdKey m.f0)).2.2 = 0
      · rw [if_pos k0]; simp [k0]
      · rw [if_neg k0]; simp [k0]
  · have e1 : (e != 0) = true := by simp [he]
    rw [e1, decide_eq_false he, Bool.false_and, if_neg (by decide)]
    rfl
theorem whole_key {s : ByteArray} (h1 : (refK (rdKey s)).2.2 = 0) (h2 : (refK (rdKey s)).2.1.toList = []) : (refK (rdKey s)).1 = s := by
  unfold refK at h1 h2 ⊢
  cases hk : rdKey s with
  | none => rw [hk] at h1; exact absurd h1 (by decide)
  | some x =>
    obtain ⟨a, t⟩ := x
    rw [hk] at h2
    simp only [] at h2 ⊢
    obtain ⟨b1, b2⟩ := key_inv hk
    rw [L_toList] at h2
    rw [h2, List.append_nil] at b1
    exact (L_inj b1).symm
theorem ref_dict0 (l : List S34) (hl : few50 l) (kk : Nat) : ∀ (m j k : Nat) (o seen : List ByteArray), j + m = l.length → 300400 + 60 * m < k → o.length = j → (∀ x ∈ o, x.size ≤ 10700000) → (∀ x, x ∈ seen ↔ ∃ q ∈ l.take j, q.f0 = x) →
    ∃ r, dictT kk (l.drop j) seen o = some r ∧ glacisref06_DictText.l0 k l (joinBA o ⟨#[44, 32]⟩) (j : Int) = some r
  | 0, j, k, o, seen, hj, hk, ho, hx, hs => by
    obtain ⟨k, rfl⟩ : ∃ k', k = k' + 1 := ⟨k - 1, by omega⟩
    have h50 := hl.1
    rw [glacisref06_DictText.l0, if_neg (by omega), List.drop_eq_nil_of_le (by omega), dictT, join_s 10700000 hx (by omega) (by omega) (by show (2 : Nat) ≤ 2; omega)]
    exact ⟨_, rfl, rfl⟩
  | m + 1, j, k, o, seen, hj, hk, ho, hx, hs => by
    have h50 := hl.1
    have hjl : j < l.length := by omega
    obtain ⟨k, rfl⟩ : ∃ k', k = ((k' + 1) + j + 1) + 1 := ⟨k - j - 3, by omega⟩
    have hb := big_join o hx (by omega)
    have hm := hl.2 _ (List.getElem_mem hjl)
    obtain ⟨h1, h2, h3, h4, h5, h6⟩ := few_memb hm
    obtain ⟨t, e, t', b, t1, t2, t3, t4, t5⟩ := text_f6 l[j] hm kk ((k + 1) + j + 1) (by omega)
    obtain ⟨u, ue, u1, u2, u3⟩ := tail_f6 (few_item h5).1 (few_item h5).2.2 k (by omega)
    rw [glacisref06_DictText.l0, if_pos (by omega), if_pos (by omega), rd_memb l j hjl, t2, Option.bind_some, key_f _ (by omega) _ (by omega), Option.bind_some]
    have hL1 := ref_l1 l h50 (joinBA o ⟨#[44, 32]⟩) t' (refK (rdKey (l[j]).f0)).1 (refK (rdKey (l[j]).f0)).2.1 (refK (rdKey (l[j]).f0)).2.2 j hjl j 0 (k + 1) b (by omega)
    rw [show ((0 : Nat) : Int) = 0 from rfl, List.drop_zero] at hL1
    rw [hL1, t3, ← bad_eq (l[j]) e seen _ (seen_eq l j hjl seen hs), List.drop_eq_getElem_cons hjl, dictT, t1, Option.bind_some]
    dsimp only
    rw [if_neg (by simp only [Decidable.not_not]; refine ⟨by omega, by omega, by omega⟩)]
    cases hbad : badM l[j] e seen with
    | true =>
      rw [if_pos rfl, glacisref06_DictText.j2, if_pos rfl]
      exact ⟨_, rfl, rfl⟩
    | false =>
      rw [if_neg (by decide)]
      unfold badM at hbad
      simp only [Bool.or_eq_false_iff, bne_eq_false_iff_eq] at hbad
      obtain ⟨b1, b2, b3, b4⟩ := hbad
      rw [keyF_ref] at b2 b3
      obtain ⟨rfl, _⟩ := t4 b1
      rw [whole_key b2 b3, ref_j2 l h50 _ t' (u, ue) j hjl k hb t5 h3 u2 u3 (fun hf => by
        refine txt_inner (o := t') ?_ hf
        rw [← b1]
        exact t1)]
      have hp : (partD l[j] t' u).size ≤ 10700000 := by
        have z1 : (⟨#[61]⟩ : ByteArray).size = 1 := rfl
        unfold partD
        split
        · rw [ByteArray.size_append]; omega
        · rw [ByteArray.size_append, ByteArray.size_append]; omega
      obtain ⟨r, r1, r2⟩ := ref_dict0 l hl kk m (j + 1) k (o ++ [partD l[j] t' u]) ((l[j]).f0 :: seen) (by omega) (by omega) (by rw [List.length_append, List.length_singleton]; omega) (fun x h => by
        rcases List.mem_append.1 h with h | h
        · exact hx x h
        · rw [List.mem_singleton.1 h]; exact hp) (fun x => by
        rw [take_snoc l j hjl]
        constructor
        · intro h
          rcases List.mem_cons.1 h with rfl | h
          · exact ⟨l[j], List.mem_append_right _ (List.mem_singleton.2 rfl), rfl⟩
          · obtain ⟨q, q1, q2⟩ := (hs x).1 h
            exact ⟨q, List.mem_append_left _ q1, q2⟩
        · rintro ⟨q, q1, rfl⟩
          rcases List.mem_append.1 q1 with q1 | q1
          · exact List.mem_cons_of_mem _ ((hs _).2 ⟨q, q1, rfl⟩)
          · rw [List.mem_singleton.1 q1]; exact List.mem_cons_self)
      refine ⟨r, ?_, ?_⟩
      · rw [← r1]
        unfold partD
        by_cases h6 : (l[j]).f2.f0 = 6 ∧ (l[j]).f2.f1 = 1
        · rw [if_pos h6, if_pos h6, u1, Option.bind_some, if_pos (by dsimp only; omega)]
        · rw [if_neg h6, if_neg h6]
      · rw [← r2, sep_snoc, ho]
theorem dict_both (l : List S34) (hl : few50 l) (k : Nat) (hk : 304000 ≤ k) : ∃ r, sfield_DictText.f k l = some r ∧ glacisref06_DictText.f k l = some r := by
  have h50 := hl.1
  obtain ⟨r, r1, r2⟩ := ref_dict0 l hl k l.length 0 k [] [] (by omega) (by omega) rfl (fun x h => by cases h) (fun x => by simp)
  rw [List.drop_zero] at r1
  refine ⟨r, ?_, ?_⟩
  · unfold sfield_DictText.f
    rw [if_pos (by omega), r1]
  · unfold glacisref06_DictText.f
    exact r2
end Go.Proofs.YtjdbiicjfpgjkaaGreatDoor.Pl
/- Chapter 6: members' text, there and back. -/
namespace Go.Proofs.YtjdbiicjfpgjkaaGreatDoor.Pl
open Go.RowKit Go.Proofs.YtjdbiicjfpgjkaaGreatDoor.Q Go.Proofs.YtjdbiicjfpgjkaaGreatDoor.Sf Go.Proofs.YtjdbiicjfpgjkaaGreatDoorW.PrintWords Go.Proofs.YtjdbiicjfpgjkaaGreatDoorW.PrintLast
set_option linter.unusedVariables false
set_option linter.unusedSimpArgs false
/-- Texts that tell members, one each. -/
inductive Parts (R : List UInt8 → S34 → Prop) : List ByteArray → List S34 → Prop
  | nil : Parts R [] []
  | cons (t : ByteArray) (m : S34) (ts : List ByteArray) (ms : List S34) (h : R (L t) m) (hs : Parts R ts ms) : Parts R (t :: ts) (m :: ms)
variable {rd : ByteArray → Option (S34 × ByteArray)} {R : List UInt8 → S34 → Prop}
theorem parts_lt (hT : Tellsm rd R) : ∀ (ts : List ByteArray) (ms : List S34) (t : ByteArray) (m : S34), R (L t) m → Parts R ts ms → LT R (L (joinBA (t :: ts) ⟨#[44, 32]⟩)) (m :: ms) ∧ Last0 (L (joinBA (t :: ts) ⟨#[44, 32]⟩))
  | [], ms, t, m, h, hs => by
    cases hs
    have e : L (joinBA [t] ⟨#[44, 32]⟩) = L t := by rw [join_L]; simp
    rw [e]
    have := LT.one (L t) m [] h Ws.nil
    rw [List.append_nil] at this
    exact ⟨this, hT.last _ _ h⟩
  | t2 :: ts, ms, t, m, h, hs => by
    cases hs with
    | cons _ m2 _ ms h2 hs =>
      obtain ⟨i1, i2⟩ := parts_lt hT ts ms t2 m2 h2 hs
      have e : L (joinBA (t :: t2 :: ts) ⟨#[44, 32]⟩) = L t ++ ([] ++ (44 :: ([32] ++ L (joinBA (t2 :: ts) ⟨#[44, 32]⟩)))) := by
        rw [join_L, join_L, List.map_cons, List.flatten_cons]
        show L t ++ (([44, 32] ++ L t2) ++ _) = _
        simp
      rw [e]
      refine ⟨LT.more (L t) m [] [32] _ _ h Ws.nil (fun c hc => by rw [List.mem_singleton.1 hc]; decide) i1, ?_⟩
      have := i2.cons (L t ++ [44, 32])
      simpa using this
theorem parts_read (hT : Tellsm rd R) {ts : List ByteArray} {ms : List S34} (h : Parts R ts ms) (hs : (joinBA ts ⟨#[44, 32]⟩).size ≤ 4000) (k : Nat) (hk : 4000 < k) : rdTop rd k (joinBA ts ⟨#[44, 32]⟩) = some ms := by
  cases h with
  | nil =>
    unfold rdTop
    rw [if_neg (by rw [joinBA_nil]; decide)]
    obtain ⟨d, rfl⟩ : ∃ d, k = d + 1 := ⟨k - 1, by omega⟩
    rw [rdAll, if_pos (by rw [L_toList, trim_L, join_L0]; rfl)]
  | cons t m ts ms h hs2 =>
    obtain ⟨i1, i2⟩ := parts_lt hT ts ms t m h hs2
    refine top_read hT ?_ k hk hs
    have := trim_mid [] (L (joinBA (t :: ts) ⟨#[44, 32]⟩)) [] (fun _ h => by cases h) (fun _ h => by cases h) (LT.head32 hT i1) i2
    rw [List.nil_append, List.append_nil] at this
    rw [this]
    exact i1
theorem join_inv {o : List ByteArray} {sep t : ByteArray} {e : Int} (h : ((strings_Join.f o sep).bind fun t => some (t, (0 : Int))) = some (t, e)) : t = joinBA o sep := by
  obtain ⟨x, hx, h⟩ := Option.bind_eq_some_iff.1 h
  obtain ⟨rfl, _⟩ := Prod.mk.inj (Option.some.inj h)
  unfold strings_Join.f at hx
  split at hx
  · exact (Option.some.inj hx).symm
  · cases hx
theorem list_inv : ∀ (ms : List S34) (o : List ByteArray) (t : ByteArray), listT ms o = some (t, 0) → ∃ ts, t = joinBA (o ++ ts) ⟨#[44, 32]⟩ ∧ Parts MT ts ms
  | [], o, t, h => by
    rw [listT] at h
    exact ⟨[], by rw [join_inv h, List.append_nil], Parts.nil⟩
  | m :: ms, o, t, h => by
    rw [listT] at h
    obtain ⟨⟨u, e⟩, hu, h⟩ := Option.bind_eq_some_iff.1 h
    dsimp only at h
    by_cases he : e = 0
    · rw [if_pos he] at h
      subst he
      by_cases hk : m.f0.toList = []
      · rw [if_pos hk] at h
        obtain ⟨ts, h1, h2⟩ := list_inv ms _ _ h
        have hm := txt_back hu
        rw [bare_eq (by rw [L_toList] at hk; exact eq_nil hk)] at hm
        exact ⟨u :: ts, by rw [h1]; simp, Parts.cons u m ts ms hm h2⟩
      · rw [if_neg hk] at h
        exact absurd (Prod.mk.inj (Option.some.inj h)).2 (by decide)
    · rw [if_neg he] at h
      exact absurd (Prod.mk.inj (Option.some.inj h)).2 (by decide)
theorem text_tail {n i : Int} {t o : ByteArray} {l : List S60} (h : sfitem_Text.f n i t l = some (o, 0)) : ∃ u, sfitem_Tail.f l = some (u, 0) := by
  unfold sfitem_Text.f at h
  obtain ⟨⟨v, b⟩, hv, h⟩ := Option.bind_eq_some_iff.1 h
  obtain ⟨⟨o', e⟩, ho, h⟩ := Option.bind_eq_some_iff.1 h
  simp only [] at h
  cases b with
  | false => rw [if_neg (by decide)] at h; simp at h
  | true =>
    rw [if_pos rfl] at h
    by_cases he : e = 0
    · subst he; exact ⟨o', ho⟩
    · rw [if_neg he] at h; simp at h
/-- A flag's member: true, and no more. -/
theorem flag_eq {m : S34} {t : ByteArray} (h : txt m = some (t, 0)) (h6 : m.f2.f0 = 6 ∧ m.f2.f1 = 1) : m = ⟨m.f0, false, ⟨6, 1, ⟨#[]⟩, m.f2.f3⟩, [], []⟩ ∧ ∃ u, sfitem_Tail.f m.f2.f3 = some (u, 0) := by
  have hf : m.f1 = false := by
    cases hf : m.f1 with
    | false => rfl
    | true => have := txt_inner h hf; rw [h6.1] at this; exact absurd this (by decide)
  obtain ⟨f0, f1, ⟨n, i, tx, l⟩, its, ps⟩ := m
  dsimp only at h6 hf ⊢
  obtain ⟨rfl, rfl⟩ := h6
  subst hf
  unfold txt sfield_text.f at h
  dsimp only at h
  split at h
  · cases h
  · rw [if_pos rfl] at h
    split at h
    · exact absurd (Prod.mk.inj (Option.some.inj h)).2 (by decide)
    · rename_i hz
      obtain rfl : its = [] := List.length_eq_zero_iff.1 (by omega)
      obtain rfl : ps = [] := List.length_eq_zero_iff.1 (by omega)
      obtain ⟨a, b, _, hv, _⟩ := text_back h
      have := (flag_inv hv (by decide)).2
      rw [eq_nil this]
      exact ⟨rfl, text_tail h⟩
theorem part_km {m : S34} {t u : ByteArray} {e : Int} (hk : KT (L m.f0)) (h : txt m = some (t, 0)) (hu : m.f2.f0 = 6 ∧ m.f2.f1 = 1 → sfitem_Tail.f m.f2.f3 = some (u, e)) : KM (L (partD m t u)) m := by
  unfold partD
  by_cases h6 : m.f2.f0 = 6 ∧ m.f2.f1 = 1
  · rw [if_pos h6, L_app]
    obtain ⟨he, v, hv⟩ := flag_eq h h6
    have hu := hu h6
    rw [hv] at hu
    obtain ⟨rfl, _⟩ := Prod.mk.inj (Option.some.inj hu)
    have := KM.flag (L m.f0) (L v) m.f2.f3 hk (tail_pt hv)
    rw [B_L] at this
    rw [← he] at this
    exact this
  · rw [if_neg h6, L_app, L_app]
    have := KM.eq (L m.f0) (L t) (bareM m) hk (txt_back h)
    rw [B_L] at this
    exact this
theorem dict_inv (k : Nat) : ∀ (ms : List S34) (seen o : List ByteArray) (t : ByteArray), dictT k ms seen o = some (t, 0) → ∃ ts, t = joinBA (o ++ ts) ⟨#[44, 32]⟩ ∧ Parts KM ts ms ∧ (∀ m ∈ ms, m.f0 ∉ seen) ∧ Dist6 ms
  | [], seen, o, t, h => by
    rw [dictT] at h
    exact ⟨[], by rw [join_inv h, List.append_nil], Parts.nil, (fun _ h => by cases h), List.nodup_nil⟩
  | m :: ms, seen, o, t, h => by
    rw [dictT] at h
    obtain ⟨⟨u, e⟩, hu, h⟩ := Option.bind_eq_some_iff.1 h
    dsimp only at h
    split at h
    · cases h
    · cases hb : badM m e seen with
      | true => rw [hb, if_pos rfl] at h; exact absurd (Prod.mk.inj (Option.some.inj h)).2 (by decide)
      | false =>
        rw [hb, if_neg (by decide)] at h
        unfold badM at hb
        simp only [Bool.or_eq_false_iff, bne_eq_false_iff_eq] at hb
        obtain ⟨rfl, b2, b3, b4⟩ := hb
        have hk := key_all b2 b3
        have hn : m.f0 ∉ seen := fun hm => by rw [(inL_iff _ _).2 hm] at b4; cases b4
        have hu' : txt m = some (u, 0) := hu
        have fin : ∀ p, KM (L p) m → dictT k ms (m.f0 :: seen) (o ++ [p]) = some (t, 0) → ∃ ts, t = joinBA (o ++ ts) ⟨#[44, 32]⟩ ∧ Parts KM ts (m :: ms) ∧ (∀ q ∈ m :: ms, q.f0 ∉ seen) ∧ Dist6 (m :: ms) := by
          intro p hp h
          obtain ⟨ts, h1, h2, h3, h4⟩ := dict_inv k ms _ _ _ h
          refine ⟨p :: ts, by rw [h1]; simp, Parts.cons p m ts ms hp h2, fun q hq => ?_, ?_⟩
          · rcases List.mem_cons.1 hq with rfl | hq
            · exact hn
            · exact fun hm => h3 q hq (List.mem_cons_of_mem _ hm)
          · unfold Dist6 at h4 ⊢
            rw [List.map_cons, List.nodup_cons]
            refine ⟨fun hm => ?_, h4⟩
            obtain ⟨q, hq, e⟩ := List.mem_map.1 hm
            exact h3 q hq (by rw [e]; exact List.mem_cons_self)
        by_cases h6 : m.f2.f0 = 6 ∧ m.f2.f1 = 1
        · rw [if_pos h6] at h
          obtain ⟨⟨v, e2⟩, hv, h⟩ := Option.bind_eq_some_iff.1 h
          split at h
          · have hp := part_km hk hu' (u := v) (e := e2) (fun _ => hv)
            unfold partD at hp
            rw [if_pos h6] at hp
            exact fin _ hp h
          · cases h
        · rw [if_neg h6] at h
          have hp := part_km hk hu' (u := ⟨#[]⟩) (e := 0) (fun k => absurd k h6)
          unfold partD at hp
          rw [if_neg h6] at hp
          exact fin _ hp h
theorem idx_new {l : List S34} {s : ByteArray} (h : ∀ q ∈ l, q.f0 ≠ s) : idxK l s = none := by
  unfold idxK
  rw [List.findIdx?_eq_none_iff]
  intro x hx
  obtain ⟨q, hq, rfl⟩ := List.mem_map.1 hx
  simp [h q hq]
theorem fold_dist : ∀ (ms out : List S34), Dist6 (out ++ ms) → ms.foldl putM out = out ++ ms
  | [], out, _ => by simp
  | m :: ms, out, h => by
    have hn : ∀ q ∈ out, q.f0 ≠ m.f0 := by
      unfold Dist6 at h
      rw [List.map_append, List.nodup_append] at h
      intro q hq
      exact h.2.2 q.f0 (List.mem_map.2 ⟨q, hq, rfl⟩) m.f0 (by simp)
    have e : putM out m = out ++ [m] := by unfold putM; rw [idx_new hn]
    rw [List.foldl_cons, e, fold_dist ms (out ++ [m]) (by simpa using h)]
    simp
theorem dict_self {ms : List S34} (h : Dist6 ms) : dictOf ms = ms := fold_dist ms [] h
def szs2 (ts : List ByteArray) : Nat := (ts.map (fun t => t.size + 2)).sum
theorem szs2_join : ∀ (ts : List ByteArray) (t : ByteArray), (joinBA (t :: ts) ⟨#[44, 32]⟩).size + 2 = szs2 (t :: ts) := by
  intro ts t
  rw [size_L, join_L, List.length_append]
  unfold szs2
  rw [List.map_cons, List.sum_cons, size_L]
  have : (ts.map (fun x => L (⟨#[44, 32]⟩ : ByteArray) ++ L x)).flatten.length = (ts.map (fun t => t.size + 2)).sum := by
    induction ts with
    | nil => rfl
    | cons x ts ih =>
      rw [List.map_cons, List.flatten_cons, List.length_append, ih, List.map_cons, List.sum_cons, size_L]
      show ([44, 32] ++ L x).length + _ = _
      simp
  rw [this]
  omega
theorem szs2_le (ts : List ByteArray) : (joinBA ts ⟨#[44, 32]⟩).size ≤ szs2 ts := by
  cases ts with
  | nil => exact Nat.zero_le _
  | cons t ts => have := szs2_join ts t; omega
theorem mt_key {u : List UInt8} {m : S34} (h : MT u m) : m.f0 = ⟨#[]⟩ := by cases h <;> rfl
/-- Members that a text tells as a list have a text that tells them. -/
theorem list_some {u : List UInt8} {ms : List S34} (h : LT MT u ms) : u.length ≤ 4000 → ∃ ts, (∀ o : List ByteArray, listT ms o = ((strings_Join.f (o ++ ts) ⟨#[44, 32]⟩).bind fun t => some (t, 0))) ∧ szs2 ts ≤ 3 * u.length + 2 ∧ ts.length ≤ u.length := by
  induction h with
  | one u m w h hw =>
    intro hu
    rw [List.length_append] at hu
    obtain ⟨t, t1, t2⟩ := txt_some h (by omega)
    obtain ⟨c, u', hc, _⟩ := MT.head h
    have hp : 0 < u.length := by rw [hc]; simp
    refine ⟨[t], fun o => ?_, ?_, ?_⟩
    · rw [listT, t1, Option.bind_some]
      dsimp only
      rw [if_pos rfl, if_pos (by rw [mt_key h, L_toList]; rfl), listT]
    · unfold szs2
      simp only [List.map_cons, List.map_nil, List.sum_cons, List.sum_nil, List.length_append]
      omega
    · rw [List.length_append, List.length_singleton]; omega
  | more u m w1 w2 v ms h hw1 hw2 hv ih =>
    intro hu
    simp only [List.length_append, List.length_cons] at hu
    obtain ⟨t, t1, t2⟩ := txt_some h (by omega)
    obtain ⟨ts, i1, i2, i3⟩ := ih (by omega)
    refine ⟨t :: ts, fun o => ?_, ?_, ?_⟩
    · rw [listT, t1, Option.bind_some]
      dsimp only
      rw [if_pos rfl, if_pos (by rw [mt_key h, L_toList]; rfl), i1]
      simp
    · unfold szs2 at i2 ⊢
      simp only [List.map_cons, List.sum_cons, List.length_append, List.length_cons]
      omega
    · simp only [List.length_append, List.length_cons]; omega
theorem mt_pt {u : List UInt8} {m : S34} (h : MT u m) (hf : m.f1 = false) : ∃ b, PT b [] m.f2.f3 ∧ b.length ≤ u.length := by
  cases h with
  | inn u its l h => cases hf
  | itm _ x h => obtain ⟨a, b, e, _, hp⟩ := h; exact ⟨b, hp, by rw [e]; simp⟩
/-- A dictionary's member whose part has at most n bytes. -/
structure Fine6 (n : Nat) (m : S34) : Prop where
  key : KT (L m.f0)
  small : m.f0.size ≤ 4000
  part : ∃ t u e, txt m = some (t, 0) ∧ t.size ≤ 12000 ∧ (m.f2.f0 = 6 ∧ m.f2.f1 = 1 → sfitem_Tail.f m.f2.f3 = some (u, e) ∧ u.size ≤ 12000) ∧ (partD m t u).size ≤ n
theorem km_fine {u : List UInt8} {m : S34} (h : KM u m) (hu : u.length ≤ 3900) : Fine6 (3 * u.length) m := by
  cases h with
  | eq k u m hk h =>
    simp only [List.length_append, List.length_cons] at hu
    obtain ⟨t, t1, t2⟩ := txt_some h (by omega)
    have e1 : txt { m with f0 := B k } = some (t, 0) := t1
    have z1 : (⟨#[61]⟩ : ByteArray).size = 1 := rfl
    refine ⟨by show KT (L (B k)); rw [L_B]; exact hk, by show (B k).size ≤ _; rw [size_L, L_B]; omega, ?_⟩
    by_cases h6 : m.f2.f0 = 6 ∧ m.f2.f1 = 1
    · obtain ⟨he, v, hv⟩ := flag_eq t1 h6
      have hb := mt_pt h (by rw [he])
      obtain ⟨b, hp, hbl⟩ := hb
      obtain ⟨v2, hv2, hz⟩ := tail_some hp (by omega)
      rw [hv] at hv2
      obtain ⟨rfl, _⟩ := Prod.mk.inj (Option.some.inj hv2)
      refine ⟨t, v, 0, e1, by omega, fun _ => ⟨hv, by omega⟩, ?_⟩
      unfold partD
      rw [if_pos h6, ByteArray.size_append]
      simp only [List.length_append, List.length_cons]
      show (B k).size + _ ≤ _
      rw [size_L, L_B]
      omega
    · refine ⟨t, ⟨#[]⟩, 0, e1, by omega, fun k => absurd k h6, ?_⟩
      unfold partD
      rw [if_neg h6, ByteArray.size_append, ByteArray.size_append]
      simp only [List.length_append, List.length_cons]
      show (B k).size + _ ≤ _
      rw [size_L, L_B]
      omega
  | flag k p l hk hp =>
    rw [List.length_append] at hu
    obtain ⟨v, hv, hz⟩ := tail_some hp (by omega)
    have hi : ITm ([63, 49] ++ p) ⟨6, 1, ⟨#[]⟩, l⟩ := ⟨[63, 49], p, rfl, VT.one, hp⟩
    have hkl : 0 < k.length := by obtain ⟨c, w, e, _⟩ := hk; rw [e]; simp
    obtain ⟨t, t1, t2⟩ := txt_some (MT.itm _ _ hi) (by simp only [List.length_append, List.length_cons, List.length_nil]; omega)
    have e1 : txt ⟨B k, false, ⟨6, 1, ⟨#[]⟩, l⟩, [], []⟩ = some (t, 0) := t1
    simp only [List.length_append, List.length_cons, List.length_nil] at t2
    refine ⟨by show KT (L (B k)); rw [L_B]; exact hk, by show (B k).size ≤ _; rw [size_L, L_B]; omega, t, v, 0, e1, by omega, fun _ => ⟨hv, by omega⟩, ?_⟩
    unfold partD
    rw [if_pos ⟨rfl, rfl⟩, ByteArray.size_append, List.length_append]
    show (B k).size + _ ≤ _
    rw [size_L, L_B]
    omega
/-- What a dictionary's members cost. -/
def costM (m : S34) : Nat := match txt m, sfitem_Tail.f m.f2.f3 with
  | some (t, _), some (u, _) => (partD m t u).size + 2
  | some (t, _), none => (partD m t ⟨#[]⟩).size + 2
  | none, _ => 0
def costsM (l : List S34) : Nat := (l.map costM).sum
theorem cost_fine {n : Nat} {m : S34} (h : Fine6 n m) : ∃ t u e, txt m = some (t, 0) ∧ t.size ≤ 12000 ∧ (m.f2.f0 = 6 ∧ m.f2.f1 = 1 → sfitem_Tail.f m.f2.f3 = some (u, e) ∧ u.size ≤ 12000) ∧ (partD m t u).size + 2 = costM m ∧ costM m ≤ n + 2 := by
  obtain ⟨t, u, e, h1, h2, h3, h4⟩ := h.part
  have key : (partD m t u).size + 2 = costM m := by
    unfold costM
    rw [h1]
    by_cases h6 : m.f2.f0 = 6 ∧ m.f2.f1 = 1
    · rw [(h3 h6).1]
    · have ep : ∀ x, partD m t x = partD m t u := fun x => by unfold partD; rw [if_neg h6, if_neg h6]
      cases sfitem_Tail.f m.f2.f3 with
      | none => dsimp only; rw [ep ⟨#[]⟩]
      | some y => dsimp only; rw [ep y.1]
  exact ⟨t, u, e, h1, h2, h3, key, by omega⟩
theorem costs_cons6 (m : S34) (l : List S34) : costsM (m :: l) = costM m + costsM l := by unfold costsM; simp
theorem costs_set6 (l : List S34) (i : Nat) (m : S34) : costsM (l.set i m) ≤ costsM l + costM m := by
  induction l generalizing i with
  | nil => simp [costsM]
  | cons x l ih =>
    cases i with
    | zero => rw [List.set_cons_zero, costs_cons6, costs_cons6]; omega
    | succ i => have := ih i; rw [List.set_cons_succ, costs_cons6, costs_cons6]; omega
theorem costs_put (l : List S34) (m : S34) : costsM (putM l m) ≤ costsM l + costM m := by
  unfold putM
  split
  · exact costs_set6 _ _ _
  · unfold costsM; simp
theorem costs_fold : ∀ (ms out : List S34), costsM (ms.foldl putM out) ≤ costsM out + costsM ms
  | [], out => by simp [costsM]
  | m :: ms, out => by
    rw [List.foldl_cons, costs_cons6]
    have h1 := costs_fold ms (putM out m)
    have h2 := costs_put out m
    omega
theorem costs_dict (ms : List S34) : costsM (dictOf ms) ≤ costsM ms := by
  have := costs_fold ms []
  have e : costsM [] = 0 := rfl
  unfold dictOf
  omega
/-- What a text tells as a dictionary costs no more than thrice the text. -/
theorem lt_costs {u : List UInt8} {ms : List S34} (h : LT KM u ms) : u.length ≤ 3900 → (∀ m ∈ ms, Fine6 12000 m) ∧ costsM ms ≤ 3 * u.length + 2 := by
  have up : ∀ {n : Nat} {m : S34}, n ≤ 12000 → Fine6 n m → Fine6 12000 m := fun hn h => ⟨h.key, h.small, by
    obtain ⟨t, u, e, h1, h2, h3, h4⟩ := h.part
    exact ⟨t, u, e, h1, h2, h3, by omega⟩⟩
  induction h with
  | one u m w h hw =>
    intro hu
    rw [List.length_append] at hu
    have hf := km_fine h (by omega)
    obtain ⟨_, _, _, _, _, _, _, hc⟩ := cost_fine hf
    refine ⟨fun q hq => by rw [List.mem_singleton.1 hq]; exact up (by omega) hf, ?_⟩
    rw [costs_cons6, List.length_append]
    show costM m + 0 ≤ _
    omega
  | more u m w1 w2 v ms h hw1 hw2 hv ih =>
    intro hu
    simp only [List.length_append, List.length_cons] at hu
    have hf := km_fine h (by omega)
    obtain ⟨_, _, _, _, _, _, _, hc⟩ := cost_fine hf
    obtain ⟨i1, i2⟩ := ih (by omega)
    refine ⟨fun q hq => ?_, ?_⟩
    · rcases List.mem_cons.1 hq with rfl | hq
      · exact up (by omega) hf
      · exact i1 q hq
    · rw [costs_cons6]
      simp only [List.length_append, List.length_cons]
      omega
theorem dict_some (k : Nat) : ∀ (ms : List S34) (seen o : List ByteArray), (∀ m ∈ ms, Fine6 12000 m) → Dist6 ms → (∀ m ∈ ms, m.f0 ∉ seen) → o.length + ms.length ≤ 900000 →
    ∃ ts, dictT k ms seen o = ((strings_Join.f (o ++ ts) ⟨#[44, 32]⟩).bind fun t => some (t, 0)) ∧ szs2 ts = costsM ms ∧ ts.length = ms.length
  | [], seen, o, _, _, _, _ => ⟨[], by rw [dictT, List.append_nil], rfl, rfl⟩
  | m :: ms, seen, o, hf, hd, hn, hl => by
    have hm := hf m List.mem_cons_self
    obtain ⟨t, u, e, t1, t2, t3, t4, t5⟩ := cost_fine hm
    rw [List.length_cons] at hl
    unfold Dist6 at hd
    rw [List.map_cons, List.nodup_cons] at hd
    have t1' : sfield_text.f k m.f0 m.f1 m.f2.f0 m.f2.f1 m.f2.f2 m.f2.f3 m.f3 m.f4 = some (t, 0) := t1
    have hs := hm.small
    have hko := key_ok hm.key
    have hb : badM m 0 seen = false := by
      have : inL m.f0 seen = false := by
        cases e : inL m.f0 seen with
        | false => rfl
        | true => exact absurd ((inL_iff _ _).1 e) (hn m List.mem_cons_self)
      unfold badM
      rw [hko.1, hko.2, this]
      rfl
    obtain ⟨ts, i1, i2, i3⟩ := dict_some k ms (m.f0 :: seen) (o ++ [partD m t u]) (fun q hq => hf q (List.mem_cons_of_mem _ hq)) hd.2 (fun q hq hm => by
      rcases List.mem_cons.1 hm with h | h
      · exact hd.1 (List.mem_map.2 ⟨q, hq, h⟩)
      · exact hn q (List.mem_cons_of_mem _ hq) h) (by rw [List.length_append, List.length_singleton]; omega)
    refine ⟨partD m t u :: ts, ?_, ?_, by rw [List.length_cons, List.length_cons, i3]⟩
    · rw [dictT, t1', Option.bind_some]
      dsimp only
      rw [if_neg (by simp only [Decidable.not_not]; refine ⟨by omega, by omega, by omega⟩), hb, if_neg (by decide)]
      rw [List.append_assoc] at i1
      rw [show o ++ partD m t u :: ts = o ++ ([partD m t u] ++ ts) from rfl, ← i1]
      unfold partD
      by_cases h6 : m.f2.f0 = 6 ∧ m.f2.f1 = 1
      · rw [if_pos h6, if_pos h6, (t3 h6).1, Option.bind_some, if_pos (by have := (t3 h6).2; dsimp only; omega)]
      · rw [if_neg h6, if_neg h6]
    · unfold szs2 at i2 ⊢
      rw [List.map_cons, List.sum_cons, i2, costs_cons6, t4]
end Go.Proofs.YtjdbiicjfpgjkaaGreatDoor.Pl
/- Members that may be are read from their text as themselves, and what is read may be, and is read again as itself: over the printed functions. -/
namespace Go.Proofs.YtjdbiicjfpgjkaaGreatDoor.Pure
open Go.RowKit Go.Proofs.YtjdbiicjfpgjkaaGreatDoor.Q Go.Proofs.YtjdbiicjfpgjkaaGreatDoor.Sf Go.Proofs.YtjdbiicjfpgjkaaGreatDoor.Pl Go.Proofs.YtjdbiicjfpgjkaaGreatDoorW.PrintWords Go.Proofs.YtjdbiicjfpgjkaaGreatDoorW.PrintLast
set_option linter.unusedVariables false
theorem few_fit {m : S34} (h : fewM m = true) : Fit 20000 m := by
  obtain ⟨h1, h2, h3, h4, h5, h6⟩ := few_memb h
  exact ⟨by have := (few_item h5).1; omega, by omega, by omega, fun i hi => by have := (few_item (h4 i hi)).1; omega, by omega⟩
theorem few_same {l : List S34} (h : few50 l) (k : Nat) (hk : 80000 < k) : glacisref06_Same.f k l l = some true :=
  membs_refl l (by have := h.1; omega) (fun m hm => few_fit (h.2 m hm)) k hk
/-- A list's text is read as the list. -/
theorem list_round (l : List S34) (t : ByteArray) (h : listT l [] = some (t, 0)) (hz : t.size ≤ 4000) (k : Nat) (hk : 6000 < k) : sfield_List.f k t = some (l, 0) := by
  obtain ⟨ts, h1, h2⟩ := list_inv l [] t h
  rw [List.nil_append] at h1
  subst h1
  rw [list_f _ (by omega) k hk, parts_read tells_m h2 hz k (by omega)]
  rfl
theorem dict_round (kk : Nat) (l : List S34) (t : ByteArray) (h : dictT kk l [] [] = some (t, 0)) (hz : t.size ≤ 4000) (k : Nat) (hk : 6000 < k) : sfield_Dict.f k t = some (l, 0) := by
  obtain ⟨ts, h1, h2, _, h4⟩ := dict_inv kk l [] [] t h
  rw [List.nil_append] at h1
  subst h1
  rw [dict_f _ (by omega) k hk, parts_read tells_k h2 hz k (by omega)]
  show some (dictOf l, (0 : Int)) = _
  rw [dict_self h4]
theorem Lib_len (s : ByteArray) : (Lib.trimB (L s) 32).length ≤ s.size := by
  rw [size_L]
  exact trim_len (L s)
theorem list_again (s : ByteArray) (hs : s.size ≤ 1000) (k : Nat) (hk : 80000 < k) (ms : List S34) (h : rdTop rdMember k s = some ms) (k1 k2 k3 : Nat) (h1 : 80000 < k1) (h2 : 80000 < k2) (h3 : 80000 < k3) :
    ∃ t, sfield_ListText.f k1 ms = some (t, 0) ∧ sfield_List.f k2 t = some (ms, 0) ∧ glacisref06_Same.f k3 ms ms = some true := by
  obtain ⟨q1, q2⟩ := top_same less_m k s ms h
  have hT := Lib_len s
  obtain ⟨_, hi⟩ := top_inv tells_m h
  have hl : ∃ t, listT ms [] = some (t, 0) ∧ t.size ≤ 4000 := by
    rcases hi with ⟨_, rfl⟩ | hi
    · refine ⟨⟨#[]⟩, ?_, by decide⟩
      rw [listT, join_s 0 (fun x h => by cases h) (by simp) (by omega) (by show (2 : Nat) ≤ 2; omega)]
      rfl
    · obtain ⟨ts, i1, i2, i3⟩ := list_some hi (by omega)
      have hj := szs2_le ts
      have : strings_Join.f ([] ++ ts) ⟨#[44, 32]⟩ = some (joinBA ts ⟨#[44, 32]⟩) := if_pos ⟨by rw [List.nil_append]; omega, by rw [List.nil_append]; omega⟩
      exact ⟨joinBA ts ⟨#[44, 32]⟩, by rw [i1, this]; rfl, by omega⟩
  obtain ⟨t, ht, hz⟩ := hl
  exact ⟨t, by rw [list_text ms (by omega) k1 (by omega)]; exact ht, list_round ms t ht hz k2 (by omega), membs_refl ms (by omega) (fun m hm => (q2 m hm).mono (by omega)) k3 h3⟩
theorem dict_again (s : ByteArray) (hs : s.size ≤ 1000) (k : Nat) (hk : 80000 < k) (ms : List S34) (h : rdTop rdKeyed k s = some ms) (k1 k2 k3 : Nat) (h1 : 80000 < k1) (h2 : 80000 < k2) (h3 : 80000 < k3) :
    ∃ t, sfield_DictText.f k1 (dictOf ms) = some (t, 0) ∧ sfield_Dict.f k2 t = some (dictOf ms, 0) ∧ glacisref06_Same.f k3 (dictOf ms) (dictOf ms) = some true := by
  obtain ⟨q1, q2⟩ := top_same less_k k s ms h
  have hT := Lib_len s
  have hd := dictOf_len ms
  obtain ⟨_, hi⟩ := top_inv tells_k h
  have hl : ∃ t, dictT k1 (dictOf ms) [] [] = some (t, 0) ∧ t.size ≤ 4000 := by
    rcases hi with ⟨_, rfl⟩ | hi
    · refine ⟨⟨#[]⟩, ?_, by decide⟩
      show dictT k1 [] [] [] = _
      rw [dictT, join_s 0 (fun x h => by cases h) (by simp) (by omega) (by show (2 : Nat) ≤ 2; omega)]
      rfl
    · obtain ⟨c1, c2⟩ := lt_costs hi (by omega)
      have c3 := costs_dict ms
      obtain ⟨ts, i1, i2, i3⟩ := dict_some k1 (dictOf ms) [] [] (fun m hm => by
        rcases mem_dict ms [] m hm with h | h
        · exact c1 m h
        · cases h) (dict_dist ms) (fun m hm h => by cases h) (by rw [List.length_nil]; omega)
      have hj := szs2_le ts
      have : strings_Join.f ([] ++ ts) ⟨#[44, 32]⟩ = some (joinBA ts ⟨#[44, 32]⟩) := if_pos ⟨by rw [List.nil_append]; omega, by rw [List.nil_append]; omega⟩
      exact ⟨joinBA ts ⟨#[44, 32]⟩, by rw [i1, this]; rfl, by omega⟩
  obtain ⟨t, ht, hz⟩ := hl
  refine ⟨t, ?_, dict_round k1 (dictOf ms) t ht hz k2 (by omega), membs_refl (dictOf ms) (by omega) (fun m hm => ?_) k3 h3⟩
  · unfold sfield_DictText.f
    rw [if_pos (by omega)]
    exact ht
  · rcases mem_dict ms [] m hm with h | h
    · exact (q2 m h).mono (by omega)
    · cases h
theorem back_j5 (s : ByteArray) (hs : s.size ≤ 1000) (k : Nat) (hk : 90000 ≤ k) : glacislaw06_SfieldBack.j5 (k + 1) s true = some true := by
  rw [glacislaw06_SfieldBack.j5, dict_f s (by omega) k (by omega), Option.bind_some]
  cases h : rdTop rdKeyed k s with
  | none => exact if_neg (by decide)
  | some ms =>
    show (if (0 : Int) = 0 then _ else _) = _
    obtain ⟨t, a1, a2, a3⟩ := dict_again s hs k (by omega) ms h k k k (by omega) (by omega) (by omega)
    rw [if_pos rfl]
    show ((sfield_DictText.f k (dictOf ms)).bind _) = _
    rw [a1, Option.bind_some]
    dsimp only
    rw [a2, Option.bind_some]
    show ((glacisref06_Same.f k (dictOf ms) (dictOf ms)).bind _) = _
    rw [a3, Option.bind_some, if_pos rfl, if_pos rfl]
    rfl
theorem back_j4 (s : ByteArray) (hs : s.size ≤ 1000) (k : Nat) (hk : 90001 ≤ k) : glacislaw06_SfieldBack.j4 (k + 1) s true = some true := by
  obtain ⟨k', rfl⟩ : ∃ k', k = k' + 1 := ⟨k - 1, by omega⟩
  rw [glacislaw06_SfieldBack.j4, list_f s (by omega) (k' + 1) (by omega), Option.bind_some, back_j5 s hs k' (by omega)]
  cases h : rdTop rdMember (k' + 1) s with
  | none => exact if_neg (by decide)
  | some ms =>
    show (if (0 : Int) = 0 then _ else _) = _
    obtain ⟨t, a1, a2, a3⟩ := list_again s hs (k' + 1) (by omega) ms h (k' + 1) (k' + 1) (k' + 1) (by omega) (by omega) (by omega)
    rw [if_pos rfl]
    show ((sfield_ListText.f (k' + 1) ms).bind _) = _
    rw [a1, Option.bind_some]
    dsimp only
    rw [a2, Option.bind_some]
    show ((glacisref06_Same.f (k' + 1) ms ms).bind _) = _
    rw [a3, Option.bind_some, if_pos rfl, if_pos rfl]
    rfl
theorem SfieldBackAll (l : List S34) (s : ByteArray) : ∃ k, glacislaw06_SfieldBack.f k l s = some true := by
  refine ⟨400000 + 1, ?_⟩
  unfold glacislaw06_SfieldBack.f glacislaw06_few.f
  rw [awake6 (400000 + 1) (by omega), Option.bind_some, Option.bind_some]
  cases hf : fewL l with
  | false => rw [if_neg (by decide), glacislaw06_SfieldBack.j0, if_pos rfl]
  | true =>
    rw [if_pos rfl, glacislaw06_SfieldBack.j0]
    by_cases hs : (s.size : Int) > 1000
    · rw [decide_eq_true hs, if_pos rfl]
    · have hl := few_of hf
      have h50 := hl.1
      rw [decide_eq_false hs, if_neg (by decide)]
      obtain ⟨⟨t, e⟩, r1, _⟩ := list_both l hl 400000 (by omega)
      obtain ⟨⟨u, f⟩, q1, _⟩ := dict_both l hl 399998 (by omega)
      have j4 := back_j4 s (by omega) 399996 (by omega)
      have hj3 : ∀ b : Bool, (b = true → f = 0 ∧ u.size ≤ 4000) → glacislaw06_SfieldBack.j3 (399997 + 1) l s true u b = some true := by
        intro b hb
        rw [glacislaw06_SfieldBack.j3]
        cases b with
        | false => rw [if_neg (by decide)]; exact j4
        | true =>
          obtain ⟨rfl, hu⟩ := hb rfl
          have hd : dictT 399998 l [] [] = some (u, 0) := by
            unfold sfield_DictText.f at q1
            rwa [if_pos (by omega)] at q1
          rw [if_pos rfl, dict_round _ l u hd hu 399997 (by omega), Option.bind_some]
          dsimp only
          rw [few_same hl 399997 (by omega), Option.bind_some, if_pos rfl, if_pos rfl]
          exact j4
      have hj2 : glacislaw06_SfieldBack.j2 (399998 + 1) l s true = some true := by
        rw [glacislaw06_SfieldBack.j2, q1, Option.bind_some]
        dsimp only
        by_cases hf0 : f = 0
        · rw [if_pos hf0]
          exact hj3 _ (fun h => ⟨hf0, by have := of_decide_eq_true h; omega⟩)
        · rw [if_neg hf0]
          exact hj3 false (fun h => by cases h)
      have hj1 : ∀ b : Bool, (b = true → e = 0 ∧ t.size ≤ 4000) → glacislaw06_SfieldBack.j1 (399999 + 1) l s true t b = some true := by
        intro b hb
        rw [glacislaw06_SfieldBack.j1]
        cases b with
        | false => rw [if_neg (by decide)]; exact hj2
        | true =>
          obtain ⟨rfl, ht⟩ := hb rfl
          have hd : listT l [] = some (t, 0) := by rwa [list_text l (by omega) 400000 (by omega)] at r1
          rw [if_pos rfl, list_round l t hd ht 399999 (by omega), Option.bind_some]
          dsimp only
          rw [few_same hl 399999 (by omega), Option.bind_some, if_pos rfl, if_pos rfl]
          exact hj2
      rw [r1, Option.bind_some]
      dsimp only
      by_cases he : e = 0
      · rw [if_pos he]
        exact hj1 _ (fun h => ⟨he, by have := of_decide_eq_true h; omega⟩)
      · rw [if_neg he]
        exact hj1 false (fun h => by cases h)
theorem SfieldBack : ∀ (a0 : List S34) (a1 : ByteArray), a0.length * 128 ≤ 140737488351232 → (∀ u0 : S34, u0 ∈ a0 → u0.f0.size ≤ 140737488351232 ∧ (Lit.int .i64 u0.f2.f0).wf = true ∧ (Lit.int .i64 u0.f2.f1).wf = true ∧ u0.f2.f2.size ≤ 140737488351232 ∧ (u0.f2.f3.length * 48 ≤ 140737488351232 ∧ ∀ u1 : S60, u1 ∈ u0.f2.f3 → u1.f0.size ≤ 140737488351232 ∧ (Lit.int .i64 u1.f1).wf = true ∧ (Lit.int .i64 u1.f2).wf = true ∧ u1.f3.size ≤ 140737488351232) ∧ (u0.f3.length * 56 ≤ 140737488351232 ∧ ∀ u1 : S31, u1 ∈ u0.f3 → (Lit.int .i64 u1.f0).wf = true ∧ (Lit.int .i64 u1.f1).wf = true ∧ u1.f2.size ≤ 140737488351232 ∧ (u1.f3.length * 48 ≤ 140737488351232 ∧ ∀ u2 : S60, u2 ∈ u1.f3 → u2.f0.size ≤ 140737488351232 ∧ (Lit.int .i64 u2.f1).wf = true ∧ (Lit.int .i64 u2.f2).wf = true ∧ u2.f3.size ≤ 140737488351232)) ∧ (u0.f4.length * 48 ≤ 140737488351232 ∧ ∀ u1 : S60, u1 ∈ u0.f4 → u1.f0.size ≤ 140737488351232 ∧ (Lit.int .i64 u1.f1).wf = true ∧ (Lit.int .i64 u1.f2).wf = true ∧ u1.f3.size ≤ 140737488351232)) → a1.size ≤ 140737488351232 → ∃ k, glacislaw06_SfieldBack.f k a0 a1 = some true :=
  fun l s _ _ _ => SfieldBackAll l s
end Go.Proofs.YtjdbiicjfpgjkaaGreatDoor.Pure
/- Arguments that are structs with slices, or slices of structs: what a row reads, over the printed structs. -/
namespace Go.Proofs.YtjdbiicjfpgjkaaGreatDoor.rg
set_option linter.unusedVariables false
set_option linter.unusedSimpArgs false
open Go.ChangeShapes Go.WideShapes Go.ChangeAt Go.RowKit Go.Deep
open Go.Proofs.YtjdbiicjfpgjkaaGreatDoor.Q Go.Proofs.YtjdbiicjfpgjkaaGreatDoorW.PrintWords Go.Proofs.YtjdbiicjfpgjkaaGreatDoorW.PrintLast
section
variable {H : Type} {enc : TypeId × Value → H} {W : World}
theorem weights_all {P : Program} {e : TypeId} : ∀ {l : List (DataW H)} {i : Nat} {d : DataW H}, l[i]? = some d → ∀ n ∈ d.weights P e, n ∈ DataW.weightsAll P e l
  | d0 :: l, 0, d, h, n, hn => by
    simp only [List.getElem?_cons_zero, Option.some.injEq] at h
    subst h
    simp only [DataW.weightsAll, List.mem_append]
    exact Or.inl hn
  | d0 :: l, i + 1, d, h, n, hn => by
    simp only [List.getElem?_cons_succ] at h
    simp only [DataW.weightsAll, List.mem_append]
    exact Or.inr (weights_all h n hn)
  | [], _, _, h, _, _ => by simp at h
theorem open_row {α : Type} [Inhabited α] {P : Program} {K : Kd α} {Bd : α → Prop} {t e : TypeId} {bytes : Nat} (ht : P.underlying t = some (.slice e)) (ce : P.cellsOf e = K.sz) (hb : P.bytesOf e = bytes)
    (he : ∀ (n : Nat) (cs : List Value) (x : DataW H × List MemPlace), DataW.trod enc P W 0 (fun _ => true) true n e cs = some x → (∀ n ∈ x.1.weights P e, n ≤ reachBytes) → ∃ y : α, K.K W y cs ∧ Bd y)
    {fuel : Nat} {cs : List Value} {x : DataW H × List MemPlace} (h : DataW.trod enc P W 0 (fun _ => true) true fuel t cs = some x) (hz : ∀ n ∈ x.1.weights P t, n ≤ reachBytes) :
    ∃ (A : Option Addr) (cc : Nat) (l : List α), cs = [.slice A l.length cc] ∧ l.length ≤ cc ∧ Kd.C K W A l.length l ∧ l.length * bytes ≤ reachBytes ∧ ∀ y ∈ l, Bd y := by
  rcases open_slice ht h with ⟨rfl, _⟩ | ⟨a, len, cap, m, n, D, Pl, rfl, _, hl, hm, hmm, rfl, hx⟩
  · exact ⟨none, 0, [], rfl, Nat.le_refl _, ⟨rfl, by simp, fun hn => absurd hn (by simp)⟩, by simp, fun x hx => by cases hx⟩
  · have hlm : len ≤ m := by rw [hmm]; simp; omega
    have each : ∀ i, i < len → ∃ y : α, Bd y ∧ ∃ c, c.length = K.sz ∧ K.K W y c ∧ ∀ j u, c[j]? = some u → W.cell? (a.add (i * K.sz + j)) = some u := by
      intro i hi
      obtain ⟨c, h1, h2⟩ := hx i (by omega)
      obtain ⟨_, hlen, hcell⟩ := World.cells?_some h1
      obtain ⟨y, hy, hB⟩ := he n c _ h2 (by
        intro w hw
        refine hz w ?_
        simp only [DataW.weights, ht, List.mem_cons, List.mem_append]
        right; left
        exact weights_all (i := i) (by rw [List.getElem?_map, List.getElem?_range hi]; rfl) w hw)
      refine ⟨y, hB, c, by rw [hlen, ce], hy, fun j u hu => ?_⟩
      have hj : j < c.length := (List.getElem?_eq_some_iff.1 hu).1
      have := hcell j (by omega)
      rw [Go.Deep.add_add, ce] at this
      rw [this]; exact hu
    obtain ⟨F, hF⟩ := choose_lt each
    have hlen : ((List.range len).map F).length = len := by simp
    refine ⟨some a, cap, (List.range len).map F, by rw [hlen], by rw [hlen]; exact hl, ⟨rfl, by rw [hlen]; have := hm; unfold maxLen at this; omega, fun _ => ⟨a, rfl, ?_⟩⟩, ?_, ?_⟩
    · intro j y hj
      have hjl : j < len := by
        have := (List.getElem?_eq_some_iff.1 hj).1
        simpa using this
      have hx' : y = F j := by
        rw [List.getElem?_map, List.getElem?_range hjl] at hj
        exact (Option.some.inj hj).symm
      subst hx'
      exact (hF j hjl).2
    · rw [hlen]
      have := hz ((len + (m - len)) * P.bytesOf e) (by simp [DataW.weights, ht])
      rw [hb] at this
      have h2 : len * bytes ≤ (len + (m - len)) * bytes := Nat.mul_le_mul_right _ (by omega)
      omega
    · intro y hy
      obtain ⟨i, hi, rfl⟩ := List.mem_map.1 hy
      exact (hF i (List.mem_range.1 hi)).1
theorem list4 {α : Type} {l : List α} (h : l.length = 4) : ∃ c0 c1 c2 c3, l = [c0, c1, c2, c3] := by
  match l, h with
  | [c0, c1, c2, c3], _ => exact ⟨c0, c1, c2, c3, rfl⟩
theorem list5 {α : Type} {l : List α} (h : l.length = 5) : ∃ c0 c1 c2 c3 c4, l = [c0, c1, c2, c3, c4] := by
  match l, h with
  | [c0, c1, c2, c3, c4], _ => exact ⟨c0, c1, c2, c3, c4, rfl⟩
theorem list8 {α : Type} {l : List α} (h : l.length = 8) : ∃ c0 c1 c2 c3 c4 c5 c6 c7, l = [c0, c1, c2, c3, c4, c5, c6, c7] := by
  match l, h with
  | [c0, c1, c2, c3, c4, c5, c6, c7], _ => exact ⟨c0, c1, c2, c3, c4, c5, c6, c7, rfl⟩
theorem open_s60 (fuel : Nat) (cs : List Value) (x : DataW H × List MemPlace) (h : DataW.trod enc Tryz.prog W 0 (fun _ => true) true fuel 60 cs = some x) (hz : ∀ n ∈ x.1.weights Tryz.prog 60, n ≤ reachBytes) :
    ∃ y : S60, k60.K W y cs ∧ (y.f0.size ≤ reachBytes ∧ (Lit.int .i64 y.f1).wf = true ∧ (Lit.int .i64 y.f2).wf = true ∧ y.f3.size ≤ reachBytes) := by
  obtain ⟨xs, n, rfl, rfl, hl, hxl, hf⟩ := DataW.trod_struct Tryz.underlying60 h
  rw [show Tryz.prog.cellsOf 60 = 4 by kernel_rfl] at hl
  obtain ⟨c0, c1, c2, c3, rfl⟩ := list4 hl
  obtain ⟨y0, y1, y2, y3, rfl⟩ := list4 (show xs.length = 4 from hxl)
  have hz' : ∀ n, (n ∈ y0.1.weights Tryz.prog 9 ∨ n ∈ y1.1.weights Tryz.prog 3 ∨ n ∈ y2.1.weights Tryz.prog 3 ∨ n ∈ y3.1.weights Tryz.prog 9) → n ≤ reachBytes := fun n hn => hz n (by simpa [DataW.weights, Tryz.underlying60, DataW.weightsEach] using hn)
  clear hz
  have g0 : DataW.trod enc Tryz.prog W 0 (fun _ => true) true n 9 [c0] = some y0 := by simpa [show Tryz.prog.cellsOf 9 = 1 by kernel_rfl] using hf 0 _ rfl
  obtain ⟨a0, e0, x0, _⟩ := DataW.trod_string Tryz.underlying9 g0
  have w0 : a0.size ≤ reachBytes := by
    have z := hz' a0.data.toList.length (.inl (by rw [x0]; simp [DataW.weights]))
    rw [Array.length_toList] at z
    exact z
  simp only [List.cons.injEq, and_true] at e0
  subst e0
  have g1 : DataW.trod enc Tryz.prog W 0 (fun _ => true) true n 3 [c1] = some y1 := by simpa [show Tryz.prog.cellsOf 3 = 1 by kernel_rfl] using hf 1 _ rfl
  obtain ⟨a1, e1, x1, w1⟩ := DataW.trod_int Tryz.underlying3 g1
  simp only [List.cons.injEq, and_true] at e1
  subst e1
  have g2 : DataW.trod enc Tryz.prog W 0 (fun _ => true) true n 3 [c2] = some y2 := by simpa [show Tryz.prog.cellsOf 3 = 1 by kernel_rfl] using hf 2 _ rfl
  obtain ⟨a2, e2, x2, w2⟩ := DataW.trod_int Tryz.underlying3 g2
  simp only [List.cons.injEq, and_true] at e2
  subst e2
  have g3 : DataW.trod enc Tryz.prog W 0 (fun _ => true) true n 9 [c3] = some y3 := by simpa [show Tryz.prog.cellsOf 9 = 1 by kernel_rfl] using hf 3 _ rfl
  obtain ⟨a3, e3, x3, _⟩ := DataW.trod_string Tryz.underlying9 g3
  have w3 : a3.size ≤ reachBytes := by
    have z := hz' a3.data.toList.length (.inr (.inr (.inr (by rw [x3]; simp [DataW.weights]))))
    rw [Array.length_toList] at z
    exact z
  simp only [List.cons.injEq, and_true] at e3
  subst e3
  exact ⟨⟨a0, a1, a2, a3⟩, k60_mk W ⟨a0, a1, a2, a3⟩ , w0, w1, w2, w3⟩
theorem open_s29 (fuel : Nat) (cs : List Value) (x : DataW H × List MemPlace) (h : DataW.trod enc Tryz.prog W 0 (fun _ => true) true fuel 29 cs = some x) (hz : ∀ n ∈ x.1.weights Tryz.prog 29, n ≤ reachBytes) :
    ∃ (A : Option Addr) (cc : Nat) (l : List S60), cs = [.slice A l.length cc] ∧ l.length ≤ cc ∧ Kd.C k60 W A l.length l ∧ l.length * 48 ≤ reachBytes ∧ ∀ y : S60, y ∈ l → y.f0.size ≤ reachBytes ∧ (Lit.int .i64 y.f1).wf = true ∧ (Lit.int .i64 y.f2).wf = true ∧ y.f3.size ≤ reachBytes := by
  haveI : Inhabited S60 := ⟨z60⟩
  exact open_row (K := k60) (Bd := fun y : S60 => y.f0.size ≤ reachBytes ∧ (Lit.int .i64 y.f1).wf = true ∧ (Lit.int .i64 y.f2).wf = true ∧ y.f3.size ≤ reachBytes) Tryz.underlying29 (by kernel_rfl) (by kernel_rfl) open_s60 h hz
theorem open_s31 (fuel : Nat) (cs : List Value) (x : DataW H × List MemPlace) (h : DataW.trod enc Tryz.prog W 0 (fun _ => true) true fuel 31 cs = some x) (hz : ∀ n ∈ x.1.weights Tryz.prog 31, n ≤ reachBytes) :
    ∃ y : S31, k31.K W y cs ∧ ((Lit.int .i64 y.f0).wf = true ∧ (Lit.int .i64 y.f1).wf = true ∧ y.f2.size ≤ reachBytes ∧ (y.f3.length * 48 ≤ reachBytes ∧ ∀ u0 : S60, u0 ∈ y.f3 → u0.f0.size ≤ reachBytes ∧ (Lit.int .i64 u0.f1).wf = true ∧ (Lit.int .i64 u0.f2).wf = true ∧ u0.f3.size ≤ reachBytes)) := by
  obtain ⟨xs, n, rfl, rfl, hl, hxl, hf⟩ := DataW.trod_struct Tryz.underlying31 h
  rw [show Tryz.prog.cellsOf 31 = 4 by kernel_rfl] at hl
  obtain ⟨c0, c1, c2, c3, rfl⟩ := list4 hl
  obtain ⟨y0, y1, y2, y3, rfl⟩ := list4 (show xs.length = 4 from hxl)
  have hz' : ∀ n, (n ∈ y0.1.weights Tryz.prog 3 ∨ n ∈ y1.1.weights Tryz.prog 3 ∨ n ∈ y2.1.weights Tryz.prog 9 ∨ n ∈ y3.1.weights Tryz.prog 29) → n ≤ reachBytes := fun n hn => hz n (by simpa [DataW.weights, Tryz.underlying31, DataW.weightsEach] using hn)
  clear hz
  have g0 : DataW.trod enc Tryz.prog W 0 (fun _ => true) true n 3 [c0] = some y0 := by simpa [show Tryz.prog.cellsOf 3 = 1 by kernel_rfl] using hf 0 _ rfl
  obtain ⟨a0, e0, x0, w0⟩ := DataW.trod_int Tryz.underlying3 g0
  simp only [List.cons.injEq, and_true] at e0
  subst e0
  have g1 : DataW.trod enc Tryz.prog W 0 (fun _ => true) true n 3 [c1] = some y1 := by simpa [show Tryz.prog.cellsOf 3 = 1 by kernel_rfl] using hf 1 _ rfl
  obtain ⟨a1, e1, x1, w1⟩ := DataW.trod_int Tryz.underlying3 g1
  simp only [List.cons.injEq, and_true] at e1
  subst e1
  have g2 : DataW.trod enc Tryz.prog W 0 (fun _ => true) true n 9 [c2] = some y2 := by simpa [show Tryz.prog.cellsOf 9 = 1 by kernel_rfl] using hf 2 _ rfl
  obtain ⟨a2, e2, x2, _⟩ := DataW.trod_string Tryz.underlying9 g2
  have w2 : a2.size ≤ reachBytes := by
    have z := hz' a2.data.toList.length (.inr (.inr (.inl (by rw [x2]; simp [DataW.weights]))))
    rw [Array.length_toList] at z
    exact z
  simp only [List.cons.injEq, and_true] at e2
  subst e2
  have g3 : DataW.trod enc Tryz.prog W 0 (fun _ => true) true n 29 [c3] = some y3 := by simpa [show Tryz.prog.cellsOf 29 = 1 by kernel_rfl] using hf 3 _ rfl
  obtain ⟨A3, n3, a3, e3, l3, C3, w3, z3⟩ := open_s29 _ _ _ g3 (fun n hn => hz' n (.inr (.inr (.inr hn))))
  simp only [List.cons.injEq, and_true] at e3
  subst e3
  exact ⟨⟨a0, a1, a2, a3⟩, k31_mk W ⟨a0, a1, a2, a3⟩ l3 C3, w0, w1, w2, ⟨w3, z3⟩⟩
theorem open_s32 (fuel : Nat) (cs : List Value) (x : DataW H × List MemPlace) (h : DataW.trod enc Tryz.prog W 0 (fun _ => true) true fuel 32 cs = some x) (hz : ∀ n ∈ x.1.weights Tryz.prog 32, n ≤ reachBytes) :
    ∃ (A : Option Addr) (cc : Nat) (l : List S31), cs = [.slice A l.length cc] ∧ l.length ≤ cc ∧ Kd.C k31 W A l.length l ∧ l.length * 56 ≤ reachBytes ∧ ∀ y : S31, y ∈ l → (Lit.int .i64 y.f0).wf = true ∧ (Lit.int .i64 y.f1).wf = true ∧ y.f2.size ≤ reachBytes ∧ (y.f3.length * 48 ≤ reachBytes ∧ ∀ u0 : S60, u0 ∈ y.f3 → u0.f0.size ≤ reachBytes ∧ (Lit.int .i64 u0.f1).wf = true ∧ (Lit.int .i64 u0.f2).wf = true ∧ u0.f3.size ≤ reachBytes) := by
  haveI : Inhabited S31 := ⟨z31⟩
  exact open_row (K := k31) (Bd := fun y : S31 => (Lit.int .i64 y.f0).wf = true ∧ (Lit.int .i64 y.f1).wf = true ∧ y.f2.size ≤ reachBytes ∧ (y.f3.length * 48 ≤ reachBytes ∧ ∀ u0 : S60, u0 ∈ y.f3 → u0.f0.size ≤ reachBytes ∧ (Lit.int .i64 u0.f1).wf = true ∧ (Lit.int .i64 u0.f2).wf = true ∧ u0.f3.size ≤ reachBytes)) Tryz.underlying32 (by kernel_rfl) (by kernel_rfl) open_s31 h hz
theorem open_s34 (fuel : Nat) (cs : List Value) (x : DataW H × List MemPlace) (h : DataW.trod enc Tryz.prog W 0 (fun _ => true) true fuel 34 cs = some x) (hz : ∀ n ∈ x.1.weights Tryz.prog 34, n ≤ reachBytes) :
    ∃ y : S34, k34.K W y cs ∧ (y.f0.size ≤ reachBytes ∧ (Lit.int .i64 y.f2.f0).wf = true ∧ (Lit.int .i64 y.f2.f1).wf = true ∧ y.f2.f2.size ≤ reachBytes ∧ (y.f2.f3.length * 48 ≤ reachBytes ∧ ∀ u0 : S60, u0 ∈ y.f2.f3 → u0.f0.size ≤ reachBytes ∧ (Lit.int .i64 u0.f1).wf = true ∧ (Lit.int .i64 u0.f2).wf = true ∧ u0.f3.size ≤ reachBytes) ∧ (y.f3.length * 56 ≤ reachBytes ∧ ∀ u0 : S31, u0 ∈ y.f3 → (Lit.int .i64 u0.f0).wf = true ∧ (Lit.int .i64 u0.f1).wf = true ∧ u0.f2.size ≤ reachBytes ∧ (u0.f3.length * 48 ≤ reachBytes ∧ ∀ u1 : S60, u1 ∈ u0.f3 → u1.f0.size ≤ reachBytes ∧ (Lit.int .i64 u1.f1).wf = true ∧ (Lit.int .i64 u1.f2).wf = true ∧ u1.f3.size ≤ reachBytes)) ∧ (y.f4.length * 48 ≤ reachBytes ∧ ∀ u0 : S60, u0 ∈ y.f4 → u0.f0.size ≤ reachBytes ∧ (Lit.int .i64 u0.f1).wf = true ∧ (Lit.int .i64 u0.f2).wf = true ∧ u0.f3.size ≤ reachBytes)) := by
  obtain ⟨xs, n, rfl, rfl, hl, hxl, hf⟩ := DataW.trod_struct Tryz.underlying34 h
  rw [show Tryz.prog.cellsOf 34 = 8 by kernel_rfl] at hl
  obtain ⟨c0, c1, c2, c3, c4, c5, c6, c7, rfl⟩ := list8 hl
  obtain ⟨y0, y1, y2, y3, y4, rfl⟩ := list5 (show xs.length = 5 from hxl)
  have hz' : ∀ n, (n ∈ y0.1.weights Tryz.prog 9 ∨ n ∈ y1.1.weights Tryz.prog 4 ∨ n ∈ y2.1.weights Tryz.prog 31 ∨ n ∈ y3.1.weights Tryz.prog 32 ∨ n ∈ y4.1.weights Tryz.prog 29) → n ≤ reachBytes := fun n hn => hz n (by simpa [DataW.weights, Tryz.underlying34, DataW.weightsEach] using hn)
  clear hz
  have g0 : DataW.trod enc Tryz.prog W 0 (fun _ => true) true n 9 [c0] = some y0 := by simpa [show Tryz.prog.cellsOf 9 = 1 by kernel_rfl] using hf 0 _ rfl
  obtain ⟨a0, e0, x0, _⟩ := DataW.trod_string Tryz.underlying9 g0
  have w0 : a0.size ≤ reachBytes := by
    have z := hz' a0.data.toList.length (.inl (by rw [x0]; simp [DataW.weights]))
    rw [Array.length_toList] at z
    exact z
  simp only [List.cons.injEq, and_true] at e0
  subst e0
  have g1 : DataW.trod enc Tryz.prog W 0 (fun _ => true) true n 4 [c1] = some y1 := by simpa [show Tryz.prog.cellsOf 4 = 1 by kernel_rfl] using hf 1 _ rfl
  obtain ⟨a1, e1, x1⟩ := DataW.trod_bool Tryz.underlying4 g1
  simp only [List.cons.injEq, and_true] at e1
  subst e1
  have g2 : DataW.trod enc Tryz.prog W 0 (fun _ => true) true n 31 [c2, c3, c4, c5] = some y2 := by simpa [show Tryz.prog.cellsOf 31 = 4 by kernel_rfl] using hf 2 _ rfl
  obtain ⟨b2, K2, B2⟩ := open_s31 _ _ _ g2 (fun n hn => hz' n (.inr (.inr (.inl hn))))
  obtain ⟨A2_3, n2_3, e2, l2_3, C2_3⟩ := k31_open K2
  simp only [List.cons.injEq, and_true] at e2
  obtain ⟨rfl, rfl, rfl, rfl⟩ := e2
  obtain ⟨w2_0, w2_1, w2_2, w2_3⟩ := B2
  have g3 : DataW.trod enc Tryz.prog W 0 (fun _ => true) true n 32 [c6] = some y3 := by simpa [show Tryz.prog.cellsOf 32 = 1 by kernel_rfl] using hf 3 _ rfl
  obtain ⟨A3, n3, a3, e3, l3, C3, w3, z3⟩ := open_s32 _ _ _ g3 (fun n hn => hz' n (.inr (.inr (.inr (.inl hn)))))
  simp only [List.cons.injEq, and_true] at e3
  subst e3
  have g4 : DataW.trod enc Tryz.prog W 0 (fun _ => true) true n 29 [c7] = some y4 := by simpa [show Tryz.prog.cellsOf 29 = 1 by kernel_rfl] using hf 4 _ rfl
  obtain ⟨A4, n4, a4, e4, l4, C4, w4, z4⟩ := open_s29 _ _ _ g4 (fun n hn => hz' n (.inr (.inr (.inr (.inr hn)))))
  simp only [List.cons.injEq, and_true] at e4
  subst e4
  exact ⟨⟨a0, a1, b2, a3, a4⟩, k34_mk W ⟨a0, a1, b2, a3, a4⟩ l2_3 C2_3 l3 C3 l4 C4, w0, w2_0, w2_1, w2_2, w2_3, ⟨w3, z3⟩, ⟨w4, z4⟩⟩
theorem open_s23 (fuel : Nat) (cs : List Value) (x : DataW H × List MemPlace) (h : DataW.trod enc Tryz.prog W 0 (fun _ => true) true fuel 23 cs = some x) (hz : ∀ n ∈ x.1.weights Tryz.prog 23, n ≤ reachBytes) :
    ∃ (A : Option Addr) (cc : Nat) (l : List S34), cs = [.slice A l.length cc] ∧ l.length ≤ cc ∧ Kd.C k34 W A l.length l ∧ l.length * 128 ≤ reachBytes ∧ ∀ y : S34, y ∈ l → y.f0.size ≤ reachBytes ∧ (Lit.int .i64 y.f2.f0).wf = true ∧ (Lit.int .i64 y.f2.f1).wf = true ∧ y.f2.f2.size ≤ reachBytes ∧ (y.f2.f3.length * 48 ≤ reachBytes ∧ ∀ u0 : S60, u0 ∈ y.f2.f3 → u0.f0.size ≤ reachBytes ∧ (Lit.int .i64 u0.f1).wf = true ∧ (Lit.int .i64 u0.f2).wf = true ∧ u0.f3.size ≤ reachBytes) ∧ (y.f3.length * 56 ≤ reachBytes ∧ ∀ u0 : S31, u0 ∈ y.f3 → (Lit.int .i64 u0.f0).wf = true ∧ (Lit.int .i64 u0.f1).wf = true ∧ u0.f2.size ≤ reachBytes ∧ (u0.f3.length * 48 ≤ reachBytes ∧ ∀ u1 : S60, u1 ∈ u0.f3 → u1.f0.size ≤ reachBytes ∧ (Lit.int .i64 u1.f1).wf = true ∧ (Lit.int .i64 u1.f2).wf = true ∧ u1.f3.size ≤ reachBytes)) ∧ (y.f4.length * 48 ≤ reachBytes ∧ ∀ u0 : S60, u0 ∈ y.f4 → u0.f0.size ≤ reachBytes ∧ (Lit.int .i64 u0.f1).wf = true ∧ (Lit.int .i64 u0.f2).wf = true ∧ u0.f3.size ≤ reachBytes) := by
  haveI : Inhabited S34 := ⟨z34⟩
  exact open_row (K := k34) (Bd := fun y : S34 => y.f0.size ≤ reachBytes ∧ (Lit.int .i64 y.f2.f0).wf = true ∧ (Lit.int .i64 y.f2.f1).wf = true ∧ y.f2.f2.size ≤ reachBytes ∧ (y.f2.f3.length * 48 ≤ reachBytes ∧ ∀ u0 : S60, u0 ∈ y.f2.f3 → u0.f0.size ≤ reachBytes ∧ (Lit.int .i64 u0.f1).wf = true ∧ (Lit.int .i64 u0.f2).wf = true ∧ u0.f3.size ≤ reachBytes) ∧ (y.f3.length * 56 ≤ reachBytes ∧ ∀ u0 : S31, u0 ∈ y.f3 → (Lit.int .i64 u0.f0).wf = true ∧ (Lit.int .i64 u0.f1).wf = true ∧ u0.f2.size ≤ reachBytes ∧ (u0.f3.length * 48 ≤ reachBytes ∧ ∀ u1 : S60, u1 ∈ u0.f3 → u1.f0.size ≤ reachBytes ∧ (Lit.int .i64 u1.f1).wf = true ∧ (Lit.int .i64 u1.f2).wf = true ∧ u1.f3.size ≤ reachBytes)) ∧ (y.f4.length * 48 ≤ reachBytes ∧ ∀ u0 : S60, u0 ∈ y.f4 → u0.f0.size ≤ reachBytes ∧ (Lit.int .i64 u0.f1).wf = true ∧ (Lit.int .i64 u0.f2).wf = true ∧ u0.f3.size ≤ reachBytes)) Tryz.underlying23 (by kernel_rfl) (by kernel_rfl) open_s34 h hz
set_option maxRecDepth 20000 in
theorem open_p23 {base : Nat} {v : Value} {d : DataW H} {p : List MemPlace} (hv : Value.okWide Tryz.prog W .any base 23 v) (h : DataW.Trod enc Tryz.prog W 0 (fun _ => true) true 23 v d p)
    (hz : ∀ n ∈ d.weights Tryz.prog 23, n ≤ reachBytes) :
    ∃ (A0 : Option Addr) (c0 : Nat) (a0 : List S34), v = .slice A0 a0.length c0 ∧ a0.length ≤ c0 ∧ Kd.C k34 W A0 a0.length a0 ∧ a0.length * 128 ≤ reachBytes ∧ ∀ u0 : S34, u0 ∈ a0 → u0.f0.size ≤ reachBytes ∧ (Lit.int .i64 u0.f2.f0).wf = true ∧ (Lit.int .i64 u0.f2.f1).wf = true ∧ u0.f2.f2.size ≤ reachBytes ∧ (u0.f2.f3.length * 48 ≤ reachBytes ∧ ∀ u1 : S60, u1 ∈ u0.f2.f3 → u1.f0.size ≤ reachBytes ∧ (Lit.int .i64 u1.f1).wf = true ∧ (Lit.int .i64 u1.f2).wf = true ∧ u1.f3.size ≤ reachBytes) ∧ (u0.f3.length * 56 ≤ reachBytes ∧ ∀ u1 : S31, u1 ∈ u0.f3 → (Lit.int .i64 u1.f0).wf = true ∧ (Lit.int .i64 u1.f1).wf = true ∧ u1.f2.size ≤ reachBytes ∧ (u1.f3.length * 48 ≤ reachBytes ∧ ∀ u2 : S60, u2 ∈ u1.f3 → u2.f0.size ≤ reachBytes ∧ (Lit.int .i64 u2.f1).wf = true ∧ (Lit.int .i64 u2.f2).wf = true ∧ u2.f3.size ≤ reachBytes)) ∧ (u0.f4.length * 48 ≤ reachBytes ∧ ∀ u1 : S60, u1 ∈ u0.f4 → u1.f0.size ≤ reachBytes ∧ (Lit.int .i64 u1.f1).wf = true ∧ (Lit.int .i64 u1.f2).wf = true ∧ u1.f3.size ≤ reachBytes) := by
  obtain ⟨b0, n0, m0, rfl⟩ := okWide_slice Tryz.underlying23 hv
  obtain ⟨fuel, hf⟩ := h
  obtain ⟨A0, c0, a0, e, hl, hC, hb, ha⟩ := open_s23 _ _ _ hf (by exact hz)
  simp [Value.cells] at e
  obtain ⟨rfl, e2, e3⟩ := e
  rw [e2, e3]
  exact ⟨_, _, a0, rfl, hl, hC, hb, ha⟩
end
end Go.Proofs.YtjdbiicjfpgjkaaGreatDoor.rg
/- The law glacis/glacislaw06.SfieldBack, for every input: its call returns true and leaves its arguments as they were; the row, and its card. Its conditions: the row's own. -/
namespace Go.Proofs.YtjdbiicjfpgjkaaGreatDoor.sfieldBack
open Go.ChangeShapes Go.WideShapes Go.ChangeAt Go.RowKit
open Go.Proofs.YtjdbiicjfpgjkaaGreatDoor.Q Go.Proofs.YtjdbiicjfpgjkaaGreatDoor Go.Proofs.YtjdbiicjfpgjkaaGreatDoorW.PrintWords Go.Proofs.YtjdbiicjfpgjkaaGreatDoorW.PrintLast
open Go.ChangeMaps (open_string shut_string)
open Go.Proofs.YtjdbiicjfpgjkaaGreatDoor.rc
set_option linter.unusedVariables false
theorem walk (W : World) (hT : Aside0 (Q.TabW W)) (A0 : Option Addr) (c0 : Nat) (a0 : List S34) (a1 : ByteArray) (C0 : Kd.C k34 W A0 a0.length a0) (lc0 : a0.length ≤ c0) (h0 : a0.length * 128 ≤ 140737488351232) (h1 : (∀ u0 : S34, u0 ∈ a0 → u0.f0.size ≤ 140737488351232 ∧ (Lit.int .i64 u0.f2.f0).wf = true ∧ (Lit.int .i64 u0.f2.f1).wf = true ∧ u0.f2.f2.size ≤ 140737488351232 ∧ (u0.f2.f3.length * 48 ≤ 140737488351232 ∧ ∀ u1 : S60, u1 ∈ u0.f2.f3 → u1.f0.size ≤ 140737488351232 ∧ (Lit.int .i64 u1.f1).wf = true ∧ (Lit.int .i64 u1.f2).wf = true ∧ u1.f3.size ≤ 140737488351232) ∧ (u0.f3.length * 56 ≤ 140737488351232 ∧ ∀ u1 : S31, u1 ∈ u0.f3 → (Lit.int .i64 u1.f0).wf = true ∧ (Lit.int .i64 u1.f1).wf = true ∧ u1.f2.size ≤ 140737488351232 ∧ (u1.f3.length * 48 ≤ 140737488351232 ∧ ∀ u2 : S60, u2 ∈ u1.f3 → u2.f0.size ≤ 140737488351232 ∧ (Lit.int .i64 u2.f1).wf = true ∧ (Lit.int .i64 u2.f2).wf = true ∧ u2.f3.size ≤ 140737488351232)) ∧ (u0.f4.length * 48 ≤ 140737488351232 ∧ ∀ u1 : S60, u1 ∈ u0.f4 → u1.f0.size ≤ 140737488351232 ∧ (Lit.int .i64 u1.f1).wf = true ∧ (Lit.int .i64 u1.f2).wf = true ∧ u1.f3.size ≤ 140737488351232))) (h2 : a1.size ≤ 140737488351232) :
    Calls Tryz.prog 7 #[.slice A0 a0.length c0, .string a1] W fun e w' => e = .returned (.bool true) ∧ Below W.heap.size W w' := by
  obtain ⟨k, h⟩ := YtjdbiicjfpgjkaaGreatDoor.Pure.SfieldBack a0 a1 h0 h1 h2
  refine (YtjdbiicjfpgjkaaGreatDoor.Q.glacislaw06_SfieldBack.calls k A0 c0 a0 a1 true W hT C0 lc0 h).mono ?_
  rintro e w' ⟨rfl, hd⟩
  first | exact ⟨rfl, hd⟩ | exact ⟨rfl, hd.below⟩
set_option maxRecDepth 100000 in
theorem contract (H : Type) (enc : TypeId × Value → H) (W : World) (hT : Aside0 (Q.TabW W)) (base : Nat) (args : Array Value) (ds gs : List (DataW H)) (before : List MemPlace)
    (hval : ∀ (j : Nat) t v, Tryz.f7.params[j]? = some t → args[j]? = some v → Value.okWide Tryz.prog W .any base t v)
    (hW : DataW.Whole enc Tryz.prog Tryz.f7.params.toList Rows.sfieldBackSpec.vars false W args.toList ds gs before)
    (hsz : (DataW.weightsEach Tryz.prog (Tryz.f7.params.toList ++ Rows.sfieldBackSpec.plain.varTypes Tryz.prog) (ds ++ gs)).all (· ≤ reachBytes) = true) :
    Calls Tryz.prog 7 args W fun e W' => ∃ v, e = .returned v ∧ Rows.sfieldBackSpec.post enc Tryz.prog Tryz.f7 false true false false W args v W' := by
  have hW' := hW
  obtain ⟨p, q, hA0, hV, rfl, hfz, hnd⟩ := hW
  have hA : DataW.TrodAll enc Tryz.prog W 0 (fun _ => true) true Tryz.f7.params.toList args.toList ds p := hA0
  rw [Tryz.params7] at hA hval hsz
  obtain ⟨v0, vs0, d0, ds0, p0, q0, hargs, rfl, rfl, h0, r0⟩ := trodAll_cons hA
  obtain ⟨v1, vs1, d1, ds1, p1, q1, rfl, rfl, rfl, h1, r1⟩ := trodAll_cons r0
  obtain ⟨rfl, rfl, rfl⟩ := trodAll_nil r1
  obtain rfl : args = #[v0, v1] := by cases args; simp_all
  obtain ⟨rfl, rfl⟩ := trodVars_none hV
  have g0 := h0
  have hz0 : ∀ n ∈ d0.weights Tryz.prog 23, n ≤ reachBytes := fun n hn => by
    have z := List.all_eq_true.1 hsz n (DataW.weights_mem_each (j := 0) (t := 23) rfl rfl n hn)
    simpa using z
  obtain ⟨A0, c0, a0, e0, lc0, C0, w0a, w0b⟩ := rg.open_p23 (hval 0 23 v0 rfl rfl) h0 hz0
  subst e0
  have t0 : ∀ W', Below W.heap.size W W' → DataW.Trod enc Tryz.prog W' 0 (fun b => decide (b < W.heap.size)) true 23 _ d0 p0 := fun W' hb => Below.trod laidOut (by kernel_rfl) (of_decide_eq_true (by kernel_rfl)) g0 hb (fun x hx => hW'.lt x (by simp [hx]))
  obtain ⟨a1, rfl, rfl, rfl, y1⟩ := open_string Tryz.underlying9 (hval 1 9 v1 rfl rfl) h1
  have w1 : a1.size ≤ 140737488351232 := by
    have z := sized_string hsz (j := 1) (t := 9) rfl rfl
    rw [Array.length_toList] at z
    exact z
  clear hA0
  refine (walk W hT A0 c0 a0 a1 C0 lc0 w0a w0b w1).mono fun e W' ⟨he, bel⟩ => ?_
  subst he
  exact ⟨_, rfl, _, _, _, [], _, [], hW', trodAll_mk1 (shut_bool Tryz.underlying4 _), (trodAll_cons_mk (t0 _ bel) (trodAll_cons_mk (shut_string Tryz.underlying9 y1) trodAll_mk0)), rfl, bel.frame _, fun h => by cases h⟩
theorem laid_met (os : Os) : laidMet Tryz.prog Rows.sfieldBackRow.laid ((laidWorld os).forCall (fun _ _ => 0) ⟨#[], #[.slice none 0 0, .string ByteArray.empty], []⟩).memory :=
  laidMet_of_run' 8 (by kernel_rfl) (by kernel_rfl)
theorem reads (os : Os) {H : Type} (enc : TypeId × Value → H) : ∃ places, DataW.whole enc Tryz.prog ((laidWorld os).forCall (fun _ _ => 0) ⟨#[], #[.slice none 0 0, .string ByteArray.empty], []⟩).memory Tryz.f7.params.toList Rows.sfieldBackSpec.vars false (#[.slice none 0 0, .string ByteArray.empty] : Array Value).toList 8 = some ([.nil, .lit (.string [])], [], places) :=
  ⟨[], by kernel_rfl⟩
set_option maxRecDepth 100000 in
theorem lifted (os : Os) (started : os.Started) (H : Type) (enc : TypeId × Value → H) (F : Stop.Interp) :
    ReturnsInHanded {} Tryz.checked os 7 .any ((OpenSpec.ofChange Rows.sfieldBackSpec).preRow enc Tryz.prog Tryz.f7 Rows.sfieldBackRow.domain false Rows.sfieldBackRow.laid) (((OpenSpec.ofChange Rows.sfieldBackSpec).at F).post enc Tryz.prog Tryz.f7 false true false false) := by
  obtain ⟨places, hx⟩ := reads os enc
  refine returnsInHanded_of_row (C := Tryz.checked) (s := (OpenSpec.ofChange Rows.sfieldBackSpec)) own started (by kernel_rfl) Tryz.func7
    (witness_row_at (enc := enc) (C := Tryz.checked) false (laidWorld os) #[.slice none 0 0, .string ByteArray.empty] rfl (by kernel_rfl) (by kernel_rfl) (by kernel_rfl)
      (OpenSpec.preRow_of_cond 8 hx (by kernel_rfl) (fun k hk => by cases hk) (by kernel_rfl) (laid_met os))) ?_
  intro W base args ds gs before hval hW _ hcond hsz hL _ _
  have hL1 := laidMet.tail hL
  have hL2 := laidMet.tail hL1
  have hT : Lib.TabIs Tryz.prog W "internal/strconv.uint64pow10" .u64 Lib.pow10Tab := Lib.tabIs_of_head (g := 3) (by kernel_rfl) (by kernel_rfl) Tryz.underlying149 Tryz.underlying137 (by kernel_rfl) (by kernel_rfl) hL2
  exact contract H enc W (Aside0.mk hT) base args ds gs before hval hW hsz
theorem said : Rows.SfieldBackSaid :=
  OpenClaim.holds_of_cond 7 Tryz.f7 rfl rfl rfl rfl rfl rfl rfl ⟨rfl, rfl, rfl, rfl, rfl⟩ rfl rfl rfl rfl rfl (by kernel_rfl) Tryz.func7 (by kernel_rfl)
    (of_decide_eq_true (by kernel_rfl)) (by unfold Func.isWrapper; first | (rw [if_pos (by decide +kernel)]; kernel_rfl) | (rw [if_neg (by decide +kernel)]; exact ⟨rfl, rfl⟩))
    (fun os started H enc _ F => by rw [OpenClaim.pre_eq_preRow]; exact lifted os started H enc F)
theorem plain (f : FuncId) (fn : Func) (hf : Tryz.pinned.checked.prog.funcNamed "glacis/glacislaw06.SfieldBack" = some f) (hfn : Tryz.pinned.checked.prog.funcs[f]? = some fn) :
    true = Tryz.pinned.checked.prog.looks [] ∧ ∀ (j : Nat) t, fn.params[j]? = some t → Tryz.pinned.checked.prog.wantsStandIn t = false := by
  obtain rfl : f = 7 := Option.some.inj ((show Tryz.prog.funcNamed "glacis/glacislaw06.SfieldBack" = some 7 by kernel_rfl).symm.trans hf) |>.symm
  obtain rfl : fn = Tryz.f7 := (Option.some.inj (Tryz.func7.symm.trans hfn)).symm
  refine ⟨by kernel_rfl, fun j t ht => ?_⟩
  rw [Tryz.params7] at ht
  have hm : t ∈ [23, 9] := by simpa using Array.mem_of_getElem? ht
  have hall : ([23, 9].all fun u => !Tryz.prog.wantsStandIn u) = true := by kernel_rfl
  exact (show Tryz.prog.wantsStandIn t = false by simpa using List.all_eq_true.1 hall t hm)
/-- THE CARD. -/
theorem card : Rows.SfieldBackCardSaid :=
  Claim7.holds_tied_plain_at .later [] _ _ _ _ said (fun _ h => by cases h) (by kernel_rfl) (fun _ h => by cases h) sfieldBack_row_tie rfl ⟨rfl, rfl⟩ (by kernel_rfl) rfl plain (by kernel_rfl)
#print axioms card
end Go.Proofs.YtjdbiicjfpgjkaaGreatDoor.sfieldBack
