/- The law SfieldJoins: its row and card. Its conditions: the row's own. -/
import Derived.Test.YtjdbiicjfpgjkaaGreatDoorZj3
import Derived.Lib.LaidTab
import Derived.Stop.LaidErr
/- Chapter 6: blanks, prefixes, as both readers spell them. -/
namespace Go.Proofs.YtjdbiicjfpgjkaaGreatDoor.Pl
open Go.RowKit Go.Proofs.YtjdbiicjfpgjkaaGreatDoor.Q Go.Proofs.YtjdbiicjfpgjkaaGreatDoor.Sf Go.Proofs.YtjdbiicjfpgjkaaGreatDoorW.PrintWords Go.Proofs.YtjdbiicjfpgjkaaGreatDoorW.PrintLast
set_option linter.unusedVariables false
set_option linter.unusedSimpArgs false
def wsP (c : Int) : Bool := c == 32 || c == 9
theorem eq_of_all (c : UInt8) : [(32 : UInt8)].contains c = spP c.toNat := by
  have := allU (fun c => decide ([(32 : UInt8)].contains c = spP c.toNat)) (by decide +kernel) c
  exact of_decide_eq_true this
theorem eq_of_all2 (c : UInt8) : [(32 : UInt8), 9].contains c = wsP c.toNat := by
  have := allU (fun c => decide ([(32 : UInt8), 9].contains c = wsP c.toNat)) (by decide +kernel) c
  exact of_decide_eq_true this
theorem trim1 (s : ByteArray) : trimLBA s ⟨#[32]⟩ = drpB spP s := by
  apply L_inj
  rw [L_drp]
  show ((⟨(Lib.trimLeftS (L s) [32]).toArray⟩ : ByteArray)).data.toList = _
  simp only [Lib.trimLeftS]
  congr 1
  funext c
  exact eq_of_all c
theorem trim2 (s : ByteArray) : trimLBA s ⟨#[32, 9]⟩ = drpB wsP s := by
  apply L_inj
  rw [L_drp]
  show ((⟨(Lib.trimLeftS (L s) [32, 9]).toArray⟩ : ByteArray)).data.toList = _
  simp only [Lib.trimLeftS]
  congr 1
  funext c
  exact eq_of_all2 c
theorem trimL1_f (s : ByteArray) (hs : s.size ≤ 281474976710656) : strings_TrimLeft.f s ⟨#[32]⟩ = some (drpB spP s) := by
  unfold strings_TrimLeft.f
  rw [if_pos ⟨.inl rfl, hs⟩, trim1]
theorem trimL2_f (s : ByteArray) (hs : s.size ≤ 281474976710656) : strings_TrimLeft.f s ⟨#[32, 9]⟩ = some (drpB wsP s) := by
  unfold strings_TrimLeft.f
  rw [if_pos ⟨.inr rfl, hs⟩, trim2]
theorem cut_f (s : ByteArray) (n : UInt8) : strings_CutPrefix.f s ⟨#[n]⟩ = some (if atF s n.toNat = true then (tl s, true) else (s, false)) := by
  unfold strings_CutPrefix.f stringslite_CutPrefix.f stringslite_HasPrefix.f
  have h1 : (⟨#[n]⟩ : ByteArray).size = 1 := rfl
  by_cases hz : 0 < s.size
  · obtain ⟨c, r, hc⟩ := cons_of s hz
    have e1 : (s.extract 0 1).toList = [c] := by rw [L_toList, L_ext0, hc]; rfl
    have e2 : (⟨#[n]⟩ : ByteArray).toList = [n] := by rw [L_toList]; rfl
    rw [if_pos (by rw [h1]; omega), if_pos (by rw [h1]; omega), if_pos (by rw [h1]; omega)]
    show ((some ((s.extract 0 1).toList == (⟨#[n]⟩ : ByteArray).toList)).bind _).bind _ = _
    rw [e1, e2, atF_cons hc]
    by_cases h : c = n
    · subst h
      simp only [Option.bind_some, beq_self_eq_true, if_true, decide_true]
      rw [if_pos (by rw [h1]; omega), if_pos (by rw [h1]; omega)]
      rfl
    · have h2 : ¬ ((c.toNat : Int) = (n.toNat : Int)) := fun e => h (u_eq e)
      have h3 : ([c] == [n]) = false := by simp [h]
      simp only [Option.bind_some, h3, h2, decide_false]
      rfl
  · have h0 : s.size = 0 := by omega
    have h2 : atF s n.toNat = false := decide_eq_false (fun h => hz h.1)
    rw [if_neg (by rw [h1]; omega), h2]
    rfl
theorem drp_size (p : Int → Bool) (s : ByteArray) : (drpB p s).size ≤ s.size := by
  unfold drpB
  rw [ByteArray.size_extract]
  omega
end Go.Proofs.YtjdbiicjfpgjkaaGreatDoor.Pl
/- Chapter 6: a member, as both readers read it. -/
namespace Go.Proofs.YtjdbiicjfpgjkaaGreatDoor.Pl
open Go.RowKit Go.Proofs.YtjdbiicjfpgjkaaGreatDoor.Q Go.Proofs.YtjdbiicjfpgjkaaGreatDoor.Sf Go.Proofs.YtjdbiicjfpgjkaaGreatDoorW.PrintWords Go.Proofs.YtjdbiicjfpgjkaaGreatDoorW.PrintLast
set_option linter.unusedVariables false
set_option linter.unusedSimpArgs false
def itm (v : Int × Int × ByteArray) (l : List S60) : S31 := ⟨v.1, v.2.1, v.2.2, l⟩
def mIn (its : List S31) (l : List S60) : S34 := ⟨⟨#[]⟩, true, ⟨0, 0, ⟨#[]⟩, []⟩, its, l⟩
def mIt (x : S31) : S34 := ⟨⟨#[]⟩, false, x, [], []⟩
/-- Items between brackets, behind the first one. -/
def rdInner : Nat → ByteArray → List S31 → Option ((List S31 × List S60) × ByteArray)
  | 0, _, _ => none
  | d + 1, s, its => if atF (drpB spP s) 41 = true then (rdParams (tl (drpB spP s))).bind fun p => some ((its, p.1), p.2)
    else (rdNext (drpB spP s)).bind fun x => if its ≠ [] ∧ drpB spP s = s then none else rdInner d x.2.2 (its ++ [itm x.1 x.2.1])
def rdMember (s : ByteArray) : Option (S34 × ByteArray) :=
  if atF s 40 = true then (rdInner s.size (tl s) []).bind fun x => some (mIn x.1.1 x.1.2, x.2) else (rdNext s).bind fun x => some (mIt (itm x.1 x.2.1), x.2.2)
theorem next_lt {s : ByteArray} {v : Int × Int × ByteArray} {l : List S60} {t : ByteArray} (h : rdNext s = some (v, l, t)) : t.size < s.size ∧ l.length ≤ s.size := by
  obtain ⟨u, e, hi, _⟩ := next_inv h
  have h1 := hi.pos
  have h2 := it_count hi
  have h3 : s.size = u.length + t.size := by rw [size_L, size_L, e, List.length_append]
  omega
theorem params_le {s : ByteArray} {l : List S60} {t : ByteArray} (h : rdParams s = some (l, t)) : t.size ≤ s.size ∧ l.length ≤ s.size := by
  obtain ⟨u, e, hi, _⟩ := pt_inv _ _ _ _ _ h
  have h2 := pt_count hi
  have h3 : s.size = u.length + t.size := by rw [size_L, size_L, e, List.length_append]
  simp only [List.length_nil] at h2
  omega
theorem atF_pos {s : ByteArray} {c : Int} (h : atF s c = true) : 0 < s.size := (of_decide_eq_true h).1
theorem inner_lt : ∀ (d : Nat) (s : ByteArray) (its : List S31) (q : List S31 × List S60) (r : ByteArray), rdInner d s its = some (q, r) →
    r.size < s.size ∧ q.2.length ≤ s.size ∧ q.1.length ≤ its.length + s.size ∧ ∀ x ∈ q.1, x ∈ its ∨ x.f3.length ≤ s.size
  | 0, _, _, _, _, h => by cases h
  | d + 1, s, its, q, r, h => by
    have hd := drp_size spP s
    rw [rdInner] at h
    split at h
    · rename_i ha
      obtain ⟨⟨l, t⟩, hp, h⟩ := Option.bind_eq_some_iff.1 h
      obtain ⟨rfl, rfl⟩ := Prod.mk.inj (Option.some.inj h)
      have h1 := params_le hp
      have h2 := atF_pos ha
      rw [size_tl] at h1
      dsimp only
      exact ⟨by omega, by omega, by omega, fun x hx => .inl hx⟩
    · obtain ⟨⟨v, l, t⟩, hp, h⟩ := Option.bind_eq_some_iff.1 h
      split at h
      · cases h
      · have h1 := next_lt hp
        obtain ⟨i1, i2, i3, i4⟩ := inner_lt d _ _ _ _ h
        dsimp only at i1 i2 i3 i4
        simp only [List.length_append, List.length_singleton] at i3
        refine ⟨by omega, by omega, by omega, fun x hx => ?_⟩
        rcases i4 x hx with h5 | h5
        · rcases List.mem_append.1 h5 with h6 | h6
          · exact .inl h6
          · rw [List.mem_singleton.1 h6]; exact .inr (by show l.length ≤ _; omega)
        · exact .inr (by omega)
/-- A member whose lists are no longer than a text. -/
def Fit (n : Nat) (m : S34) : Prop := m.f2.f3.length ≤ n ∧ m.f3.length ≤ n ∧ m.f4.length ≤ n ∧ (∀ i ∈ m.f3, i.f3.length ≤ n) ∧ m.f0.size ≤ n
theorem Fit.mono {n n' : Nat} {m : S34} (h : Fit n m) (hn : n ≤ n') : Fit n' m := ⟨by have := h.1; omega, by have := h.2.1; omega, by have := h.2.2.1; omega, fun i hi => by have := h.2.2.2.1 i hi; omega, by have := h.2.2.2.2; omega⟩
theorem member_lt {s : ByteArray} {m : S34} {r : ByteArray} (h : rdMember s = some (m, r)) : r.size < s.size ∧ Fit s.size m := by
  unfold rdMember at h
  split at h
  · rename_i ha
    obtain ⟨⟨⟨its, l⟩, t⟩, hp, h⟩ := Option.bind_eq_some_iff.1 h
    obtain ⟨rfl, rfl⟩ := Prod.mk.inj (Option.some.inj h)
    obtain ⟨i1, i2, i3, i4⟩ := inner_lt _ _ _ _ _ hp
    have h2 := atF_pos ha
    rw [size_tl] at i1 i2 i3 i4
    dsimp only at i1 i2 i3 i4
    simp only [List.length_nil] at i3
    refine ⟨by dsimp only; omega, by show (0 : Nat) ≤ _; omega, by show its.length ≤ _; omega, by show l.length ≤ _; omega, fun x hx => ?_, Nat.zero_le _⟩
    rcases i4 x hx with h5 | h5
    · cases h5
    · omega
  · obtain ⟨⟨v, l, t⟩, hp, h⟩ := Option.bind_eq_some_iff.1 h
    obtain ⟨rfl, rfl⟩ := Prod.mk.inj (Option.some.inj h)
    have h1 := next_lt hp
    exact ⟨h1.1, by show l.length ≤ _; have := h1.2; omega, Nat.zero_le _, Nat.zero_le _, (fun x hx => by cases hx), Nat.zero_le _⟩
end Go.Proofs.YtjdbiicjfpgjkaaGreatDoor.Pl
/- Chapter 6: the program's reader and the document's, of one member. -/
namespace Go.Proofs.YtjdbiicjfpgjkaaGreatDoor.Pl
open Go.RowKit Go.Proofs.YtjdbiicjfpgjkaaGreatDoor.Q Go.Proofs.YtjdbiicjfpgjkaaGreatDoor.Sf Go.Proofs.YtjdbiicjfpgjkaaGreatDoorW.PrintWords Go.Proofs.YtjdbiicjfpgjkaaGreatDoorW.PrintLast
set_option linter.unusedVariables false
set_option linter.unusedSimpArgs false
def encM (m : S34) (r : ByteArray) : Ten := (m.f0, m.f1, m.f2.f0, m.f2.f1, m.f2.f2, m.f2.f3, m.f3, m.f4, r, 0)
/-- What the program's reader answers. -/
def Told (n : Nat) (x : Ten) (o : Option (S34 × ByteArray)) : Prop := match o with
  | some (m, r) => x = encM m r
  | none => errOf x = 50 ∧ restOf x = ⟨#[]⟩ ∧ x.1.size ≤ n
theorem sp_size (s : ByteArray) : (drpB spP s).size ≤ s.size := drp_size spP s
theorem next_s (s : ByteArray) (hs : s.size ≤ 2199023255552) : sfitem_Next.f s = some (refN (rdNext s)) := by
  unfold sfitem_Next.f
  rw [if_pos hs]
  cases rdNext s with
  | none => rfl
  | some x => rfl
theorem params_s (s : ByteArray) (hs : s.size ≤ 2199023255552) : sfitem_Params.f s = some (refP (rdParams s)) := by
  unfold sfitem_Params.f
  rw [if_pos hs]
  cases rdParams s with
  | none => rfl
  | some x => rfl
theorem inner_s : ∀ (d : Nat) (s : ByteArray) (its : List S31) (k : Nat), s.size < d → s.size ≤ 20000 → its.length + s.size ≤ 20000 → d ≤ k →
    ∃ x, sfield_inner.l0 k s ⟨#[]⟩ true 0 0 ⟨#[]⟩ its = some x ∧ Told 0 x ((rdInner d s its).bind fun q => some (mIn q.1.1 q.1.2, q.2))
  | 0, _, _, _, h, _, _, _ => absurd h (by omega)
  | d + 1, s, its, k, hd, hs, hl, hk => by
    obtain ⟨k, rfl⟩ : ∃ k', k = k' + 1 := ⟨k - 1, by omega⟩
    have hz := sp_size s
    rw [sfield_inner.l0, trimL1_f s (by omega), Option.bind_some, cut_f, Option.bind_some, rdInner]
    by_cases ha : atF (drpB spP s) 41 = true
    · have ha2 : atF (drpB spP s) ((41 : UInt8).toNat : Int) = true := ha
      rw [if_pos ha2, if_pos ha]
      dsimp only
      rw [if_pos rfl, params_s _ (by rw [size_tl]; omega), Option.bind_some]
      cases rdParams (tl (drpB spP s)) with
      | none => exact ⟨_, rfl, rfl, rfl, Nat.le_refl _⟩
      | some p => exact ⟨_, rfl, rfl⟩
    · have ha2 : ¬ atF (drpB spP s) ((41 : UInt8).toNat : Int) = true := ha
      rw [if_neg ha2, if_neg ha]
      dsimp only
      rw [if_neg (by decide), next_s _ (by omega), Option.bind_some]
      cases hn : rdNext (drpB spP s) with
      | none => exact ⟨_, by rw [refN]; dsimp only; rw [if_neg (by decide)], rfl, rfl, Nat.le_refl _⟩
      | some x =>
        obtain ⟨v, l, t⟩ := x
        have h1 := next_lt hn
        simp only [refN, Option.bind_some]
        rw [if_pos trivial]
        by_cases hi : its ≠ []
        · have h2 : (its.length : Int) > 0 := by
            have : 0 < its.length := List.length_pos_iff.2 hi
            omega
          rw [if_pos h2]
          by_cases he : drpB spP s = s
          · rw [if_pos (by rw [he]), if_pos ⟨hi, he⟩]
            exact ⟨_, rfl, rfl, rfl, Nat.le_refl _⟩
          · rw [if_neg (fun e => he (toList_inj.1 e)), if_pos (by omega), if_neg (fun e => he e.2)]
            exact inner_s d t _ k (by omega) (by omega) (by rw [List.length_append, List.length_singleton]; omega) (by omega)
        · have h2 : ¬ (its.length : Int) > 0 := by
            have : its = [] := Classical.not_not.1 hi
            rw [this]; decide
          rw [if_neg h2, if_pos (by omega), if_neg (fun e => hi e.1)]
          exact inner_s d t _ k (by omega) (by omega) (by rw [List.length_append, List.length_singleton]; omega) (by omega)
theorem member_s (s : ByteArray) (hs : s.size ≤ 20000) (k : Nat) (hk : s.size + 1 ≤ k) : ∃ x, sfield_member.f k s = some x ∧ Told 0 x (rdMember s) := by
  unfold sfield_member.f rdMember
  rw [cut_f, Option.bind_some]
  by_cases ha : atF s 40 = true
  · have ha2 : atF s ((40 : UInt8).toNat : Int) = true := ha
    have h0 := atF_pos ha
    rw [if_pos ha2, if_pos ha]
    dsimp only
    rw [if_pos rfl]
    unfold sfield_inner.f
    obtain ⟨x, hx, ht⟩ := inner_s s.size (tl s) [] k (by rw [size_tl]; omega) (by rw [size_tl]; omega) (by rw [size_tl]; simp; omega) (by omega)
    rw [hx, Option.bind_some]
    exact ⟨_, rfl, ht⟩
  · have ha2 : ¬ atF s ((40 : UInt8).toNat : Int) = true := ha
    rw [if_neg ha2, if_neg ha]
    dsimp only
    rw [if_neg (by decide), next_s s (by omega), Option.bind_some]
    cases rdNext s with
    | none => exact ⟨_, rfl, rfl, rfl, Nat.le_refl _⟩
    | some x => exact ⟨_, rfl, rfl⟩
end Go.Proofs.YtjdbiicjfpgjkaaGreatDoor.Pl
/- Chapter 6: lists and dictionaries, as both readers read them. -/
namespace Go.Proofs.YtjdbiicjfpgjkaaGreatDoor.Pl
open Go.RowKit Go.Proofs.YtjdbiicjfpgjkaaGreatDoor.Q Go.Proofs.YtjdbiicjfpgjkaaGreatDoor.Sf Go.Proofs.YtjdbiicjfpgjkaaGreatDoorW.PrintWords Go.Proofs.YtjdbiicjfpgjkaaGreatDoorW.PrintLast
set_option linter.unusedVariables false
set_option linter.unusedSimpArgs false
/-- What stands behind a member, and behind a comma there. -/
def aftR (r : ByteArray) : ByteArray := drpB wsP r
def nxtR (r : ByteArray) : ByteArray := drpB wsP (tl (drpB wsP r))
def rdAll (rd : ByteArray → Option (S34 × ByteArray)) : Nat → ByteArray → Option (List S34)
  | 0, _ => none
  | d + 1, s => if s.toList = [] then some [] else (rd s).bind fun x =>
    if (aftR x.2).toList = [] then some [x.1] else if atF (aftR x.2) 44 = true ∧ (nxtR x.2).toList ≠ [] then (rdAll rd d (nxtR x.2)).bind fun l => some (x.1 :: l) else none
/-- A reader whose rest is less. -/
def Less (rd : ByteArray → Option (S34 × ByteArray)) : Prop := ∀ s m r, rd s = some (m, r) → r.size < s.size ∧ Fit s.size m
theorem less_m : Less rdMember := fun _ _ _ h => member_lt h
theorem aft_size (r : ByteArray) : (aftR r).size ≤ r.size := drp_size _ _
theorem nxt_size (r : ByteArray) : (nxtR r).size ≤ r.size - 1 := by
  have h1 := drp_size wsP (tl (drpB wsP r))
  have h2 := drp_size wsP r
  rw [size_tl] at h1
  show (drpB wsP (tl (drpB wsP r))).size ≤ _
  omega
theorem all_fit {rd : ByteArray → Option (S34 × ByteArray)} (hl : Less rd) : ∀ (d : Nat) (s : ByteArray) (l : List S34), rdAll rd d s = some l → l.length ≤ s.size ∧ ∀ m ∈ l, Fit s.size m
  | 0, _, _, h => by cases h
  | d + 1, s, l, h => by
    rw [rdAll] at h
    split at h
    · obtain rfl := Option.some.inj h
      exact ⟨Nat.zero_le _, fun m hm => by cases hm⟩
    · obtain ⟨⟨m, r⟩, hx, h⟩ := Option.bind_eq_some_iff.1 h
      obtain ⟨h1, h2⟩ := hl _ _ _ hx
      split at h
      · obtain rfl := Option.some.inj h
        exact ⟨by simp; omega, fun q hq => by rw [List.mem_singleton.1 hq]; exact h2⟩
      · split at h
        · obtain ⟨l', hl', h⟩ := Option.bind_eq_some_iff.1 h
          obtain rfl := Option.some.inj h
          obtain ⟨i1, i2⟩ := all_fit hl d _ _ hl'
          have h3 := nxt_size r
          refine ⟨by simp only [List.length_cons]; dsimp only at i1; omega, fun q hq => ?_⟩
          rcases List.mem_cons.1 hq with rfl | hq
          · exact h2
          · exact (i2 q hq).mono (by dsimp only; omega)
        · cases h
def cutR (r : ByteArray) : ByteArray × Bool := if atF (aftR r) 44 = true then (tl (aftR r), true) else (aftR r, false)
theorem mem1_eq {nx : ByteArray → Option Ten} {s : ByteArray} {x : Ten} (hx : nx s = some x) (hr : (restOf x).size ≤ 100000) :
    mem1 nx s = some ((memOf x, if errOf x = 0 ∧ (aftR (restOf x)).toList ≠ [] ∧ ((cutR (restOf x)).2 = false ∨ (drpB wsP (cutR (restOf x)).1).toList = []) then 50 else errOf x), drpB wsP (cutR (restOf x)).1, decide ((aftR (restOf x)).toList = [])) := by
  have h1 := aft_size (restOf x)
  have h2 : (cutR (restOf x)).1.size ≤ (restOf x).size := by
    unfold cutR
    split
    · show (tl (aftR (restOf x))).size ≤ _; rw [size_tl]; omega
    · exact h1
  unfold mem1
  rw [hx, Option.bind_some, trimL2_f _ (by omega), Option.bind_some]
  have e1 : strings_CutPrefix.f (drpB wsP (restOf x)) ⟨#[44]⟩ = some (cutR (restOf x)) := cut_f _ 44
  rw [e1, Option.bind_some, trimL2_f _ (by omega), Option.bind_some]
  rfl
def GoodY (ys : List (S34 × Int)) (o : Option (List S34)) : Prop := match o with
  | some l => ys = l.map (fun m => (m, 0))
  | none => ∃ p m, ys = p ++ [(m, 50)] ∧ ∀ y ∈ p, y.2 = (0 : Int)
theorem mems_l {nx : ByteArray → Option Ten} {rd : ByteArray → Option (S34 × ByteArray)} (hl : Less rd) (hR : ∀ s, s.size ≤ 5000 → ∃ x, nx s = some x ∧ Told 5000 x (rd s)) :
    ∀ (d : Nat) (s : ByteArray), s.size < d → s.size ≤ 5000 → ∃ ys, memsL nx d s = some ys ∧ ys.length ≤ s.size + 1 ∧ (∀ y ∈ ys, y.1.f0.size ≤ 5000) ∧ GoodY ys (rdAll rd d s)
  | 0, _, h, _ => absurd h (by omega)
  | d + 1, s, hd, hs => by
    rw [memsL, rdAll]
    by_cases h0 : s.toList = []
    · rw [if_pos h0, if_pos h0]
      exact ⟨_, rfl, Nat.zero_le _, (fun y hy => by cases hy), rfl⟩
    · rw [if_neg h0, if_neg h0]
      obtain ⟨x, hx, ht⟩ := hR s hs
      cases hr : rd s with
      | none =>
        rw [hr] at ht
        obtain ⟨t1, t2, t3⟩ := ht
        rw [mem1_eq hx (by rw [t2]; decide), Option.bind_some]
        dsimp only
        have e1 : (aftR (restOf x)).toList = [] := by rw [t2, L_toList]; unfold aftR; rw [L_drp]; rfl
        rw [if_pos (.inr (by simp [e1])), t1, if_neg (by omega)]
        exact ⟨_, rfl, by simp, fun y hy => by rw [List.mem_singleton.1 hy]; exact t3, [], memOf x, rfl, fun y hy => by cases hy⟩
      | some y =>
        obtain ⟨m, r⟩ := y
        obtain ⟨h1, h2⟩ := hl _ _ _ hr
        rw [hr] at ht
        obtain rfl : x = encM m r := ht
        have hm : (memOf (encM m r)).f0.size ≤ 5000 := Nat.le_trans h2.2.2.2.2 hs
        rw [mem1_eq hx (by show r.size ≤ _; omega), Option.bind_some, Option.bind_some]
        dsimp only
        have e1 : restOf (encM m r) = r := rfl
        have e2 : memOf (encM m r) = m := rfl
        have e3 : errOf (encM m r) = 0 := rfl
        rw [e1, e3]
        rw [e2] at hm ⊢
        by_cases ha : (aftR r).toList = []
        · have hE : (if (0 : Int) = 0 ∧ (aftR r).toList ≠ [] ∧ ((cutR r).2 = false ∨ (drpB wsP (cutR r).1).toList = []) then (50 : Int) else 0) = 0 := if_neg (fun e => e.2.1 ha)
          rw [hE, if_pos (.inr (by simp [ha])), if_pos ha]
          exact ⟨_, rfl, by simp, fun y hy => by rw [List.mem_singleton.1 hy]; exact hm, rfl⟩
        · by_cases hc : atF (aftR r) 44 = true ∧ (nxtR r).toList ≠ []
          · have e4 : cutR r = (tl (aftR r), true) := if_pos hc.1
            have e5 : drpB wsP (cutR r).1 = nxtR r := by rw [e4]; rfl
            have e6 : (cutR r).2 = true := by rw [e4]
            have h3 := nxt_size r
            have hE : (if (0 : Int) = 0 ∧ (aftR r).toList ≠ [] ∧ ((cutR r).2 = false ∨ (drpB wsP (cutR r).1).toList = []) then (50 : Int) else 0) = 0 := if_neg (fun e => e.2.2.elim (fun h => by rw [e6] at h; cases h) (fun h => hc.2 (by rw [← e5]; exact h)))
            rw [hE, e5, if_neg (by simp [ha]), if_pos (by omega), if_neg ha, if_pos hc]
            obtain ⟨ys, i1, i2, i3, i4⟩ := mems_l hl hR d (nxtR r) (by omega) (by omega)
            rw [i1, Option.bind_some]
            refine ⟨_, rfl, by simp only [List.length_cons]; omega, fun y hy => ?_, ?_⟩
            · rcases List.mem_cons.1 hy with rfl | hy
              · exact hm
              · exact i3 y hy
            · cases hq : rdAll rd d (nxtR r) with
              | none =>
                rw [hq] at i4
                obtain ⟨p, m', j1, j2⟩ := i4
                refine ⟨(m, 0) :: p, m', by rw [j1]; rfl, fun y hy => ?_⟩
                rcases List.mem_cons.1 hy with rfl | hy
                · rfl
                · exact j2 y hy
              | some l =>
                rw [hq] at i4
                have i5 : ys = l.map (fun m => (m, 0)) := i4
                rw [i5]
                rfl
          · have e7 : (cutR r).2 = false ∨ (drpB wsP (cutR r).1).toList = [] := by
              unfold cutR
              by_cases hb : atF (aftR r) 44 = true
              · rw [if_pos hb]
                exact .inr (Classical.byContradiction fun e => hc ⟨hb, e⟩)
              · rw [if_neg hb]; exact .inl rfl
            have hE : (if (0 : Int) = 0 ∧ (aftR r).toList ≠ [] ∧ ((cutR r).2 = false ∨ (drpB wsP (cutR r).1).toList = []) then (50 : Int) else 0) = 50 := if_pos ⟨rfl, ha, e7⟩
            rw [hE, if_pos (.inl (by decide)), if_neg ha, if_neg hc]
            exact ⟨_, rfl, by simp, fun y hy => by rw [List.mem_singleton.1 hy]; exact hm, [], m, rfl, fun y hy => by cases hy⟩
theorem find_bad (p : List (S34 × Int)) (m : S34) (h : ∀ y ∈ p, y.2 = (0 : Int)) : (p ++ [(m, 50)]).find? (fun y => y.2 != 0) = some (m, 50) := by
  rw [List.find?_append]
  have e : p.find? (fun y => y.2 != 0) = none := by
    rw [List.find?_eq_none]
    intro y hy
    simp [h y hy]
  rw [e]
  rfl
theorem find_good (l : List S34) : (l.map (fun m => (m, (0 : Int)))).find? (fun y => y.2 != 0) = none := by
  rw [List.find?_eq_none]
  intro y hy
  obtain ⟨m, _, rfl⟩ := List.mem_map.1 hy
  simp
def outL (o : Option (List S34)) : (List S34) × Int := match o with | some l => (l, 0) | none => ([], 50)
theorem gather_l {ys : List (S34 × Int)} {o : Option (List S34)} (h : GoodY ys o) : gatherL ys = outL o := by
  unfold gatherL
  cases o with
  | none => obtain ⟨p, m, rfl, hp⟩ := h; rw [find_bad p m hp]; rfl
  | some l =>
    obtain rfl : ys = l.map (fun m => (m, 0)) := h
    rw [find_good]
    simp [outL, Function.comp_def]
/-- A field's members. -/
def rdTop (rd : ByteArray → Option (S34 × ByteArray)) (k : Nat) (s : ByteArray) : Option (List S34) := if (s.size : Int) > 4000 then none else rdAll rd k (trimSp s)
theorem trim_size (s : ByteArray) : (trimSp s).size ≤ s.size := by
  have := trim_len (L s)
  rw [size_L, size_L]
  show (L ⟨(Lib.trimB (L s) 32).toArray⟩).length ≤ _
  simpa [L] using this
theorem top_l {nx : ByteArray → Option Ten} {rd : ByteArray → Option (S34 × ByteArray)} (hl : Less rd) (hR : ∀ s, s.size ≤ 5000 → ∃ x, nx s = some x ∧ Told 5000 x (rd s)) (k : Nat) (hk : 5000 < k) (s : ByteArray) (hs : s.size ≤ 5000) :
    ∃ ys, membersF nx k s = some ys ∧ ys.length ≤ 1000000 ∧ (∀ y ∈ ys, y.1.f0.size ≤ 281474976710656) ∧ GoodY ys (rdTop rd k s) := by
  unfold membersF rdTop
  split
  · exact ⟨_, rfl, by simp, fun y hy => by rw [List.mem_singleton.1 hy]; exact Nat.zero_le _, [], _, rfl, fun y hy => by cases hy⟩
  · have h1 := trim_size s
    obtain ⟨ys, i1, i2, i3, i4⟩ := mems_l hl hR k (trimSp s) (by omega) (by omega)
    exact ⟨ys, i1, by omega, fun y hy => Nat.le_trans (i3 y hy) (by decide), i4⟩
theorem list_f (s : ByteArray) (hs : s.size ≤ 5000) (k : Nat) (hk : 6000 < k) : sfield_List.f k s = some (outL (rdTop rdMember k s)) := by
  obtain ⟨ys, h1, h2, _, h4⟩ := top_l (nx := sfield_member.f k) less_m (fun s hs => by
    obtain ⟨x, hx, ht⟩ := member_s s (by omega) k (by omega)
    refine ⟨x, hx, ?_⟩
    cases hm : rdMember s with
    | none => rw [hm] at ht; exact ⟨ht.1, ht.2.1, Nat.le_trans ht.2.2 (Nat.zero_le _)⟩
    | some y => rw [hm] at ht; exact ht) k (by omega) s hs
  unfold sfield_List.f
  rw [h1, Option.bind_some, if_pos h2, gather_l h4]
end Go.Proofs.YtjdbiicjfpgjkaaGreatDoor.Pl
/- Chapter 6: members are the same as themselves. -/
namespace Go.Proofs.YtjdbiicjfpgjkaaGreatDoor.Pl
open Go.RowKit Go.Proofs.YtjdbiicjfpgjkaaGreatDoor.Q Go.Proofs.YtjdbiicjfpgjkaaGreatDoor.Sf Go.Proofs.YtjdbiicjfpgjkaaGreatDoorW.PrintWords Go.Proofs.YtjdbiicjfpgjkaaGreatDoorW.PrintLast
set_option linter.unusedVariables false
set_option linter.unusedSimpArgs false
theorem rd_item (l : List S31) (j : Nat) (h : j < l.length) : rd_T31 l (j : Int) = l[j] := by simp [rd_T31, List.getD_eq_getElem?_getD, h]
theorem rd_memb (l : List S34) (j : Nat) (h : j < l.length) : rd_T34 l (j : Int) = l[j] := by simp [rd_T34, List.getD_eq_getElem?_getD, h]
theorem params_refl (l : List S60) (hl : l.length ≤ 100000) (k : Nat) (hk : l.length < k) : glacisref05_SameParams.f k l l = some true := by
  unfold glacisref05_SameParams.f
  rw [if_pos rfl]
  exact same_loop l hl l.length 0 k (by omega) hk
theorem items_loop (l : List S31) (hl : l.length ≤ 20000) (hf : ∀ i ∈ l, i.f3.length ≤ 20000) : ∀ (m j k : Nat), j + m = l.length → m + 20001 < k → glacisref06_items.l0 k l l (j : Int) = some true
  | 0, j, k, hm, hk => by
    obtain ⟨k, rfl⟩ : ∃ k', k = k' + 1 := ⟨k - 1, by omega⟩
    rw [glacisref06_items.l0, if_neg (by omega)]
  | m + 1, j, k, hm, hk => by
    obtain ⟨k, rfl⟩ : ∃ k', k = k' + 1 := ⟨k - 1, by omega⟩
    have hj : j < l.length := by omega
    have h1 := hf _ (List.getElem_mem hj)
    rw [glacisref06_items.l0, if_pos (by omega), if_pos (by omega), if_pos (by omega), rd_item l j hj, same_refl _ (by omega) _ _ _ k (by omega), Option.bind_some, if_pos rfl, wrap_next j (by omega)]
    exact items_loop l hl hf m (j + 1) k (by omega) (by omega)
theorem items_refl (l : List S31) (hl : l.length ≤ 20000) (hf : ∀ i ∈ l, i.f3.length ≤ 20000) (k : Nat) (hk : 50000 < k) : glacisref06_items.f k l l = some true := by
  unfold glacisref06_items.f
  rw [if_pos rfl]
  exact items_loop l hl hf l.length 0 k (by omega) (by omega)
theorem membs_refl (l : List S34) (hl : l.length ≤ 20000) (hf : ∀ m ∈ l, Fit 20000 m) (k : Nat) (hk : 80000 < k) : glacisref06_Same.f k l l = some true := by
  unfold glacisref06_Same.f
  refine if_pos ⟨rfl, by omega, fun j hj => ?_⟩
  obtain ⟨h1, h2, h3, h4, h5⟩ := hf _ (List.getElem_mem hj)
  rw [rd_memb l j hj]
  unfold okM
  rw [same_refl _ (by omega) _ _ _ k (by omega), items_refl _ h2 h4 k (by omega), params_refl _ (by omega) k (by omega)]
  simp
/-- What is read is the same as itself. -/
theorem top_same {rd : ByteArray → Option (S34 × ByteArray)} (hl : Less rd) (k : Nat) (s : ByteArray) (l : List S34) (h : rdTop rd k s = some l) : l.length ≤ 4000 ∧ ∀ m ∈ l, Fit 4000 m := by
  unfold rdTop at h
  split at h
  · cases h
  · have h1 := trim_size s
    obtain ⟨h2, h3⟩ := all_fit hl _ _ _ h
    exact ⟨by omega, fun m hm => (h3 m hm).mono (by omega)⟩
theorem list_same (s : ByteArray) (hs : s.size ≤ 5000) (k : Nat) (hk : 80000 < k) : ∃ l e, sfield_List.f k s = some (l, e) ∧ glacisref06_Same.f k l l = some true := by
  refine ⟨_, _, list_f s hs k (by omega), ?_⟩
  cases hr : rdTop rdMember k s with
  | none => exact membs_refl [] (by simp) (fun m hm => by cases hm) k hk
  | some l =>
    obtain ⟨h1, h2⟩ := top_same less_m k s l hr
    exact membs_refl l (by omega) (fun m hm => (h2 m hm).mono (by omega)) k hk
end Go.Proofs.YtjdbiicjfpgjkaaGreatDoor.Pl
/- Chapter 6: what text tells what members; such a text is read as them, and what is read is such a text. -/
namespace Go.Proofs.YtjdbiicjfpgjkaaGreatDoor.Pl
open Go.RowKit Go.Proofs.YtjdbiicjfpgjkaaGreatDoor.Q Go.Proofs.YtjdbiicjfpgjkaaGreatDoor.Sf Go.Proofs.YtjdbiicjfpgjkaaGreatDoorW.PrintWords Go.Proofs.YtjdbiicjfpgjkaaGreatDoorW.PrintLast
set_option linter.unusedVariables false
set_option linter.unusedSimpArgs false
/-- What may stand behind an item's text. -/
def Stop (r : List UInt8) : Prop := ∀ c r', r = c :: r' → Endc c = true ∧ c ≠ 59
theorem Stop.nil : Stop [] := fun _ _ h => by cases h
theorem Stop.cons {c : UInt8} (h : Endc c = true) (h2 : c ≠ 59) (r : List UInt8) : Stop (c :: r) := fun _ _ e => by cases e; exact ⟨h, h2⟩
theorem Stop.ends {r : List UInt8} (h : Stop r) : Ends r := fun c r' e => (h c r' e).1
theorem pt_reads {u : List UInt8} {l l1 : List S60} (h : PT u l l1) (r : List UInt8) (hr : Stop r) : ∀ (d : Nat) (s : ByteArray), u.length < d → L s = u ++ r → pF d s l = some (l1, B r) := by
  induction h with
  | nil l =>
    intro d s hd e
    obtain ⟨d, rfl⟩ : ∃ d', d = d' + 1 := ⟨d - 1, by simp at hd; omega⟩
    have e0 : L s = r := e
    have a : atF s 59 = false := by
      cases hu : r with
      | nil => exact atF_nil (e0.trans hu) 59
      | cons x r' => rw [atF_cons (e0.trans hu)]; exact decide_eq_false (fun k => (hr x r' hu).2 (u_eq k))
    rw [pF, a, if_neg (by decide)]
    have : s = B r := L_inj (by rw [e0, L_B])
    rw [this]
  | flag b k u l l1 hb hk h ih =>
    intro d s hd e
    obtain ⟨d, rfl⟩ : ∃ d', d = d' + 1 := ⟨d - 1, by simp at hd; omega⟩
    have e0 : L s = 59 :: (b ++ (k ++ (u ++ r))) := by rw [e]; simp
    have e1 : L (tl s) = b ++ (k ++ (u ++ r)) := by rw [L_tl, e0]; rfl
    have he : Ends (u ++ r) := h.ends.app hr.ends
    rw [pF, atF_cons e0, if_pos (by decide), key_read k (u ++ r) hk (he.not keyU_59) _ (spaces b k _ hb hk _ e1)]
    simp only [Option.bind_some]
    have a : atF (B (u ++ r)) 61 = false := by
      cases hu : u ++ r with
      | nil => exact atF_nil (L_B []) 61
      | cons x u' => rw [atF_cons (L_B (x :: u'))]; exact decide_eq_false (end_ne x (he x u' hu)).2
    rw [a, if_neg (by decide)]
    exact ih d (B (u ++ r)) (by simp at hd; omega) (L_B _)
  | val b k w u n i t l l1 hb hk hv h ih =>
    intro d s hd e
    obtain ⟨d, rfl⟩ : ∃ d', d = d' + 1 := ⟨d - 1, by simp at hd; omega⟩
    have e0 : L s = 59 :: (b ++ (k ++ (61 :: (w ++ (u ++ r))))) := by rw [e]; simp
    have e1 : L (tl s) = b ++ (k ++ (61 :: (w ++ (u ++ r)))) := by rw [L_tl, e0]; rfl
    rw [pF, atF_cons e0, if_pos (by decide), key_read k (61 :: (w ++ (u ++ r))) hk (fun c r' h => by cases h; decide +kernel) _ (spaces b k _ hb hk _ e1)]
    simp only [Option.bind_some]
    rw [atF_cons (L_B (61 :: (w ++ (u ++ r)))), if_pos (by decide), value_read hv (u ++ r) (h.ends.app hr.ends) _ (by rw [L_tl, L_B]; rfl)]
    simp only [Option.bind_some]
    exact ih d (B (u ++ r)) (by simp at hd; omega) (L_B _)
theorem params_reads {u : List UInt8} {l : List S60} (h : PT u [] l) (r : List UInt8) (hr : Stop r) (s : ByteArray) (e : L s = u ++ r) : rdParams s = some (l, B r) := by
  unfold rdParams
  exact pt_reads h r hr _ s (by rw [size_L, e, List.length_append]; omega) e
theorem next_reads {u : List UInt8} {n i : Int} {t : List UInt8} {l : List S60} (h : IT u n i t l) (r : List UInt8) (hr : Stop r) (s : ByteArray) (e : L s = u ++ r) : rdNext s = some ((n, i, B t), l, B r) := by
  obtain ⟨a, b, rfl, hv, hp⟩ := h
  unfold rdNext
  rw [value_read hv (b ++ r) (hp.ends.app hr.ends) s (by rw [e]; simp)]
  simp only [Option.bind_some]
  rw [params_reads hp r hr (B (b ++ r)) (L_B _)]
  rfl
def Beg (c : UInt8) : Bool := !(Endc c) && !(decide (c = 40))
theorem beg_all {P : UInt8 → Bool} (h : (List.range 256).all (fun n => !(P (UInt8.ofNat n)) || Beg (UInt8.ofNat n)) = true) (c : UInt8) (hc : P c = true) : Beg c = true := by
  have := allU (fun c => !(P c) || Beg c) h c
  simpa [hc] using this
theorem beg_dg (c : UInt8) (h : dgU c = true) : Beg c = true := beg_all (P := dgU) (by decide +kernel) c h
theorem beg_to (c : UInt8) (h : toU c = true) : Beg c = true := beg_all (P := toU) (by decide +kernel) c h
theorem vt_head {u : List UInt8} {n i : Int} {t : List UInt8} (h : VT u n i t) : ∃ c u', u = c :: u' ∧ Beg c = true := by
  cases h with
  | int sg w h0 h1 h2 h3 =>
    rcases h0 with rfl | rfl
    · obtain ⟨c, w', rfl⟩ := List.exists_cons_of_ne_nil h1
      exact ⟨c, w', rfl, beg_dg c (h2 c (List.mem_cons_self ..))⟩
    · exact ⟨45, w, rfl, by decide⟩
  | dec sg w p h0 h1 h2 h3 h4 h5 h6 =>
    rcases h0 with rfl | rfl
    · obtain ⟨c, w', rfl⟩ := List.exists_cons_of_ne_nil h1
      exact ⟨c, w' ++ 46 :: p, rfl, beg_dg c (h2 c (List.mem_cons_self ..))⟩
    · exact ⟨45, w ++ 46 :: p, rfl, by decide⟩
  | tok c w h0 h1 => exact ⟨c, w, rfl, beg_to c (h1 c (List.mem_cons_self ..))⟩
  | quo q t h => exact ⟨34, q, rfl, by decide⟩
  | byt h => exact ⟨58, _, rfl, by decide⟩
  | one => exact ⟨63, _, rfl, by decide⟩
  | zero => exact ⟨63, _, rfl, by decide⟩
theorem IT.head {u : List UInt8} {n i : Int} {t : List UInt8} {l : List S60} (h : IT u n i t l) : ∃ c u', u = c :: u' ∧ Beg c = true := by
  obtain ⟨a, b, rfl, hv, hp⟩ := h
  obtain ⟨c, a', rfl, hc⟩ := vt_head hv
  exact ⟨c, a' ++ b, rfl, hc⟩
theorem IT.last {u : List UInt8} {n i : Int} {t : List UInt8} {l : List S60} (h : IT u n i t l) : Last0 u := by
  obtain ⟨a, b, rfl, hv, hp⟩ := h
  rcases pt_last hp with rfl | k
  · simpa using vt_last hv
  · exact k.cons _
theorem beg_ne {c : UInt8} (h : Beg c = true) : c ≠ 32 ∧ c ≠ 9 ∧ c ≠ 41 ∧ c ≠ 40 ∧ c ≠ 44 ∧ c ≠ 59 := by
  refine ⟨?_, ?_, ?_, ?_, ?_, ?_⟩ <;> (rintro rfl; revert h; decide)
def ITm (u : List UInt8) (x : S31) : Prop := IT u x.f0 x.f1 (L x.f2) x.f3
theorem itm_eta (x : S31) : itm (x.f0, x.f1, B (L x.f2)) x.f3 = x := by unfold itm; rw [B_L]
/-- What text, behind a bracket, tells what more items, and what parameters. -/
inductive NT : List UInt8 → List S31 → List S31 → List S60 → Prop
  | shut (b p : List UInt8) (its : List S31) (l : List S60) (hb : ∀ c ∈ b, c = 32) (hp : PT p [] l) : NT (b ++ 41 :: p) its its l
  | item (b u v : List UInt8) (x : S31) (its its' : List S31) (l : List S60) (hb : ∀ c ∈ b, c = 32) (h1 : its ≠ [] → b ≠ []) (hu : ITm u x) (h : NT v (its ++ [x]) its' l) : NT (b ++ (u ++ v)) its its' l
theorem NT.stop {v : List UInt8} {its its' : List S31} {l : List S60} (h : NT v its its' l) (hi : its ≠ []) (r : List UInt8) : Stop (v ++ r) := by
  cases h with
  | shut b p _ _ hb hp =>
    cases b with
    | nil => exact Stop.cons (by decide) (by decide) _
    | cons c b => rw [hb c (List.mem_cons_self ..)]; exact Stop.cons (by decide) (by decide) _
  | item b u v x _ _ _ hb h1 hu h =>
    cases b with
    | nil => exact absurd rfl (h1 hi)
    | cons c b => rw [hb c (List.mem_cons_self ..)]; exact Stop.cons (by decide) (by decide) _
theorem NT.last {v : List UInt8} {its its' : List S31} {l : List S60} (h : NT v its its' l) : Last0 v := by
  induction h with
  | shut b p its l hb hp =>
    rcases pt_last hp with rfl | k
    · exact ⟨b, 41, rfl, by decide⟩
    · have := k.cons (b ++ [41]); simpa using this
  | item b u v x its its' l hb h1 hu h ih => have := ih.cons (b ++ u); simpa using this
theorem drp_sp {s : ByteArray} (b : List UInt8) (c : UInt8) (r : List UInt8) (hb : ∀ x ∈ b, x = 32) (hc : c ≠ 32) (e : L s = b ++ c :: r) : L (drpB spP s) = c :: r := by
  rw [L_drp, e]
  refine (takeW_app (fun c : UInt8 => spP c.toNat) b (c :: r) (fun x hx => by rw [hb x hx]; decide) (fun c' r' h => ?_)).2
  obtain ⟨rfl, _⟩ := List.cons.inj h
  unfold spP
  rw [beq_eq_false_iff_ne]
  intro k
  exact hc (u_eq k)
theorem at_not {s : ByteArray} {c : UInt8} {r : List UInt8} (e : L s = c :: r) (n : UInt8) (h : c ≠ n) : ¬ atF s (n.toNat : Int) = true := by
  rw [atF_cons e]
  intro k
  exact h (u_eq (of_decide_eq_true k))
theorem inner_reads {u : List UInt8} {its its' : List S31} {l : List S60} (h : NT u its its' l) (r : List UInt8) (hr : Stop r) : ∀ (d : Nat) (s : ByteArray), u.length ≤ d → L s = u ++ r → rdInner d s its = some ((its', l), B r) := by
  induction h with
  | shut b p its l hb hp =>
    intro d s hd e
    obtain ⟨d, rfl⟩ : ∃ d', d = d' + 1 := ⟨d - 1, by simp at hd; omega⟩
    have e1 : L (drpB spP s) = 41 :: (p ++ r) := drp_sp b 41 (p ++ r) hb (by decide) (by rw [e]; simp)
    rw [rdInner, if_pos (by rw [atF_cons e1]; rfl), params_reads hp r hr _ (by rw [L_tl, e1]; rfl)]
    rfl
  | item b u v x its its' l hb h1 hu h ih =>
    intro d s hd e
    obtain ⟨c, u', hcu, hc⟩ := IT.head hu
    have hne := beg_ne hc
    obtain ⟨d, rfl⟩ : ∃ d', d = d' + 1 := ⟨d - 1, by rw [hcu] at hd; simp at hd; omega⟩
    have e0 : L s = b ++ c :: (u' ++ (v ++ r)) := by rw [e, hcu]; simp
    have e1 : L (drpB spP s) = c :: (u' ++ (v ++ r)) := drp_sp b c _ hb hne.1 e0
    have e2 : L (drpB spP s) = u ++ (v ++ r) := by rw [e1, hcu]; rfl
    rw [rdInner, if_neg (show ¬ atF (drpB spP s) 41 = true from at_not e1 41 hne.2.2.1), next_reads hu (v ++ r) (h.stop (by simp) r) _ e2, Option.bind_some, itm_eta, if_neg]
    · exact ih d (B (v ++ r)) (by rw [hcu] at hd; simp only [List.length_append, List.length_cons] at hd; omega) (L_B _)
    · rintro ⟨hi, hs⟩
      rw [hs, e0] at e1
      have := congrArg List.length e1
      have hb2 : 0 < b.length := List.length_pos_iff.2 (h1 hi)
      simp only [List.length_append, List.length_cons] at this
      omega
theorem sp_split (s : ByteArray) : ∃ b, L s = b ++ L (drpB spP s) ∧ ∀ c ∈ b, c = 32 := by
  refine ⟨(L s).takeWhile (fun c : UInt8 => spP c.toNat), ?_, ?_⟩
  · rw [L_drp]; exact (span_split _ _).symm
  · intro c hc
    have := all_of_take (q := fun c : UInt8 => spP c.toNat) (L s) c hc
    unfold spP at this
    exact u_eq (beq_iff_eq.1 this)
theorem inner_inv : ∀ (d : Nat) (s : ByteArray) (its its' : List S31) (l : List S60) (r : ByteArray), rdInner d s its = some ((its', l), r) → ∃ u, L s = u ++ L r ∧ NT u its its' l
  | 0, _, _, _, _, _, h => by cases h
  | d + 1, s, its, its', l, r, h => by
    obtain ⟨b, hb1, hb2⟩ := sp_split s
    rw [rdInner] at h
    split at h
    · rename_i ha
      obtain ⟨⟨l2, t⟩, hp, h⟩ := Option.bind_eq_some_iff.1 h
      obtain ⟨h1, rfl⟩ := Prod.mk.inj (Option.some.inj h)
      obtain ⟨rfl, rfl⟩ := Prod.mk.inj h1
      obtain ⟨c, t, e1, e2⟩ := atF_ex ha
      obtain rfl : c = 41 := u_eq e2
      unfold rdParams at hp
      obtain ⟨p, p1, p2, _⟩ := pt_inv _ _ _ _ _ hp
      rw [L_tl, e1] at p1
      have p1 : t = p ++ _ := p1
      refine ⟨b ++ 41 :: p, ?_, NT.shut b p _ _ hb2 p2⟩
      rw [hb1, e1, p1]
      simp
    · obtain ⟨⟨v, l2, t⟩, hp, h⟩ := Option.bind_eq_some_iff.1 h
      split at h
      · cases h
      · rename_i hn
        obtain ⟨u, u1, u2, _⟩ := next_inv hp
        obtain ⟨w, w1, w2⟩ := inner_inv d _ _ _ _ _ h
        dsimp only at u1 w1 w2
        refine ⟨b ++ (u ++ w), ?_, NT.item b u w (itm v l2) _ _ _ hb2 (fun hi hb => hn ⟨hi, ?_⟩) u2 w2⟩
        · rw [hb1, u1, w1]; simp
        · rw [hb, List.nil_append] at hb1
          exact L_inj hb1.symm
/-- What text tells what member of a list. -/
inductive MT : List UInt8 → S34 → Prop
  | inn (u : List UInt8) (its : List S31) (l : List S60) (h : NT u [] its l) : MT (40 :: u) (mIn its l)
  | itm (u : List UInt8) (x : S31) (h : ITm u x) : MT u (mIt x)
theorem member_reads {u : List UInt8} {m : S34} (h : MT u m) (r : List UInt8) (hr : Stop r) (s : ByteArray) (e : L s = u ++ r) : rdMember s = some (m, B r) := by
  unfold rdMember
  cases h with
  | inn u its l h =>
    have e1 : L s = 40 :: (u ++ r) := e
    rw [if_pos (by rw [atF_cons e1]; rfl), inner_reads h r hr s.size (tl s) (by rw [size_L, e1]; simp; omega) (by rw [L_tl, e1]; rfl)]
    rfl
  | itm _ x h =>
    obtain ⟨c, u', hcu, hc⟩ := IT.head h
    have e1 : L s = c :: (u' ++ r) := by rw [e, hcu]; rfl
    rw [if_neg (show ¬ atF s 40 = true from at_not e1 40 (beg_ne hc).2.2.2.1), next_reads h r hr s e, Option.bind_some, itm_eta]
theorem member_inv {s : ByteArray} {m : S34} {r : ByteArray} (h : rdMember s = some (m, r)) : ∃ u, L s = u ++ L r ∧ MT u m := by
  unfold rdMember at h
  split at h
  · rename_i ha
    obtain ⟨⟨⟨its, l⟩, t⟩, hp, h⟩ := Option.bind_eq_some_iff.1 h
    obtain ⟨rfl, rfl⟩ := Prod.mk.inj (Option.some.inj h)
    obtain ⟨c, t, e1, e2⟩ := atF_ex ha
    obtain rfl : c = 40 := u_eq e2
    obtain ⟨u, u1, u2⟩ := inner_inv _ _ _ _ _ _ hp
    rw [L_tl, e1] at u1
    have u1 : t = u ++ _ := u1
    exact ⟨40 :: u, by rw [e1, u1]; rfl, MT.inn u _ _ u2⟩
  · obtain ⟨⟨v, l, t⟩, hp, h⟩ := Option.bind_eq_some_iff.1 h
    obtain ⟨rfl, rfl⟩ := Prod.mk.inj (Option.some.inj h)
    obtain ⟨u, u1, u2, _⟩ := next_inv hp
    exact ⟨u, u1, MT.itm u (itm v l) u2⟩
theorem ws_not {c : UInt8} (h1 : c ≠ 32) (h2 : c ≠ 9) : wsP c.toNat = false := by
  unfold wsP
  rw [Bool.or_eq_false_iff, beq_eq_false_iff_ne, beq_eq_false_iff_ne]
  exact ⟨fun k => h1 (u_eq k), fun k => h2 (u_eq k)⟩
theorem MT.head {u : List UInt8} {m : S34} (h : MT u m) : ∃ c u', u = c :: u' ∧ wsP c.toNat = false ∧ c ≠ 32 := by
  cases h with
  | inn u its l h => exact ⟨40, u, rfl, by decide, by decide⟩
  | itm _ x h =>
    obtain ⟨c, u', e, hc⟩ := IT.head h
    exact ⟨c, u', e, ws_not (beg_ne hc).1 (beg_ne hc).2.1, (beg_ne hc).1⟩
theorem MT.last {u : List UInt8} {m : S34} (h : MT u m) : Last0 u := by
  cases h with
  | inn u its l h => exact h.last.cons [40]
  | itm _ x h => exact IT.last h
/-- A reader, and what text tells what member. -/
structure Tellsm (rd : ByteArray → Option (S34 × ByteArray)) (R : List UInt8 → S34 → Prop) : Prop where
  reads : ∀ u m, R u m → ∀ r, Stop r → ∀ s, L s = u ++ r → rd s = some (m, B r)
  inv : ∀ s m r, rd s = some (m, r) → ∃ u, L s = u ++ L r ∧ R u m
  head : ∀ u m, R u m → ∃ c u', u = c :: u' ∧ wsP c.toNat = false ∧ c ≠ 32
  last : ∀ u m, R u m → Last0 u
theorem tells_m : Tellsm rdMember MT := ⟨fun _ _ h r hr s e => member_reads h r hr s e, fun _ _ _ h => member_inv h, fun _ _ h => h.head, fun _ _ h => h.last⟩
def Ws (w : List UInt8) : Prop := ∀ c ∈ w, wsP c.toNat = true
theorem Ws.app {a b : List UInt8} (ha : Ws a) (hb : Ws b) : Ws (a ++ b) := fun c hc => (List.mem_append.1 hc).elim (ha c) (hb c)
theorem Ws.nil : Ws [] := fun _ h => by cases h
theorem ws_end {c : UInt8} (h : wsP c.toNat = true) : Endc c = true ∧ c ≠ 59 := by
  have := allU (fun c => !(wsP c.toNat) || (Endc c && decide (c ≠ 59))) (by decide +kernel) c
  simpa [h] using this
theorem Ws.stop {w : List UInt8} (h : Ws w) {r : List UInt8} (hr : Stop r) : Stop (w ++ r) := by
  cases w with
  | nil => exact hr
  | cons c w => intro c' r' e; obtain ⟨rfl, _⟩ := List.cons.inj e; exact ws_end (h c (List.mem_cons_self ..))
/-- What text tells what members. -/
inductive LT (R : List UInt8 → S34 → Prop) : List UInt8 → List S34 → Prop
  | one (u : List UInt8) (m : S34) (w : List UInt8) (h : R u m) (hw : Ws w) : LT R (u ++ w) [m]
  | more (u : List UInt8) (m : S34) (w1 w2 v : List UInt8) (ms : List S34) (h : R u m) (hw1 : Ws w1) (hw2 : Ws w2) (hv : LT R v ms) : LT R (u ++ (w1 ++ (44 :: (w2 ++ v)))) (m :: ms)
variable {rd : ByteArray → Option (S34 × ByteArray)} {R : List UInt8 → S34 → Prop}
theorem LT.head (hT : Tellsm rd R) {u : List UInt8} {ms : List S34} (h : LT R u ms) : ∃ c u', u = c :: u' ∧ wsP c.toNat = false ∧ c ≠ 32 := by
  cases h with
  | one u m w h hw => obtain ⟨c, u', rfl, hc⟩ := hT.head _ _ h; exact ⟨c, _, rfl, hc⟩
  | more u m w1 w2 v ms h => obtain ⟨c, u', rfl, hc⟩ := hT.head _ _ h; exact ⟨c, _, rfl, hc⟩
theorem LT.app {a b : List UInt8} {la lb : List S34} (h : LT R a la) (hb : LT R b lb) (w1 w2 : List UInt8) (h1 : Ws w1) (h2 : Ws w2) : LT R (a ++ (w1 ++ (44 :: (w2 ++ b)))) (la ++ lb) := by
  induction h with
  | one u m w h hw =>
    have := LT.more u m (w ++ w1) w2 b lb h (hw.app h1) h2 hb
    simpa using this
  | more u m x1 x2 v ms h hx1 hx2 hv ih =>
    have := LT.more u m x1 x2 _ _ h hx1 hx2 ih
    simpa using this
theorem drp_ws {s : ByteArray} (w r : List UInt8) (hw : Ws w) (hr : ∀ c r', r = c :: r' → wsP c.toNat = false) (e : L s = w ++ r) : L (drpB wsP s) = r := by
  rw [L_drp, e]
  exact (takeW_app (fun c : UInt8 => wsP c.toNat) w r hw hr).2
theorem ws_split (s : ByteArray) : ∃ w, L s = w ++ L (drpB wsP s) ∧ Ws w := by
  refine ⟨(L s).takeWhile (fun c : UInt8 => wsP c.toNat), ?_, fun c hc => all_of_take (q := fun c : UInt8 => wsP c.toNat) (L s) c hc⟩
  rw [L_drp]; exact (span_split _ _).symm
theorem all_reads (hT : Tellsm rd R) {u : List UInt8} {ms : List S34} (h : LT R u ms) : ∀ (d : Nat) (s : ByteArray), u.length < d → L s = u → rdAll rd d s = some ms := by
  induction h with
  | one u m w h hw =>
    intro d s hd e
    obtain ⟨d, rfl⟩ : ∃ d', d = d' + 1 := ⟨d - 1, by omega⟩
    obtain ⟨c, u', hcu, hc⟩ := hT.head _ _ h
    have ea : L (aftR (B w)) = [] := drp_ws w [] hw (fun c r' e => by cases e) (by rw [L_B]; simp)
    rw [rdAll, if_neg (by rw [L_toList, e, hcu]; simp), hT.reads _ _ h w (by have := hw.stop Stop.nil; simpa using this) s e, Option.bind_some, if_pos (by rw [L_toList]; exact ea)]
  | more u m w1 w2 v ms h hw1 hw2 hv ih =>
    intro d s hd e
    obtain ⟨d, rfl⟩ : ∃ d', d = d' + 1 := ⟨d - 1, by omega⟩
    obtain ⟨c, u', hcu, hc⟩ := hT.head _ _ h
    obtain ⟨c2, v', hcv, hc2, _⟩ := LT.head hT hv
    have ea : L (aftR (B (w1 ++ (44 :: (w2 ++ v))))) = 44 :: (w2 ++ v) := drp_ws w1 _ hw1 (fun c r' e => by cases e; decide) (L_B _)
    have en : L (nxtR (B (w1 ++ (44 :: (w2 ++ v))))) = v := by
      refine drp_ws w2 v hw2 (fun c r' e => ?_) ?_
      · rw [hcv] at e; obtain ⟨rfl, _⟩ := List.cons.inj e; exact hc2
      · rw [L_tl]; show (L (aftR _)).tail = _; rw [ea]; rfl
    rw [rdAll, if_neg (by rw [L_toList, e, hcu]; simp), hT.reads _ _ h (w1 ++ (44 :: (w2 ++ v))) (hw1.stop (Stop.cons (by decide) (by decide) _)) s e, Option.bind_some,
      if_neg (by rw [L_toList, ea]; simp), if_pos ⟨by rw [atF_cons ea]; rfl, by rw [L_toList, en, hcv]; simp⟩,
      ih d _ (by simp only [List.length_append, List.length_cons] at hd; omega) en, Option.bind_some]
theorem all_inv (hT : Tellsm rd R) : ∀ (d : Nat) (s : ByteArray) (l : List S34), rdAll rd d s = some l → (L s = [] ∧ l = []) ∨ LT R (L s) l
  | 0, _, _, h => by cases h
  | d + 1, s, l, h => by
    rw [rdAll] at h
    split at h
    · rename_i h0
      obtain rfl := Option.some.inj h
      exact .inl ⟨by rw [← L_toList]; exact h0, rfl⟩
    · obtain ⟨⟨m, r⟩, hx, h⟩ := Option.bind_eq_some_iff.1 h
      obtain ⟨u, u1, u2⟩ := hT.inv _ _ _ hx
      obtain ⟨w1, w11, w12⟩ := ws_split r
      split at h
      · rename_i ha
        obtain rfl := Option.some.inj h
        have e0 : L (drpB wsP r) = [] := by rw [← L_toList]; exact ha
        rw [e0, List.append_nil] at w11
        refine .inr ?_
        rw [u1, w11]
        exact LT.one u m w1 u2 w12
      · split at h
        · rename_i hc
          obtain ⟨l', hl', h⟩ := Option.bind_eq_some_iff.1 h
          obtain rfl := Option.some.inj h
          obtain ⟨c, t, e1, e2⟩ := atF_ex hc.1
          obtain rfl : c = 44 := u_eq e2
          have e1 : L (drpB wsP r) = 44 :: t := e1
          obtain ⟨w2, w21, w22⟩ := ws_split (tl (drpB wsP r))
          rcases all_inv hT d _ _ hl' with ⟨h0, _⟩ | hv
          · exact absurd (by rw [L_toList]; exact h0) hc.2
          · refine .inr ?_
            have e3 : t = w2 ++ L (nxtR r) := by rw [← show L (tl (drpB wsP r)) = t from by rw [L_tl, e1]; rfl]; exact w21
            rw [u1, w11, e1, e3]
            exact LT.more u m w1 w2 _ l' u2 w12 w22 hv
        · cases h
theorem trim_L (s : ByteArray) : L (trimSp s) = Lib.trimB (L s) 32 := by unfold trimSp L; simp
def Bl (b : List UInt8) : Prop := ∀ c ∈ b, c = 32
theorem Bl.ws {b : List UInt8} (h : Bl b) : Ws b := fun c hc => by rw [h c hc]; decide
theorem drop_bl (b u : List UInt8) (hb : Bl b) : (b ++ u).dropWhile (fun c => c == 32) = u.dropWhile (fun c => c == 32) := by
  induction b with
  | nil => rfl
  | cons c b ih =>
    rw [List.cons_append, List.dropWhile_cons, if_pos (by rw [hb c (List.mem_cons_self ..)]; decide)]
    exact ih (fun x hx => hb x (List.mem_cons_of_mem _ hx))
theorem drop_ex (u : List UInt8) : ∃ b, u = b ++ u.dropWhile (fun c => c == 32) ∧ Bl b :=
  ⟨u.takeWhile (fun c => c == 32), (List.takeWhile_append_dropWhile).symm, fun c hc => by simpa using all_of_take (q := fun c => c == 32) u c hc⟩
theorem trim_ex (u : List UInt8) : ∃ a b, u = a ++ (Lib.trimB u 32 ++ b) ∧ Bl a ∧ Bl b := by
  obtain ⟨b, h1, h2⟩ := drop_ex u.reverse
  have e1 : u = (u.reverse.dropWhile (fun c => c == 32)).reverse ++ b.reverse := by
    have := congrArg List.reverse h1
    rw [List.reverse_reverse, List.reverse_append] at this
    exact this
  obtain ⟨a, h3, h4⟩ := drop_ex (u.reverse.dropWhile (fun c => c == 32)).reverse
  refine ⟨a, b.reverse, ?_, h4, fun c hc => h2 c (List.mem_reverse.1 hc)⟩
  rw [← List.append_assoc]
  show u = (a ++ (u.reverse.dropWhile (fun c => c == 32)).reverse.dropWhile (fun c => c == 32)) ++ b.reverse
  rw [← h3]
  exact e1
theorem trim_mid (a u b : List UInt8) (ha : Bl a) (hb : Bl b) (hu : ∃ c u', u = c :: u' ∧ c ≠ 32) (hl : Last0 u) : Lib.trimB (a ++ (u ++ b)) 32 = u := by
  have h1 : Lib.trimRightB (a ++ (u ++ b)) 32 = a ++ u := by
    obtain ⟨w, x, rfl, hx⟩ := hl
    unfold Lib.trimRightB
    rw [List.reverse_append, List.reverse_append, List.append_assoc]
    have := drop_bl b.reverse ((w ++ [x]).reverse ++ a.reverse) (fun c hc => hb c (List.mem_reverse.1 hc))
    rw [show (fun c : UInt8 => c == 32) = (· == 32) from rfl] at this
    rw [this, List.reverse_append, List.reverse_singleton, List.singleton_append, List.cons_append, List.dropWhile_cons, if_neg (by simpa using hx)]
    simp
  unfold Lib.trimB
  rw [h1]
  unfold Lib.trimLeftB
  have := drop_bl a u ha
  rw [show (fun c : UInt8 => c == 32) = (· == 32) from rfl] at this
  obtain ⟨c, u', rfl, hc⟩ := hu
  rw [this, List.dropWhile_cons, if_neg (by simpa using hc)]
theorem trim_last (u : List UInt8) (h : Lib.trimB u 32 ≠ []) : Last0 (Lib.trimB u 32) := by
  unfold Lib.trimB at h ⊢
  have hl : Lib.trimRightB u 32 ≠ [] := by
    intro e
    rw [e] at h
    exact h rfl
  have h2 : Last0 (Lib.trimRightB u 32) := by
    unfold Lib.trimRightB at hl ⊢
    have hne : u.reverse.dropWhile (· == 32) ≠ [] := fun e => hl (by rw [e]; rfl)
    obtain ⟨c, r, hcr⟩ := List.exists_cons_of_ne_nil hne
    rw [hcr]
    exact ⟨r.reverse, c, by simp, fun e => by have := dropW_head _ _ _ _ hcr; rw [e] at this; revert this; decide⟩
  obtain ⟨w, x, hw, hx⟩ := h2
  rw [hw] at h ⊢
  unfold Lib.trimLeftB at h ⊢
  by_cases hwb : Bl w
  · have := drop_bl w [x] hwb
    rw [show (fun c : UInt8 => c == 32) = (· == 32) from rfl] at this
    rw [this, List.dropWhile_cons, if_neg (by simpa using hx)]
    exact ⟨[], x, rfl, hx⟩
  · obtain ⟨b, h1, h2⟩ := drop_ex w
    obtain ⟨c, r, hcr⟩ : ∃ c r, w.dropWhile (fun c => c == 32) = c :: r := by
      cases e : w.dropWhile (fun c => c == 32) with
      | nil => rw [e, List.append_nil] at h1; rw [← h1] at h2; exact absurd h2 hwb
      | cons c r => exact ⟨c, r, rfl⟩
    have hc : c ≠ 32 := fun e => by have := dropW_head _ _ _ _ hcr; rw [e] at this; revert this; decide
    have e2 : w ++ [x] = b ++ (c :: r ++ [x]) := by rw [h1, hcr]; simp
    rw [e2]
    have := drop_bl b (c :: r ++ [x]) h2
    rw [show (fun c : UInt8 => c == 32) = (· == 32) from rfl] at this
    rw [this, List.cons_append, List.dropWhile_cons, if_neg (by simpa using hc)]
    exact ⟨c :: r, x, rfl, hx⟩
/-- A field's members, told by its text. -/
theorem top_read (hT : Tellsm rd R) {s : ByteArray} {ms : List S34} (h : LT R (Lib.trimB (L s) 32) ms) (k : Nat) (hk : 4000 < k) (hs : s.size ≤ 4000) : rdTop rd k s = some ms := by
  unfold rdTop
  rw [if_neg (by omega)]
  have := trim_size s
  exact all_reads hT h k (trimSp s) (by rw [← trim_L, ← size_L]; omega) (trim_L s)
theorem top_inv (hT : Tellsm rd R) {s : ByteArray} {ms : List S34} {k : Nat} (h : rdTop rd k s = some ms) : s.size ≤ 4000 ∧ ((Lib.trimB (L s) 32 = [] ∧ ms = []) ∨ LT R (Lib.trimB (L s) 32) ms) := by
  unfold rdTop at h
  split at h
  · cases h
  · rename_i h0
    refine ⟨by omega, ?_⟩
    have := all_inv hT _ _ _ h
    rwa [trim_L] at this
theorem LT.head32 (hT : Tellsm rd R) {u : List UInt8} {ms : List S34} (h : LT R u ms) : ∃ c u', u = c :: u' ∧ c ≠ 32 := by
  obtain ⟨c, u', e, _, hc⟩ := LT.head hT h
  exact ⟨c, u', e, hc⟩
/-- Two fields' members, with a comma and blanks between. -/
theorem top_join (hT : Tellsm rd R) {a b : List UInt8} {la lb : List S34} (ha : LT R (Lib.trimB a 32) la) (hb : LT R (Lib.trimB b 32) lb) (w1 w2 : List UInt8) (h1 : Ws w1) (h2 : Ws w2) (s : ByteArray) (e : L s = a ++ (w1 ++ (44 :: (w2 ++ b)))) (hs : s.size ≤ 4000) (k : Nat) (hk : 4000 < k) : rdTop rd k s = some (la ++ lb) := by
  obtain ⟨a1, a2, ea, ha1, ha2⟩ := trim_ex a
  obtain ⟨b1, b2, eb, hb1, hb2⟩ := trim_ex b
  have hbl : Last0 (Lib.trimB b 32) := trim_last b (by obtain ⟨c, u', e, _⟩ := LT.head hT hb; rw [e]; simp)
  have hah := LT.head32 hT ha
  generalize Lib.trimB a 32 = ua at ha ea hah
  generalize Lib.trimB b 32 = ub at hb eb hbl
  have hj := LT.app ha hb (a2 ++ w1) (w2 ++ b1) (ha2.ws.app h1) (h2.app hb1.ws)
  refine top_read hT ?_ k hk hs
  have e2 : L s = a1 ++ ((ua ++ ((a2 ++ w1) ++ (44 :: ((w2 ++ b1) ++ ub)))) ++ b2) := by
    rw [e, ea, eb]; simp
  rw [e2, trim_mid a1 _ b2 ha1 hb2]
  · exact hj
  · obtain ⟨c, u', rfl, hc⟩ := hah
    exact ⟨c, _, rfl, hc⟩
  · have := hbl.cons (ua ++ ((a2 ++ w1) ++ (44 :: (w2 ++ b1))))
    simpa using this
end Go.Proofs.YtjdbiicjfpgjkaaGreatDoor.Pl
/- Two lists, with a comma between, are one list, and a field that is an item is a list of it: over the printed functions. -/
namespace Go.Proofs.YtjdbiicjfpgjkaaGreatDoor.Pure
open Go.RowKit Go.Proofs.YtjdbiicjfpgjkaaGreatDoor.Q Go.Proofs.YtjdbiicjfpgjkaaGreatDoor.Sf Go.Proofs.YtjdbiicjfpgjkaaGreatDoor.Pl Go.Proofs.YtjdbiicjfpgjkaaGreatDoorW.PrintWords Go.Proofs.YtjdbiicjfpgjkaaGreatDoorW.PrintLast
set_option linter.unusedVariables false
/-- A field that is an item is a list of it. -/
theorem parse_list (s : ByteArray) (hs : s.size ≤ 1000) : ∃ x : Int × Int × ByteArray × List S60 × Int, sfitem_Parse.f s = some x ∧ (x.2.2.2.2 = 0 → ∀ k, 4000 < k → rdTop rdMember k s = some [mIt ⟨x.1, x.2.1, x.2.2.1, x.2.2.2.1⟩]) := by
  have h1 := trim_size s
  unfold sfitem_Parse.f strings_Trim.f
  rw [if_pos ⟨rfl, by omega⟩, Option.bind_some, next_s _ (by omega), Option.bind_some]
  cases hn : rdNext (trimSp s) with
  | none => exact ⟨_, if_neg (by decide), fun h => absurd h (by decide)⟩
  | some y =>
    obtain ⟨v, l, t⟩ := y
    have e : refN (some (v, l, t)) = (v.1, v.2.1, v.2.2, l, t, 0) := rfl
    rw [e]
    dsimp only
    rw [if_pos rfl]
    by_cases ht : t.toList = ([] : List UInt8)
    · rw [if_pos ht, if_neg (by omega)]
      refine ⟨_, rfl, fun _ k hk => ?_⟩
      obtain ⟨u, a1, a2, _⟩ := next_inv hn
      have ht' : L t = [] := by rw [← L_toList]; exact ht
      rw [ht', List.append_nil, trim_L] at a1
      have hi : ITm u ⟨v.1, v.2.1, v.2.2, l⟩ := a2
      have hl := LT.one u (mIt ⟨v.1, v.2.1, v.2.2, l⟩) [] (MT.itm u _ hi) Ws.nil
      rw [List.append_nil, ← a1] at hl
      exact top_read tells_m hl k hk (by omega)
    · rw [if_neg ht]
      exact ⟨_, rfl, fun h => absurd h (by decide)⟩
theorem SfieldJoins : ∀ (a0 : ByteArray) (a1 : ByteArray), a0.size ≤ 140737488351232 → a1.size ≤ 140737488351232 → ∃ k, glacislaw06_SfieldJoins.f k a0 a1 = some true := by
  intro a b _ _
  refine ⟨300000, ?_⟩
  unfold glacislaw06_SfieldJoins.f
  rw [if_neg (fun h => h (awake6 300000 (by omega)))]
  by_cases hz : a.size > 1000 ∨ b.size > 1000
  · rw [if_pos hz]
  · rw [if_neg hz]
    have z4 : (⟨#[9, 44, 32, 32]⟩ : ByteArray).size = 4 := rfl
    have sz : ((a ++ (⟨#[9, 44, 32, 32]⟩ : ByteArray)) ++ b).size ≤ 2004 := by rw [ByteArray.size_append, ByteArray.size_append]; omega
    obtain ⟨l, e, la, ls⟩ := list_same a (by omega) 300000 (by omega)
    obtain ⟨m, f, ma, _⟩ := list_same b (by omega) 300000 (by omega)
    obtain ⟨n, g, na, ns⟩ := list_same ((a ++ (⟨#[9, 44, 32, 32]⟩ : ByteArray)) ++ b) (by omega) 300000 (by omega)
    obtain ⟨x, xa, xl⟩ := parse_list a (by omega)
    rw [la, Option.bind_some, ma, Option.bind_some, na, Option.bind_some]
    dsimp only
    have la2 := la
    have ma2 := ma
    have na2 := na
    rw [list_f a (by omega) 300000 (by omega)] at la2
    rw [list_f b (by omega) 300000 (by omega)] at ma2
    rw [list_f _ (by omega) 300000 (by omega)] at na2
    have top : ∀ (s : ByteArray) (q : List S34) (c : Int), some (outL (rdTop rdMember 300000 s)) = some (q, c) → c = 0 → rdTop rdMember 300000 s = some q := by
      intro s q c h hc
      cases hr : rdTop rdMember 300000 s with
      | none =>
        rw [hr] at h
        obtain ⟨_, h2⟩ := Prod.mk.inj (Option.some.inj h)
        rw [hc] at h2
        exact absurd h2 (by decide)
      | some y =>
        rw [hr] at h
        obtain ⟨h1, _⟩ := Prod.mk.inj (Option.some.inj h)
        rw [h1]
    have len : ∀ (s : ByteArray) (q : List S34) (c : Int), some (outL (rdTop rdMember 300000 s)) = some (q, c) → q.length ≤ 4000 := by
      intro s q c h
      cases hr : rdTop rdMember 300000 s with
      | none =>
        rw [hr] at h
        obtain ⟨h1, _⟩ := Prod.mk.inj (Option.some.inj h)
        rw [← h1]
        simp
      | some y =>
        rw [hr] at h
        obtain ⟨h1, _⟩ := Prod.mk.inj (Option.some.inj h)
        rw [← h1]
        exact (top_same less_m 300000 s y hr).1
    rw [if_neg (by simp only [Decidable.not_not]; exact ⟨by have := len a l e la2; omega, by have := len b m f ma2; omega⟩), if_neg, xa, Option.bind_some]
    · by_cases hx : x.2.2.2.2 = 0
      · rw [if_neg (by simpa using hx)]
        have hr := xl hx 300000 (by omega)
        rw [hr] at la2
        obtain ⟨h1, h2⟩ := Prod.mk.inj (Option.some.inj la2)
        have h2 : (0 : Int) = e := h2
        refine if_pos ⟨h2.symm, ?_⟩
        rw [← h1] at ls ⊢
        exact ls
      · rw [if_pos hx]
    · rintro ⟨⟨c1, c2, c3, c4⟩, c5⟩
      apply c5
      have ra := top a l e la2 c1
      have rb := top b m f ma2 c2
      obtain ⟨_, ia⟩ := top_inv tells_m ra
      obtain ⟨_, ib⟩ := top_inv tells_m rb
      rcases ia with ⟨_, rfl⟩ | ia
      · exact absurd c3 (by simp)
      · rcases ib with ⟨_, rfl⟩ | ib
        · exact absurd c4 (by simp)
        · have rj := top_join tells_m ia ib [9] [32, 32] (fun c hc => by rw [List.mem_singleton.1 hc]; decide) (fun c hc => by
            have : c = 32 := by simpa using hc
            rw [this]; decide) ((a ++ (⟨#[9, 44, 32, 32]⟩ : ByteArray)) ++ b) (by
            rw [L_app, L_app]
            show (L a ++ [9, 44, 32, 32]) ++ L b = _
            simp) (by omega) 300000 (by omega)
          rw [rj] at na2
          obtain ⟨h1, h2⟩ := Prod.mk.inj (Option.some.inj na2)
          have h1 : l ++ m = n := h1
          have h2 : (0 : Int) = g := h2
          rw [h1]
          exact ⟨ns, h2.symm⟩
end Go.Proofs.YtjdbiicjfpgjkaaGreatDoor.Pure
/- The law glacis/glacislaw06.SfieldJoins, for every input: its call returns true and leaves its arguments as they were; the row, and its card. Its conditions: the row's own. -/
namespace Go.Proofs.YtjdbiicjfpgjkaaGreatDoor.sfieldJoins
open Go.ChangeShapes Go.WideShapes Go.ChangeAt Go.RowKit
open Go.Proofs.YtjdbiicjfpgjkaaGreatDoor Go.Proofs.YtjdbiicjfpgjkaaGreatDoorW.PrintWords
open Go.ChangeMaps (open_string shut_string)
open Go.Proofs.YtjdbiicjfpgjkaaGreatDoor.rc
set_option linter.unusedVariables false
theorem walk (W : World) (hT : Aside0 (Q.TabW W)) (a0 : ByteArray) (a1 : ByteArray) (h0 : a0.size ≤ 140737488351232) (h1 : a1.size ≤ 140737488351232) :
    Calls Tryz.prog 5 #[.string a0, .string a1] W fun e w' => e = .returned (.bool true) ∧ Below W.heap.size W w' := by
  obtain ⟨k, h⟩ := YtjdbiicjfpgjkaaGreatDoor.Pure.SfieldJoins a0 a1 h0 h1
  refine (YtjdbiicjfpgjkaaGreatDoor.Q.glacislaw06_SfieldJoins.calls k a0 a1 true W hT h).mono ?_
  rintro e w' ⟨rfl, hd⟩
  first | exact ⟨rfl, hd⟩ | exact ⟨rfl, hd.below⟩
set_option maxRecDepth 100000 in
theorem contract (H : Type) (enc : TypeId × Value → H) (W : World) (hT : Aside0 (Q.TabW W)) (base : Nat) (args : Array Value) (ds gs : List (DataW H)) (before : List MemPlace)
    (hval : ∀ (j : Nat) t v, Tryz.f5.params[j]? = some t → args[j]? = some v → Value.okWide Tryz.prog W .any base t v)
    (hW : DataW.Whole enc Tryz.prog Tryz.f5.params.toList Rows.sfieldJoinsSpec.vars false W args.toList ds gs before)
    (hsz : (DataW.weightsEach Tryz.prog (Tryz.f5.params.toList ++ Rows.sfieldJoinsSpec.plain.varTypes Tryz.prog) (ds ++ gs)).all (· ≤ reachBytes) = true) :
    Calls Tryz.prog 5 args W fun e W' => ∃ v, e = .returned v ∧ Rows.sfieldJoinsSpec.post enc Tryz.prog Tryz.f5 false true false false W args v W' := by
  have hW' := hW
  obtain ⟨p, q, hA0, hV, rfl, hfz, hnd⟩ := hW
  have hA : DataW.TrodAll enc Tryz.prog W 0 (fun _ => true) true Tryz.f5.params.toList args.toList ds p := hA0
  rw [Tryz.params5] at hA hval hsz
  obtain ⟨v0, vs0, d0, ds0, p0, q0, hargs, rfl, rfl, h0, r0⟩ := trodAll_cons hA
  obtain ⟨v1, vs1, d1, ds1, p1, q1, rfl, rfl, rfl, h1, r1⟩ := trodAll_cons r0
  obtain ⟨rfl, rfl, rfl⟩ := trodAll_nil r1
  obtain rfl : args = #[v0, v1] := by cases args; simp_all
  obtain ⟨rfl, rfl⟩ := trodVars_none hV
  obtain ⟨a0, rfl, rfl, rfl, y0⟩ := open_string Tryz.underlying9 (hval 0 9 v0 rfl rfl) h0
  obtain ⟨a1, rfl, rfl, rfl, y1⟩ := open_string Tryz.underlying9 (hval 1 9 v1 rfl rfl) h1
  have w0 : a0.size ≤ 140737488351232 := by
    have z := sized_string hsz (j := 0) (t := 9) rfl rfl
    rw [Array.length_toList] at z
    exact z
  have w1 : a1.size ≤ 140737488351232 := by
    have z := sized_string hsz (j := 1) (t := 9) rfl rfl
    rw [Array.length_toList] at z
    exact z
  clear hA0
  refine (walk W hT a0 a1 w0 w1).mono fun e W' ⟨he, bel⟩ => ?_
  subst he
  exact ⟨_, rfl, _, _, _, [], _, [], hW', trodAll_mk1 (shut_bool Tryz.underlying4 _), (trodAll_cons_mk (shut_string Tryz.underlying9 y0) (trodAll_cons_mk (shut_string Tryz.underlying9 y1) trodAll_mk0)), rfl, bel.frame _, fun h => by cases h⟩
theorem laid_met (os : Os) : laidMet Tryz.prog Rows.sfieldJoinsRow.laid ((laidWorld os).forCall (fun _ _ => 0) ⟨#[], #[.string ByteArray.empty, .string ByteArray.empty], []⟩).memory :=
  laidMet_of_run' 8 (by kernel_rfl) (by kernel_rfl)
theorem reads (os : Os) {H : Type} (enc : TypeId × Value → H) : ∃ places, DataW.whole enc Tryz.prog ((laidWorld os).forCall (fun _ _ => 0) ⟨#[], #[.string ByteArray.empty, .string ByteArray.empty], []⟩).memory Tryz.f5.params.toList Rows.sfieldJoinsSpec.vars false (#[.string ByteArray.empty, .string ByteArray.empty] : Array Value).toList 8 = some ([.lit (.string []), .lit (.string [])], [], places) :=
  ⟨[], by kernel_rfl⟩
set_option maxRecDepth 100000 in
theorem lifted (os : Os) (started : os.Started) (H : Type) (enc : TypeId × Value → H) (F : Stop.Interp) :
    ReturnsInHanded {} Tryz.checked os 5 .any ((OpenSpec.ofChange Rows.sfieldJoinsSpec).preRow enc Tryz.prog Tryz.f5 Rows.sfieldJoinsRow.domain false Rows.sfieldJoinsRow.laid) (((OpenSpec.ofChange Rows.sfieldJoinsSpec).at F).post enc Tryz.prog Tryz.f5 false true false false) := by
  obtain ⟨places, hx⟩ := reads os enc
  refine returnsInHanded_of_row (C := Tryz.checked) (s := (OpenSpec.ofChange Rows.sfieldJoinsSpec)) own started (by kernel_rfl) Tryz.func5
    (witness_row_at (enc := enc) (C := Tryz.checked) false (laidWorld os) #[.string ByteArray.empty, .string ByteArray.empty] rfl (by kernel_rfl) (by kernel_rfl) (by kernel_rfl)
      (OpenSpec.preRow_of_cond 8 hx (by kernel_rfl) (fun k hk => by cases hk) (by kernel_rfl) (laid_met os))) ?_
  intro W base args ds gs before hval hW _ hcond hsz hL _ _
  have hL1 := laidMet.tail hL
  have hL2 := laidMet.tail hL1
  have hT : Lib.TabIs Tryz.prog W "internal/strconv.uint64pow10" .u64 Lib.pow10Tab := Lib.tabIs_of_head (g := 3) (by kernel_rfl) (by kernel_rfl) Tryz.underlying149 Tryz.underlying137 (by kernel_rfl) (by kernel_rfl) hL2
  exact contract H enc W (Aside0.mk hT) base args ds gs before hval hW hsz
theorem said : Rows.SfieldJoinsSaid :=
  OpenClaim.holds_of_cond 5 Tryz.f5 rfl rfl rfl rfl rfl rfl rfl ⟨rfl, rfl, rfl, rfl, rfl⟩ rfl rfl rfl rfl rfl (by kernel_rfl) Tryz.func5 (by kernel_rfl)
    (of_decide_eq_true (by kernel_rfl)) (by unfold Func.isWrapper; first | (rw [if_pos (by decide +kernel)]; kernel_rfl) | (rw [if_neg (by decide +kernel)]; exact ⟨rfl, rfl⟩))
    (fun os started H enc _ F => by rw [OpenClaim.pre_eq_preRow]; exact lifted os started H enc F)
theorem plain (f : FuncId) (fn : Func) (hf : Tryz.pinned.checked.prog.funcNamed "glacis/glacislaw06.SfieldJoins" = some f) (hfn : Tryz.pinned.checked.prog.funcs[f]? = some fn) :
    true = Tryz.pinned.checked.prog.looks [] ∧ ∀ (j : Nat) t, fn.params[j]? = some t → Tryz.pinned.checked.prog.wantsStandIn t = false := by
  obtain rfl : f = 5 := Option.some.inj ((show Tryz.prog.funcNamed "glacis/glacislaw06.SfieldJoins" = some 5 by kernel_rfl).symm.trans hf) |>.symm
  obtain rfl : fn = Tryz.f5 := (Option.some.inj (Tryz.func5.symm.trans hfn)).symm
  refine ⟨by kernel_rfl, fun j t ht => ?_⟩
  rw [Tryz.params5] at ht
  have hm : t ∈ [9, 9] := by simpa using Array.mem_of_getElem? ht
  have hall : ([9, 9].all fun u => !Tryz.prog.wantsStandIn u) = true := by kernel_rfl
  exact (show Tryz.prog.wantsStandIn t = false by simpa using List.all_eq_true.1 hall t hm)
/-- THE CARD. -/
theorem card : Rows.SfieldJoinsCardSaid :=
  Claim7.holds_tied_plain_at .later [] _ _ _ _ said (fun _ h => by cases h) (by kernel_rfl) (fun _ h => by cases h) sfieldJoins_row_tie rfl ⟨rfl, rfl⟩ (by kernel_rfl) rfl plain (by kernel_rfl)
#print axioms card
end Go.Proofs.YtjdbiicjfpgjkaaGreatDoor.sfieldJoins
